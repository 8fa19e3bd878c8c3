/-
  Part 4 of the walk: contracts of the functions that the law reaches, and the calculus they stand on.
  No conditions.
-/
import Derived.Test.YtjjiclcgdngfdaaGreatDoorV3
import Derived.ProofKit
import Derived.OpenShut
import Derived.WideKeyArgs
import Derived.ChangeSame
import Derived.ChangeMaps5
import Derived.Lib.LaidTab
import Derived.SliceStrings
import Derived.DataReads
import Derived.Deep.Strs
section
open Go Go.Proofs Go.Sx Go.StP Go.Flo
namespace Go.Proofs
set_option maxRecDepth 10000
set_option maxHeartbeats 400000
set_option linter.unusedSimpArgs false
def BndD (l:List PartL):Prop:= ∀g,g<l.length→(l.getD g fJ).x.length<100000000
theorem wH {α:Type} {enc:α→List Value} {m:Nat} {D:aA} {E:TypeId} {v:Value} {l:List α} (h:GrI D E m v l.length (l.map enc).flatten) (hn: (keys D).Nodup):l.length=0∨ ∃b c rest,v=vsl b 0 l.length c∧b∈keys D∧Sx.look D b=some (dQ enc E rest l):=by
 obtain⟨X,hX,h| ⟨h0,-⟩⟩:=h
 ·rcases h.inv with⟨-,h0,-⟩ | ⟨b,c,rest,rfl,hl,h1,h2,h3,h4⟩
  ·exact .inl h0
  ·exact .inr ⟨b,c,rest,rfl,List.mem_map_of_mem (f:=Prod.fst) (hX _ (bh hl)),w5 hn (hX _ (bh hl))⟩
 ·exact .inl h0
structure TrG where
 n:Nat
 s:List UInt8
 DG:aA
set_option linter.defProp false
def eS:=And.intro (And.intro (And.intro (@ay) (@ax)) (And.intro (@VP) (@Un))) (And.intro (And.intro (@VG) (@E4)) (And.intro (@Sx.tup2_0) (@Sx.tup2_1)))
theorem IG (v0:Value) (l:List PartL) (a0:Int) (w:World) (hv:zg w v0 l) (hb:BndD l):
  Rets Tryz.prog 190 #[v0,vi a0] w (fun v D=>v=lz (partV l a0)∧D= []):=by
 obtain⟨bb,off,arr,E,fz,hr⟩:=hv.row
 refine Rets.enterV Tryz.func190 rfl (rs:= [.tmp 4, .tmp 5]) Tryz.results190 Tryz.ntmps190 ?_
 refine kf ?_
 first|with_reducible refine ks [] @eS ?_|refine kp @eS ?_
 refine Ow.callC rfl rfl Tryz.call214 (fun w' aB=>K7 v0 l a0 w' (hv.oldN aB trivial)) (fun B1 v1 D1 bv dh bX cz=> ?_)
 have cy:=bX.mono dh
 unfold jY at cz
 unfold partV
 cases hp:j6 l a0 with
 |error e=>
  rw[hp] at cz
  have tT:v1= .tuple #[.slice none 0 0,vi e]:=cz
  subst tT
  have e0: (e !=0)=true:=by rw[bne_iff_ne];exact wc hp
  refine ko @eS ?_
  first|with_reducible refine ks [] (And.intro @eS @e0) ?_|refine kp (And.intro @eS @e0) ?_
  refine⟨_,(ke @eS),cy, ?_⟩
  rfl
 |ok p=>
  rw[hp] at cz
  obtain⟨x,rfl,hp5,Wh⟩:=cz
  have aC:=Nw hp
  have e0: ((0:Int) !=0)=false:=rfl
  have aP: ∀m,fe (.sl m) x=some (vi p.length):=fun m=>oG Wh m
  rw[List.nil_append]
  refine ko (And.intro @eS (And.intro @e0 (@aP))) ?_
  first|with_reducible refine ks [] @eS ?_|refine kp @eS ?_
  refine Cw.world fun wz eR=> ?_
  have av:=eR.nodup
  clear eR wz
  refine Cw.permL (M:=D1++ []) (by rw[List.append_nil]) ?_
  refine Cw.loopG (G:=TrG) [25,26,29,30,31,32,33,34,35,10,36,37,38,39,40,41,42,4,5,43,44,8,46,47,48,49,45,50,51,11,12,52,53,54,55,27,28,9] (fun g=> [(8,vs g.s),(9,vi ((g.n:Int) - 1))]) (fun g=>D1++g.DG) (fun g=>g.n≤p.length∧j4 l (p.drop g.n)= .ok g.s∧New w.heap.size g.DG) (fun g=>g.n) ⟨p.length,[],[]⟩ rfl rfl ?_ ?_
  ·exact⟨Nat.le_refl _,by rw[List.drop_length];rfl,trivial⟩
  intro g j hg
  refine kv ?_
  obtain⟨n,s,DG⟩:=g
  simp only at hg ⊢
  obtain⟨qL,eu,bD⟩:=hg
  have cr:New w.heap.size (D1++DG):=cy.app bD
  cases n with
  |zero=>
   have d1:decide ((0:Int)≤ ((0:Nat):Int) - 1)=false:=rfl
   first|with_reducible refine ks [] (And.intro @eS @d1) ?_|refine kp (And.intro @eS @d1) ?_
   refine⟨_,(ke @eS),cr, ?_⟩
   rw[List.drop_zero] at eu;show _=lz ((Except.ok p).bind (j4 l));rw[show(Except.ok p).bind (j4 l)=j4 l p from rfl,eu];rfl
  |succ n=>
   have en: ((n+1:Nat):Int) - 1=(n:Int):=by omega
   rw[en]
   have d1:decide ((0:Int)≤ (n:Int))=true:=decide_eq_true (by omega)
   obtain h0| ⟨bp,cp,rp,rfl,rM,bP⟩:=wH Wh av
   ·omega
   have cH:n<p.length:=by omega
   have rdp:aM w (D1++DG) bp=some (dQ natC 3 rp p):=aL (aq bP)
   have lp:=NR (E:=3) (rest:=rp) 1 n cH
   have u9:p.getD n 0<l.length:=aC _ (mq cH)
   have et:p.drop n=p.getD n 0::p.drop (n+1):=KJ (z:=0) cH
   have gm:j4 l (p.drop n)=if(gR (l.getD (p.getD n 0) fJ) s).2=0 then .ok (gR (l.getD (p.getD n 0) fJ) s).1 else .error (gR (l.getD (p.getD n 0) fJ) s).2:=by
    rw[et,j4,eu];rfl
   generalize p.getD n 0=a at*
   have k9:0<l.length:=by omega
   have m9:=hr.lt k9
   have rd:aM w (D1++DG) bb=some (.cells arr E fz):=by rw[j7 (cr.not m9)];exact hr.has k9
   have i2:=hr.idx true a u9
   have ld:=hr.load FC (by omega) u9
   have vO:=hb a u9
   generalize l.getD a fJ=pt at*
   have bQ:=VJ pt fJ 279
   first|with_reducible refine ks [7] (And.intro @eS (And.intro @d1 (And.intro @lp (And.intro @rdp (And.intro @rd (And.intro @i2 (@ld))))))) ?_|refine kp (And.intro @eS (And.intro @d1 (And.intro @lp (And.intro @rdp (And.intro @rd (And.intro @i2 (@ld))))))) ?_
   refine Ow.alloc rfl rfl nE fun b10 AL mO=> ?_
   simp only[bL,List.nil_append,List.cons_append]
   refine Ow.permL (M:=(b10, .cells (cW fJ).toArray 279 (0,0)):: (D1++DG)) (by classical exact List.perm_iff_count.2 fun a=>by simp only[List.count_append,List.count_cons,List.count_nil]<;>omega) ?_
   cases hd:pt.d with
   |false=>
    by_cases lU:4099<pt.x.length
    ·have d2:decide ((4099:Int)< (pt.x.length:Int))=true:=decide_eq_true (by omega)
     have ht:gR pt s=([],19):=by unfold gR;rw[if_neg (by rw[hd];decide),if_pos lU]
     rw[ht,if_neg (by decide)] at gm
     refine ko (And.intro @eS (And.intro @bQ (And.intro @hd (@d2)))) ?_
     first|with_reducible refine ks [] (And.intro @eS (And.intro @hd (@d2))) ?_|refine kp (And.intro @eS (And.intro @hd (@d2))) ?_
     refine⟨_,(ke @eS),(show New w.heap.size ((b10,_):: (D1++DG)) from⟨mO,cr⟩), ?_⟩
     show _=lz (j4 l p);rw[FI p n gm];rfl
    ·have d2:decide ((4099:Int)< (pt.x.length:Int))=false:=decide_eq_false (by omega)
     have ht:gR pt s=(pt.x,0):=by unfold gR;rw[if_neg (by rw[hd];decide),if_neg lU]
     rw[ht,if_pos rfl] at gm
     refine ko (And.intro @eS (And.intro @bQ (And.intro @hd (@d2)))) ?_
     refine Cw.permL (M:=D1++ ((b10, .cells (cW pt).toArray 279 (0,0))::DG)) (by classical exact List.perm_iff_count.2 fun a=>by simp only[List.count_append,List.count_cons,List.count_nil]<;>omega) ?_
     first|with_reducible refine ks [] @eS ?_|refine kp @eS ?_
     exact Again.mk ⟨n,pt.x,(b10, .cells (cW pt).toArray 279 (0,0))::DG⟩ (by show n<n+1;omega) ⟨by show n≤p.length;omega,gm,⟨mO,bD⟩⟩ rfl rfl
   |true=>
    have ht:gR pt s=k6 s pt.x:=by unfold gR;rw[if_pos hd]
    rw[ht] at gm
    refine ko (And.intro @eS (And.intro @bQ (@hd))) ?_
    first|with_reducible refine ks [] (And.intro @eS @hd) ?_|refine kp (And.intro @eS @hd) ?_
    refine Ow.callFV rfl Tryz.call215 (fun w' aB=>I9 s pt.x w' vO) ?_
    by_cases he: (k6 s pt.x).2=0
    ·have e1: ((k6 s pt.x).2 !=0)=false:=by rw[he];rfl
     rw[if_pos he] at gm
     refine ko (And.intro @eS @e1) ?_
     refine Cw.permL (M:=D1++ ((b10, .cells (cW pt).toArray 279 (0,0))::DG)) (by classical exact List.perm_iff_count.2 fun a=>by simp only[List.count_append,List.count_cons,List.count_nil]<;>omega) ?_
     first|with_reducible refine ks [] @eS ?_|refine kp @eS ?_
     exact Again.mk ⟨n,(k6 s pt.x).1,(b10, .cells (cW pt).toArray 279 (0,0))::DG⟩ (by show n<n+1;omega) ⟨by show n≤p.length;omega,gm,⟨mO,bD⟩⟩ rfl rfl
    ·have e1: ((k6 s pt.x).2 !=0)=true:=by rw[bne_iff_ne];exact he
     rw[if_neg he] at gm
     refine ko @eS ?_
     first|with_reducible refine ks [] (And.intro @eS @e1) ?_|refine kp (And.intro @eS @e1) ?_
     refine⟨_,(ke @eS),(show New w.heap.size ((b10,_):: (D1++DG)) from⟨mO,cr⟩), ?_⟩
     show _=lz (j4 l p);rw[FI p n gm];rfl
end Go.Proofs
end
section
open Go Go.Proofs Go.Sx Go.StP Go.Flo
namespace Go.Proofs
set_option maxRecDepth 10000
set_option maxHeartbeats 400000
set_option linter.unusedSimpArgs false
set_option linter.defProp false
end Go.Proofs
end
section
open Go Go.Proofs Go.Sx Go.StP Go.Flo
namespace Go.Proofs
set_option maxRecDepth 10000
set_option maxHeartbeats 400000
set_option linter.unusedSimpArgs false
theorem HE (s:List UInt8) (a:Nat) (e most:Int):aE s (a+1) e most=((aE (s.drop 1) a e most).1,(aE (s.drop 1) a e most).2.1+1,(aE (s.drop 1) a e most).2.2):=by
 unfold aE
 rw[List.drop_drop,Nat.add_comm 1 a]
 by_cases he:e≠0
 ·rw[if_pos he,if_pos he]
 ·rw[if_neg he,if_neg he]
  cases dP most (List.drop (a+1) s) 0 0 with
  |error x=>rfl
  |ok p=>simp only[Prod.mk.injEq,true_and];exact⟨by omega,trivial⟩
theorem I6 (s:List UInt8) (a:Nat) (e n:Int) (hs:1≤s.length):bK s (a+1) e n=((bK (s.drop 1) a e n).1,(bK (s.drop 1) a e n).2.1+1,(bK (s.drop 1) a e n).2.2):=by
 unfold bK
 rw[List.length_drop,List.drop_drop,Nat.add_comm 1 a]
 have hq: ((s.length:Int) - ((a+1:Nat):Int)<n)=(((s.length - 1:Nat):Int) - (a:Int)<n):=by rw[eq_iff_iff];omega
 simp only[hq]
 by_cases he:e≠0
 ·simp only[if_pos he]
 ·simp only[if_neg he]
  by_cases hn:n<0
  ·simp only[if_pos hn]
  ·simp only[if_neg hn]
   by_cases hl: ((s.length - 1:Nat):Int) - (a:Int)<n
   ·simp only[if_pos hl]
   ·simp only[if_neg hl,Prod.mk.injEq,true_and]
    exact⟨by omega,trivial⟩
theorem FN (s:List UInt8) (a:Nat) (e most:Int) (hs:1≤s.length):bN s (a+1) e most=((bN (s.drop 1) a e most).1,(bN (s.drop 1) a e most).2.1+1,(bN (s.drop 1) a e most).2.2):=by
 unfold bN
 simp only[HE]
 rw[I6 _ _ _ _ hs]
 simp only
 split<;>rfl
theorem yG (c:UInt8) (r:List UInt8):frR (c::r)=([c],1,0):=by
 unfold frR bK
 rw[if_neg (by simp),if_neg (by decide),if_neg (by simp only[List.length_cons];omega)]
 rfl
theorem xd (c:UInt8) (r:List UInt8):frT (c::r)=((lfT r).1,(lfT r).2.1+1,(lfT r).2.2):=by
 unfold frT
 rw[yG]
 exact FN (c::r) 0 0 4096 (by simp)
theorem MH (c:UInt8) (r:List UInt8) (a:Nat) (e:Int):du (c::r) (a+1) e=du r a e:=by
 unfold du
 rw[List.length_cons]
 have: ((((a+1:Nat):Int)< ((r.length+1:Nat):Int))=((a:Int)< (r.length:Int))):=by rw[eq_iff_iff];omega
 simp only[this]
theorem MW (c:UInt8) (r:List UInt8): (fkC c=0∧ ¬ (1≤frK (c::r)∧frK (c::r)≤3))∨(fkC c≠0∧frK (c::r)=fkC c∧zq (fkC c)= [c]):=by
 have e:frK (c::r)=Lib.indexByte letL c:=by unfold frK;rw[yG];rfl
 rw[e]
 by_cases h1:c=98
 ·subst h1;exact .inr ⟨by decide,rfl,rfl⟩
 by_cases h2:c=116
 ·subst h2;exact .inr ⟨by decide,rfl,rfl⟩
 by_cases h3:c=99
 ·subst h3;exact .inr ⟨by decide,rfl,rfl⟩
 refine .inl ⟨by unfold fkC;rw[if_neg h1,if_neg h2,if_neg h3], ?_⟩
 have b1: ((98:UInt8)==c)=false:=beq_eq_false_iff_ne.2 (Ne.symm h1)
 have b2: ((116:UInt8)==c)=false:=beq_eq_false_iff_ne.2 (Ne.symm h2)
 have b3: ((99:UInt8)==c)=false:=beq_eq_false_iff_ne.2 (Ne.symm h3)
 simp only[Lib.indexByte,b1,b2,b3,Bool.false_eq_true, ↓reduceIte]
 split<;>simp
theorem yd {k:Int} {t:List UInt8} (h: ¬ (1≤k∧k≤3)):RdOk k t=false:=by
 unfold RdOk;rw[if_neg (fun h'=>h ⟨h'.1,h'.2.1⟩)]
theorem tH (s:List UInt8):frOk s=lfOk s∧(frOk s=true→frK s=lfK s∧(frT s).1=(lfT (s.drop 1)).1):=by
 cases s with
 |nil=>
  have h:frOk []=false:=by
   unfold frOk
   rw[yd (k:=frK []) (by decide),Bool.and_false]
  exact⟨by rw[h];rfl,fun h'=>by rw[h] at h';cases h'⟩
 |cons c r=>
  have e1:frOk (c::r)=(du r (lfT r).2.1 (lfT r).2.2==0&&RdOk (frK (c::r)) (lfT r).1):=by
   unfold frOk;rw[xd,MH]
  have e2:lfOk (c::r)=(fkC c !=0&&du r (lfT r).2.1 (lfT r).2.2==0&&lM (fkC c) (lfT r).1):=rfl
  rcases MW c r with⟨h1,h2⟩ | ⟨h1,h2,-⟩
  ·rw[e1,e2,yd h2,h1,Bool.and_false]
   exact⟨rfl,fun h=>by cases h⟩
  ·have h3: (fkC c !=0)=true:=by simpa using h1
   rw[e1,e2,h2,h3,VO,Bool.true_and]
   refine⟨rfl,fun _=>⟨rfl, ?_⟩⟩
   rw[xd];rfl
set_option linter.defProp false
end Go.Proofs
end
section
open Go Go.Proofs Go.Sx Go.StP Go.Flo
namespace Go.Proofs
set_option maxRecDepth 10000
set_option maxHeartbeats 1000000
set_option linter.unusedSimpArgs false
theorem CK (s:List UInt8):jv s=⟨if lfOk s then lfK s else 0,if lfOk s then(lfT (s.drop 1)).1 else []⟩:=by
 unfold jv
 have h:=tH s
 rw[←h.1]
 cases hf:frOk s
 ·rfl
 ·rw[(h.2 hf).1,(h.2 hf).2]
theorem Mm {k:Int} {t:List UInt8} (h:RdOk k t=true):t.length≤4096:=by
 unfold RdOk at h
 split at h
 ·rename_i h1;exact h1.2.2
 ·cases h
set_option linter.defProp false
end Go.Proofs
end
section
open Go Go.Proofs Go.Sx Go.StP Go.Flo
namespace Go.Proofs
set_option maxRecDepth 10000
set_option maxHeartbeats 400000
set_option linter.unusedSimpArgs false
theorem FG (l:List PartL): ∀k,(mP l k).length≤k
 |0=>Nat.le_refl _
 |k+1=>by
  have:=FG l k
  unfold mP
  split
  ·split
   ·simp;omega
   ·omega
  ·omega
set_option linter.defProp false
end Go.Proofs
end
section
open Go Go.Proofs Go.Sx Go.StP Go.Flo
namespace Go.Proofs
set_option maxRecDepth 10000
set_option maxHeartbeats 400000
set_option linter.unusedSimpArgs false
end Go.Proofs
end
section
open Go Go.Proofs Go.Sx Go.StP Go.Flo
namespace Go.Proofs
set_option maxRecDepth 10000
set_option maxHeartbeats 400000
set_option linter.unusedSimpArgs false
set_option linter.defProp false
end Go.Proofs
end
section
open Go Go.Proofs Go.Sx Go.StP Go.Flo
namespace Go.Proofs
set_option maxRecDepth 10000
set_option maxHeartbeats 400000
set_option linter.unusedSimpArgs false
theorem A1 (k k':Int) (t t':List UInt8):bA Tryz.prog .eql 82 (obV k t) (obV k' t')=some (.bool (decide ((⟨k,t⟩:ObL)=⟨k',t'⟩))):=R7 ⟨k,t⟩ ⟨k',t'⟩
set_option linter.defProp false
end Go.Proofs
end
section
open Go Go.Proofs Go.Sx Go.StP Go.Flo
namespace Go.Proofs
set_option maxRecDepth 10000
set_option maxHeartbeats 400000
set_option linter.unusedSimpArgs false
set_option linter.defProp false
end Go.Proofs
end
namespace Go.Sx
def kB (c:Bool):BitVec 32:=bif c then 3988292384#32 else 0#32
def stB (x:BitVec 32):BitVec 32:=(x>>>1)^^^kB (x.getLsbD 0)
theorem Pa (c:Bool) (j:Nat) (h:j<5): (kB c).getLsbD j=false:=by
 have:j=0∨j=1∨j=2∨j=3∨j=4:=by omega
 rcases this with rfl|rfl|rfl|rfl|rfl<;>cases c<;>decide
theorem uj (x:BitVec 32) (j:Nat) (h:j<5): (stB x).getLsbD j=x.getLsbD (j+1):=by
 unfold stB
 rw[BitVec.getLsbD_xor,Pa _ _ h,BitVec.getLsbD_ushiftRight,Bool.xor_false,Nat.add_comm]
theorem stB4 (x:BitVec 32):stB (stB (stB (stB x)))=(x>>>4)^^^ (kB (x.getLsbD 0)>>>3^^^kB (x.getLsbD 1)>>>2^^^kB (x.getLsbD 2)>>>1^^^kB (x.getLsbD 3)):=by
 have h1: (stB x).getLsbD 0=x.getLsbD 1:=uj x 0 (by omega)
 have h2: (stB (stB x)).getLsbD 0=x.getLsbD 2:=by rw[uj _ 0 (by omega),uj _ 1 (by omega)]
 have h3: (stB (stB (stB x))).getLsbD 0=x.getLsbD 3:=by rw[uj _ 0 (by omega),uj _ 1 (by omega),uj _ 2 (by omega)]
 have e4:stB (stB (stB (stB x)))=(stB (stB (stB x))>>>1)^^^kB (x.getLsbD 3):=by rw[←h3];rfl
 have e3:stB (stB (stB x))=(stB (stB x)>>>1)^^^kB (x.getLsbD 2):=by rw[←h2];rfl
 have e2:stB (stB x)=(stB x>>>1)^^^kB (x.getLsbD 1):=by rw[←h1];rfl
 have e1:stB x=(x>>>1)^^^kB (x.getLsbD 0):=rfl
 rw[e4,e3,e2,e1]
 simp only[BitVec.ushiftRight_xor_distrib,←BitVec.shiftRight_add,BitVec.xor_assoc]
def hvB:List (BitVec 32):= [0x00000000,0x1db71064,0x3b6e20c8,0x26d930ac,0x76dc4190,0x6b6b51f4,0x4db26158,0x5005713c,0xedb88320,0xf00f9344,0xd6d6a3e8,0xcb61b38c,0x9b64c2b0,0x86d3d2d4,0xa00ae278,0xbdbdf21c]
theorem tabB: ∀a b c d:Bool,(kB a>>>3^^^kB b>>>2^^^kB c>>>1^^^kB d)=hvB.getD (a.toNat+2*b.toNat+4*c.toNat+8*d.toNat) 0:=by decide
theorem lowB (x:BitVec 32):x.toNat%16=(x.getLsbD 0).toNat+2* (x.getLsbD 1).toNat+4* (x.getLsbD 2).toNat+8* (x.getLsbD 3).toNat:=by
 have e: ∀i,(x.getLsbD i).toNat=x.toNat / 2^i%2:=by
  intro i
  rw[BitVec.getLsbD,Nat.testBit_eq_decide_div_mod_eq]
  have:=Nat.mod_lt (x.toNat / 2^i) (show 0<2 by omega)
  by_cases h:x.toNat / 2^i%2=1
  ·simp[h]
  ·have h0:x.toNat / 2^i%2=0:=by omega
   simp[h0]
 rw[e 0,e 1,e 2,e 3]
 omega
theorem RK (x:BitVec 32):stB (stB (stB (stB x)))=(x>>>4)^^^hvB.getD (x.toNat%16) 0:=by
 rw[stB4,tabB,lowB]
end Go.Sx
section
open Go Go.Proofs Go.Sx
namespace Go.Proofs
set_option maxRecDepth 10000
set_option maxHeartbeats 4000000
set_option linter.unusedSimpArgs false
def jz (n:UInt32):UInt32:=if n%2==1 then n / 2^^^3988292384 else n / 2
theorem Cd (n:UInt32): (jz n).toBitVec=stB n.toBitVec:=by
 have hd: (n / 2).toBitVec=n.toBitVec>>>1:=by
  apply BitVec.eq_of_toNat_eq
  rw[UInt32.toBitVec_div,BitVec.toNat_udiv,BitVec.toNat_ushiftRight]
  rfl
 have hm: (n%2==1)=n.toBitVec.getLsbD 0:=by
  rw[BitVec.getLsbD,Nat.testBit_eq_decide_div_mod_eq,Nat.pow_zero,Nat.div_one,Bool.eq_iff_iff,beq_iff_eq,decide_eq_true_eq,←UInt32.toNat_inj,UInt32.toNat_mod]
  rfl
 unfold jz stB
 rw[hm]
 cases n.toBitVec.getLsbD 0
 ·rw[if_neg (by decide),hd];simp[kB]
 ·rw[if_pos rfl,UInt32.toBitVec_xor,hd];rfl
theorem wi (n:UInt32):nF n=jz (jz (jz (jz n))):=by
 apply UInt32.toBitVec_inj.1
 rw[Cd,Cd,Cd,Cd,RK]
 unfold nF
 rw[UInt32.toBitVec_xor]
 congr 1
 ·apply BitVec.eq_of_toNat_eq
  unfold gE
  rw[BitVec.toNat_ushiftRight,Nat.shiftRight_eq_div_pow]
  have:=n.toNat_lt
  simp only[UInt32.toNat_toBitVec,UInt32.toNat_ofNat']
  omega
 ·have e: (n&&&15).toNat=n.toBitVec.toNat%16:=by
   rw[UInt32.toNat_and,show(15:UInt32).toNat=2^4 - 1 from rfl,Nat.and_two_pow_sub_one_eq_mod]
   rfl
  rw[e]
  have aC:n.toBitVec.toNat%16<16:=Nat.mod_lt _ (by omega)
  generalize n.toBitVec.toNat%16=m at aC
  have: ∀m,m<16→(hvL.getD m 0).toBitVec=hvB.getD m 0:=by decide
  exact this m aC
def pZ (n:UInt32):Nat→UInt32
 |0=>n
 |k+1=>jz (pZ n k)
theorem J3 (n:UInt32):pZ n 8=tJ n 2:=by
 show jz (jz (jz (jz (jz (jz (jz (jz n)))))))=nF (nF n)
 rw[wi,wi]
set_option linter.defProp false
def cB:=And.intro (And.intro (@ay) (@vg)) (And.intro (@vw) (And.intro (@vn) (@ax)))
theorem LI (n:UInt32) (w:World):Rets Tryz.prog 213 #[v32 n] w (fun v D=>v=v32 (jz n)∧D= []):=by
 have BO:aD .rem (v32 n) (v32 2)=some (v32 (n%2)):=CB _ _ (by decide)
 have mI:aD .quo (v32 n) (v32 2)=some (v32 (n / 2)):=C9 _ _ (by decide)
 refine Rets.enterV Tryz.func213 rfl (rs:= [.tmp 2]) Tryz.results213 Tryz.ntmps213 ?_
 refine kf ?_
 unfold jz
 first|with_reducible refine ks [] (And.intro @cB (And.intro @BO (@mI))) ?_|refine kp (And.intro @cB (And.intro @BO (@mI))) ?_
 cases h: (n%2==1)
 ·first|with_reducible refine ks [] (And.intro @cB @mI) ?_|refine kp (And.intro @cB @mI) ?_
  refine⟨_,(ke @cB),trivial, ?_⟩
  rfl
 ·first|with_reducible refine ks [] (And.intro @cB @mI) ?_|refine kp (And.intro @cB @mI) ?_
  refine⟨_,(ke @cB),trivial, ?_⟩
  rfl
theorem MA (n:UInt32) (b:UInt8) (w:World):Rets Tryz.prog 188 #[v32 n,v8 b] w (fun v D=>v=v32 (pX n b)∧D= []):=by
 refine Rets.enterV Tryz.func188 rfl (rs:= [.tmp 4]) Tryz.results188 Tryz.ntmps188 ?_
 refine kf ?_
 first|with_reducible refine ks [] @cB ?_|refine kp @cB ?_
 unfold pX
 generalize n^^^UInt32.ofNat b.toNat=m
 rw[←J3,show v32 m=v32 (pZ m 0) from rfl]
 refine Cw.loopG (G:=Nat) [10,11,14,15,0,12,13,5] (fun g=> [(0,v32 (pZ m g)),(5,vi g)]) (fun g=> []) (fun g=>g≤8) (fun g=>8 - g) 0 rfl rfl ?_ ?_
 ·omega
 intro g j hg
 refine kv ?_
 by_cases aC:g<8
 ·first|with_reducible refine ks [] @cB ?_|refine kp @cB ?_
  refine Ow.callFV rfl Tryz.call213 (fun w' aB=>LI _ w') ?_
  refine ko @cB ?_
  first|with_reducible refine ks [] @cB ?_|refine kp @cB ?_
  refine Again.mk (g+1) (by omega) (by omega) rfl rfl
 ·obtain rfl:g=8:=by omega
  first|with_reducible refine ks [] @cB ?_|refine kp @cB ?_
  refine⟨_,(ke @cB),trivial, ?_⟩
  rfl
theorem Ob (n:UInt32):4294967295 - n= ~~~ n:=by
 apply UInt32.toBitVec_inj.1
 rw[UInt32.toBitVec_sub,UInt32.toBitVec_not,←BitVec.allOnes_sub_eq_not]
 rfl
theorem Hn (s:List UInt8) (w:World) (hs:s.length<1099511627776):Rets Tryz.prog 155 #[vs s] w (fun v D=>v=v32 (crcV s)∧D= []):=by
 refine Rets.enterV Tryz.func155 rfl (rs:= [.tmp 2]) Tryz.results155 Tryz.ntmps155 ?_
 refine kf ?_
 first|with_reducible refine ks [] @cB ?_|refine kp @cB ?_
 rw[show v32 4294967295=v32 (ly (~~~ (0:UInt32)) (s.take 0)) from rfl]
 refine Cw.loopG (G:=Nat) [5,6,7,8,11,12,13,14,15,3,9,10,4] (fun g=> [(3,v32 (ly (~~~ (0:UInt32)) (s.take g))),(4,vi g)]) (fun g=> []) (fun g=>g≤s.length) (fun g=>s.length - g) 0 rfl rfl ?_ ?_
 ·omega
 intro g j hg
 refine kv ?_
 by_cases aC:g<s.length
 ·first|with_reducible refine ks [] @cB ?_|refine kp @cB ?_
  refine Ow.callFV rfl Tryz.call188 (fun w' aB=>MA _ _ w') ?_
  refine ko @cB ?_
  first|with_reducible refine ks [] @cB ?_|refine kp @cB ?_
  refine Again.mk (g+1) (by omega) (by omega) rfl ?_
  rw[K3 _ _ _ aC]
  rfl
 ·obtain rfl:g=s.length:=by omega
  first|with_reducible refine ks [] @cB ?_|refine kp @cB ?_
  rw[List.take_length]
  rw[Ob]
  refine⟨_,(ke @cB),trivial, ?_⟩
  rfl
theorem PK (n:UInt32):sum4 n= [UInt8.ofNat (n%256).toNat,UInt8.ofNat (n / 256%256).toNat,UInt8.ofNat (n / 65536%256).toNat,UInt8.ofNat (n / 16777216).toNat]:=by
 show [UInt8.ofNat (gE n 0).toNat,UInt8.ofNat (gE n 8).toNat,UInt8.ofNat (gE n 16).toNat,UInt8.ofNat (gE n 24).toNat]=_
 have hn:=n.toNat_lt
 congr 1
 ·apply UInt8.toNat_inj.1
  simp[gE]
 ·congr 1
  ·apply UInt8.toNat_inj.1
   simp[gE]
  ·congr 1
   ·apply UInt8.toNat_inj.1
    simp[gE]
   ·congr 1
    apply UInt8.toNat_inj.1
    simp[gE]
theorem Fd (s:List UInt8) (w:World) (hs:s.length<1099511627776):
  Rets Tryz.prog 112 #[vs s] w (fun v D=>v=vs (pW s)∧D= []):=by
 refine Rets.enterV Tryz.func112 rfl (rs:= [.tmp 2]) Tryz.results112 Tryz.ntmps112 ?_
 refine kf ?_
 first|with_reducible refine ks [] @cB ?_|refine kp @cB ?_
 refine Ow.callFV rfl Tryz.call155 (fun w' aB=>Hn s w' hs) ?_
 refine ko @cB ?_
 unfold pW
 rw[PK]
 generalize crcV s=n
 have h1:aD .rem (v32 n) (v32 256)=some (v32 (n%256)):=CB _ _ (by decide)
 have h2:aD .quo (v32 n) (v32 256)=some (v32 (n / 256)):=C9 _ _ (by decide)
 have h3:aD .rem (v32 (n / 256)) (v32 256)=some (v32 (n / 256%256)):=CB _ _ (by decide)
 have h4:aD .quo (v32 n) (v32 65536)=some (v32 (n / 65536)):=C9 _ _ (by decide)
 have h5:aD .rem (v32 (n / 65536)) (v32 256)=some (v32 (n / 65536%256)):=CB _ _ (by decide)
 have h6:aD .quo (v32 n) (v32 16777216)=some (v32 (n / 16777216)):=C9 _ _ (by decide)
 first|with_reducible refine ks [] (And.intro @cB (And.intro @h1 (And.intro @h2 (And.intro @h3 (And.intro @h4 (And.intro @h5 (@h6))))))) ?_|refine kp (And.intro @cB (And.intro @h1 (And.intro @h2 (And.intro @h3 (And.intro @h4 (And.intro @h5 (@h6))))))) ?_
 generalize UInt8.ofNat (n%256).toNat=q0
 generalize UInt8.ofNat (n / 256%256).toNat=q1
 generalize UInt8.ofNat (n / 65536%256).toNat=q2
 generalize UInt8.ofNat (n / 16777216).toNat=q3
 refine Ow.buildSlice (e:=5) #[v8 q0,v8 q1,v8 q2,v8 q3] rfl rfl (by kernel_rfl) fun b1 bE aJ=> ?_
 rw[show(#[v8 q0,v8 q1,v8 q2,v8 q3]:Array Value)=a8 [q0,q1,q2,q3] from rfl]
 have lU: [q0,q1,q2,q3].length=4:=rfl
 have e4:List.take 4 (List.drop 0 [q0,q1,q2,q3])= [q0,q1,q2,q3]:=rfl
 generalize [q0,q1,q2,q3]=q at*
 refine ko (And.intro @cB @e4) ?_
 first|with_reducible refine ks [] @cB ?_|refine kp @cB ?_
 refine⟨_,(ke @cB),⟨aJ,trivial⟩, ?_⟩
 rfl
theorem Xm (s:List UInt8) (w:World) (hs:s.length<1099511627776):
  Rets Tryz.prog 105 #[vs s] w (fun v D=>v= .tuple #[vs (kM s).1, .bool (kM s).2]∧D= []):=by
 refine Rets.enterV Tryz.func105 rfl (rs:= [.tmp 2, .tmp 3]) Tryz.results105 Tryz.ntmps105 ?_
 refine kf ?_
 first|with_reducible refine ks [] @cB ?_|refine kp @cB ?_
 unfold kM
 by_cases h4:s.length<4
 ·have e1:decide ((s.length:Int)<4)=true:=decide_eq_true (by omega)
  rw[if_pos h4]
  first|with_reducible refine ks [] (And.intro @cB @e1) ?_|refine kp (And.intro @cB @e1) ?_
  refine⟨_,(ke @cB),trivial, ?_⟩
  rfl
 ·have e1:decide ((s.length:Int)<4)=false:=decide_eq_false (by omega)
  have e2: ((s.length:Int) - 4).toNat=s.length - 4:=by omega
  rw[if_neg h4]
  first|with_reducible refine ks [] (And.intro @cB (And.intro @e1 (@e2))) ?_|refine kp (And.intro @cB (And.intro @e1 (@e2))) ?_
  refine Ow.callFV rfl Tryz.call112 (fun w' aB=>Fd (s.take (s.length - 4)) w' (by rw[List.length_take];omega)) ?_
  refine ko @cB ?_
  cases hq: (pW (s.take (s.length - 4)) !=s)
  ·rw[if_pos (by simpa using hq)]
   first|with_reducible refine ks [] (And.intro @cB (And.intro @hq (@e2))) ?_|refine kp (And.intro @cB (And.intro @hq (@e2))) ?_
   refine⟨_,(ke @cB),trivial, ?_⟩
   rfl
  ·rw[if_neg (by simpa using hq)]
   first|with_reducible refine ks [] (And.intro @cB @hq) ?_|refine kp (And.intro @cB @hq) ?_
   refine⟨_,(ke @cB),trivial, ?_⟩
   rfl
end Go.Proofs
end
section
open Go Go.Proofs Go.Sx Go.StP Go.Flo
namespace Go.Proofs
set_option maxRecDepth 10000
set_option maxHeartbeats 1000000
set_option linter.unusedSimpArgs false
set_option linter.defProp false
end Go.Proofs
end
section
open Go Go.Proofs Go.Sx Go.StP Go.Flo
namespace Go.Proofs
set_option maxRecDepth 10000
set_option maxHeartbeats 1000000
set_option linter.unusedSimpArgs false
theorem Ve {s:List UInt8} (h:s.length<4∨s.take 4≠magB):gf s=(0,false,(bK s 0 0 4).2):=by
 unfold gf
 rw[if_neg]
 unfold bK
 rw[if_neg (by decide),if_neg (by decide)]
 split
 ·decide
 ·rename_i h1
  rcases h with h|h
  ·omega
  ·exact h
theorem Lx {s:List UInt8} (h4:4≤s.length) (h:s.take 4=magB):gf s=((aE s 4 0 200).1,(aE s 4 0 200).2.2==0,(aE s 4 0 200).2):=by
 have e:bK s 0 0 4=(s.take 4,4,0):=by
  unfold bK
  rw[if_neg (by decide),if_neg (by decide),if_neg (by omega)]
  rfl
 unfold gf
 rw[e]
 simp only
 rw[if_pos h]
def sF (s:List UInt8) (v:Value) (D:aA):Prop:=
 if(gf s).2.1=true then∃x y n A,v= .tuple #[x,y,vi n,vi A, .bool true]∧n=(gf s).1∧0≤n∧n≤200∧GrI D 279 3 x (iP s).1.length ((iP s).1.map cW).flatten∧GrI D 3 1 y (iP s).2.1.length ((iP s).2.1.map natC).flatten∧
  (((iP s).2.2.2=0∧A=(iP s).2.2.1∧((iP s).1.length:Int)=n)∨((iP s).2.2.2≠0∧((iP s).1.length:Int)<n))
 else v= .tuple #[.slice none 0 0, .slice none 0 0,vi 0,vi 0, .bool false]
structure RdDG where
 l:List PartL
 sp:List Nat
 a:Nat
 v1:Value
 v2:Value
 D1:aA
 D2:aA
 DG:aA
theorem Ks (s:List UInt8):fU (cX Tryz.prog 217) (al Tryz.prog 217) [(0,vs s),(1,vi 4)]=some (.agg #[vs s,vi 4,vi 0]):=by
 rw[show cX Tryz.prog 217=some [(0,1),(1,1),(2,1)] from id (by kernel_rfl),zrRR];rfl
theorem Yo (b:Nat) (s:List UInt8) (a:Nat) (e most:Int) (w:World) (ha:a≤s.length) (hs:s.length<1099511627776) (ho:w.heap[b]? =some (rrO s a e)):
  Rets Tryz.prog 144 #[vp b 0,vi most] w (fun v D=> ∃o,D= [(b,o)]∧v=vs (bN s a e most).1∧o=rrO s (bN s a e most).2.1 (bN s a e most).2.2):=Dy b s a e most w ha hs ho
set_option linter.defProp false
def cC:=And.intro (And.intro (@ay) (And.intro (@ax) (@yD))) (And.intro (And.intro (@yA) (@xY)) (And.intro (@E4) (@Iu)))
theorem YR (s:List UInt8) (w:World) (hs:s.length<1099511627776):Rets Tryz.prog 189 #[vs s] w (XS w [] (sF s)):=by
 refine Rets.enterX Tryz.func189 rfl (rs:= [.tmp 2, .tmp 3, .tmp 4, .tmp 5, .tmp 6]) Tryz.results189 Tryz.ntmps189 (fun p hp=>by cases hp) (by simp[keys]) ?_
 refine kf ?_
 by_cases h4:s.length<4
 ·have d1:decide ((s.length:Int)<4)=true:=decide_eq_true (by omega)
  first|with_reducible refine ks [] (And.intro @cC @d1) ?_|refine kp (And.intro @cC @d1) ?_
  refine⟨_,(ke @cC), ?_⟩
  refine⟨Ext.of_new trivial, ?_⟩
  unfold sF
  rw[Ve (.inl h4)]
  rfl
 have d1:decide ((s.length:Int)<4)=false:=decide_eq_false (by omega)
 have d1':decide ((0:Int)≤4∧(4:Int)≤ (s.length:Int))=true:=decide_eq_true (by omega)
 by_cases hm:s.take 4=magB
 ·have d2: (s.take 4 != [83,80,75,49])=false:=bne_eq_false_iff_eq.2 hm
  have vH:=Lx (by omega) hm
  first|with_reducible refine ks [] (And.intro @cC (And.intro @d1 (@d2))) ?_|refine kp (And.intro @cC (And.intro @d1 (@d2))) ?_
  refine Ow.build (.agg #[vs s,vi 4,vi 0]) rfl (Ks s) ?_
  refine ko @cC ?_
  refine Ow.box rfl rfl fun br lR kH=> ?_
  simp only[eU,eT,ed,bL,List.nil_append]
  refine Ow.permL (M:= [(br,rrO s 4 0)]) (List.Perm.refl _) ?_
  refine ko @cC ?_
  first|with_reducible refine ks [] @cC ?_|refine kp @cC ?_
  have l1:=jM (s:=s) (a:=4) (e:=0) (most:=200) (by omega)
  have m1:=qe (s:=s) (a:=4) (e:=0) (most:=200) (by omega)
  refine Ow.callM rfl rfl Tryz.call146 (by simp[keys]) (fun w' aB=>vf br s 4 0 200 w' (by omega) (by omega) (aB.has _ _ List.mem_cons_self)) ?_
  have Dm:iP s=kJ s (gf s).1.toNat 0 (gf s).2.2.1 (gf s).2.2.2:=rfl
  rw[vH] at Dm
  generalize aE s 4 0 200=q at*
  obtain⟨n0,a0,e0⟩:=q
  simp only at l1 m1 vH Dm ⊢
  obtain⟨n,rfl⟩: ∃n:Nat,n0=(n:Int):=⟨n0.toNat,by omega⟩
  rw[Int.toNat_natCast] at Dm
  refine kn ?_
  refine ko @cC ?_
  by_cases he:e0=0
  ·subst he
   have rG: ((0:Int) !=0)=false:=rfl
   have hE: (gf s).2.1=true:=by rw[vH];rfl
   have qL: (gf s).1=(n:Int):=by rw[vH]
   clear vH
   first|with_reducible refine ks [11] (And.intro @cC @rG) ?_|refine kp (And.intro @cC @rG) ?_
   refine Cw.permL (M:=(br,rrO s a0 0):: ([]++ ([]++ []))) (List.Perm.refl _) ?_
   refine Cw.loopG (G:=RdDG) [34,35,36,39,40,41,42,12,43,44,13,45,46,14,47,48,49,50,51,52,53,54,55,2,3,4,5,6,56,57,15,58,59,60,61,62,63,64,65,66,67,68,9,69,70,71,72,10,37,38,11] (fun g=> [(9,g.v1),(10,g.v2),(11,vi g.l.length)]) (fun g=>(br,rrO s g.a 0):: (g.D1++ (g.D2++g.DG))) (fun g=>g.l.length≤n∧g.sp.length=g.l.length∧g.a≤s.length∧New w.heap.size g.D1∧New w.heap.size g.D2∧New w.heap.size g.DG∧Gr g.D1 279 3 g.v1 g.l.length (g.l.map cW).flatten∧Gr g.D2 3 1 g.v2 g.sp.length (g.sp.map natC).flatten∧iP s=(g.l++ (kJ s (n - g.l.length) g.l.length g.a 0).1,g.sp++ (kJ s (n - g.l.length) g.l.length g.a 0).2.1,(kJ s (n - g.l.length) g.l.length g.a 0).2.2)) (fun g=>n - g.l.length) ⟨[],[],a0, .slice none 0 0, .slice none 0 0,[],[],[]⟩ rfl rfl ?_ ?_
   ·exact⟨Nat.zero_le _,rfl,l1.2,trivial,trivial,trivial,Gr.nl,Gr.nl,by rw[Dm];rfl⟩
   intro g j hg
   refine kv ?_
   obtain⟨l,sp,a,v1,v2,D1,D2,DG⟩:=g
   simp only at hg ⊢
   obtain⟨l9,cT,iG,bX,bw,bD,AA,ux,kE⟩:=hg
   have cr:New w.heap.size (D1++ (D2++DG)):=bX.app (bw.app bD)
   by_cases aC:l.length<n
   ·have d3:decide ((l.length:Int)< (n:Int))=true:=decide_eq_true (by omega)
    have hk:n - l.length=(n - (l.length+1))+1:=by omega
    rw[hk] at kE
    have l7:=jM (s:=s) (a:=a) (e:=0) (most:=200) iG
    have eO:=qe (s:=s) (a:=a) (e:=0) (most:=200) (by omega)
    have Te:qz s l.length a 0=(⟨decide (0< (aE s a 0 200).1),if 0< (aE s a 0 200).1 then((l.length:Nat):Int) - (aE s a 0 200).1 else 0,(bN s (aE s a 0 200).2.1 (aE s a 0 200).2.2 65536).1⟩,(bN s (aE s a 0 200).2.1 (aE s a 0 200).2.2 65536).2):=rfl
    first|with_reducible refine ks [1000018] (And.intro @cC @d3) ?_|refine kp (And.intro @cC @d3) ?_
    refine Ow.callM rfl rfl Tryz.call146 (by simp[keys]) (fun w' aB=>vf br s a 0 200 w' iG (by omega) (aB.has _ _ List.mem_cons_self)) ?_
    generalize aE s a 0 200=x at*
    obtain⟨F,a1,e1⟩:=x
    simp only at l7 eO Te ⊢
    have ng:=uS (s:=s) (a:=a1) (e:=e1) (most:=65536) l7.2
    refine kn ?_
    refine ko @cC ?_
    first|with_reducible refine ks [] @cC ?_|refine kp @cC ?_
    refine Ow.callM rfl rfl Tryz.call144 (by simp[keys]) (fun w' aB=>Yo br s a1 e1 65536 w' l7.2 hs (aB.has _ _ List.mem_cons_self)) ?_
    generalize bN s a1 e1 65536=x at*
    obtain⟨t,a2,e2⟩:=x
    simp only at ng Te ⊢
    refine kn ?_
    refine ko @cC ?_
    rw[kJ,Te] at kE
    simp only at kE
    by_cases ti:e2=0
    ·subst ti
     rw[if_pos rfl] at kE
     have d4: ((0:Int) !=0)=false:=rfl
     first|with_reducible refine ks [] (And.intro @cC @d4) ?_|refine kp (And.intro @cC @d4) ?_
     refine Ow.build (.agg (cW ⟨false,0,t⟩).toArray) rfl (HH t) ?_
     refine ko @cC ?_
     refine Ow.alloc rfl rfl nE fun b15 jd uL=> ?_
     simp only[bL,List.nil_append,List.cons_append]
     have WX:br<b15:=cY jd (by simp[keys])
     have bQ:=VJ ⟨false,0,t⟩ fJ 279
     refine Ow.permL (M:=(b15, .cells (cW fJ).toArray 279 (0,0)):: (br,rrO s a2 0):: (D1++ (D2++DG))) (by classical exact List.perm_iff_count.2 fun a=>by simp only[List.count_append,List.count_cons,List.count_nil]<;>omega) ?_
     refine ko (And.intro @cC @bQ) ?_
     obtain⟨p,hp⟩: ∃p,p=(⟨decide (0<F),if 0<F then((l.length:Nat):Int) - F else 0,t⟩:PartL):=⟨_,rfl⟩
     rw[←hp] at kE
     refine Cw.cutO (G:=PartL) [58,59,60,61,62,63,64] (fun g=> []) (fun g=>(b15, .cells (cW g).toArray 279 (0,0)):: (br,rrO s a2 0):: (D1++ (D2++DG))) (fun g=>g=p) ?_ ?_
     ·by_cases hF:0<F
      ·have d5:decide ((0:Int)<F)=true:=decide_eq_true hF
       have mK:=I8 ⟨false,0,t⟩ 279
       have eQ:=H4 ⟨true,0,t⟩ 279
       first|with_reducible refine ks [] (And.intro @cC (And.intro @d5 (And.intro @mK (@eQ)))) ?_|refine kp (And.intro @cC (And.intro @d5 (And.intro @mK (@eQ)))) ?_
       refine CutO.mk _ ?_ rfl rfl
       rw[hp,decide_eq_true hF,if_pos hF]
      ·have d5:decide ((0:Int)<F)=false:=decide_eq_false hF
       first|with_reducible refine ks [] (And.intro @cC @d5) ?_|refine kp (And.intro @cC @d5) ?_
       refine CutO.mk _ ?_ rfl rfl
       rw[hp,decide_eq_false hF,if_neg hF]
     ·intro g j hg
      refine kv ?_
      obtain rfl:=hg
      clear hp
      first|with_reducible refine ks [] @cC ?_|refine kp @cC ?_
      refine Ow.buildSlice (e:=279) (cW g).toArray rfl rfl (j8 (cs:=cW g) Tryz.underlying260 Tryz.ag279 nE (by decide) rfl) fun ba rC lC=> ?_
      refine ko @cC ?_
      refine Ow.permL (M:=D1++ ((b15, .cells (cW g).toArray 279 (0,0)):: (br,rrO s a2 0):: (D2++ (DG++ [(ba, .cells (cW g).toArray 279 (0,0))])))) (by classical exact List.perm_iff_count.2 fun a=>by simp only[List.count_append,List.count_cons,List.count_nil]<;>omega) ?_
      refine Ow.appendXG (e:=279) (k:=1) (new:=cW g) (X:=D1) v1 rfl rfl rfl rfl Tryz.underlying260 Tryz.ag279 (by kernel_rfl) nE (by rw[E4];rfl) Tryz.underlying260 (by intro k h;cases h) AA (fun w' aB=>AppX.one1 (aB.has ba (.cells (cW g).toArray 279 (0,0)) (by simp)) (FC _) (wX _)) (by omega) (fun B4 v4 D4 jE r7 mc tw l5 u3=> ?_)
      have fi:New w.heap.size D4:=New.of_le fun q hq=>by
       rcases l5 q hq with h|h
       ·exact bX.le q h
       ·omega
      refine Ow.permL (M:=(br,rrO s a2 0):: (D4++ (D2++ ((b15, .cells (cW g).toArray 279 (0,0)):: (DG++ [(ba, .cells (cW g).toArray 279 (0,0))]))))) (by classical exact List.perm_iff_count.2 fun a=>by simp only[List.count_append,List.count_cons,List.count_nil]<;>omega) ?_
      refine ko @cC ?_
      first|with_reducible refine ks [] @cC ?_|refine kp @cC ?_
      refine Ow.buildSlice (e:=3) #[vi a] rfl rfl (by kernel_rfl) fun bc nW ir=> ?_
      refine ko @cC ?_
      refine Ow.permL (M:=D2++ ((br,rrO s a2 0):: (D4++ ((b15, .cells (cW g).toArray 279 (0,0)):: (DG++ [(ba, .cells (cW g).toArray 279 (0,0)),(bc, .cells #[vi a] 3 (0,0))]))))) (by classical exact List.perm_iff_count.2 fun a=>by simp only[List.count_append,List.count_cons,List.count_nil]<;>omega) ?_
      refine Ow.appendXG (e:=3) (k:=1) (new:=natC a) (X:=D2) v2 rfl rfl rfl rfl Tryz.underlying196 (id (by kernel_rfl):aK Tryz.prog 3=some (false,1)) (by kernel_rfl) (id (by kernel_rfl):al Tryz.prog 3=some (vi 0)) rfl Tryz.underlying196 (by intro k h;cases h) ux (fun w' aB=>AppX.one1 (aB.has bc (.cells #[vi a] 3 (0,0)) (by simp)) (y9 a) rfl) (by omega) (fun B5 v5 D5 oP kh iF ii dF ey=> ?_)
      have fD:New w.heap.size D5:=New.of_le fun q hq=>by
       rcases dF q hq with h|h
       ·exact bw.le q h
       ·omega
      refine Ow.permL (M:=(br,rrO s a2 0):: (D4++ (D5++ ((b15, .cells (cW g).toArray 279 (0,0)):: (DG++ [(ba, .cells (cW g).toArray 279 (0,0)),(bc, .cells #[vi a] 3 (0,0))]))))) (by classical exact List.perm_iff_count.2 fun a=>by simp only[List.count_append,List.count_cons,List.count_nil]<;>omega) ?_
      refine ko @cC ?_
      first|with_reducible refine ks [] @cC ?_|refine kp @cC ?_
      have jH: (l++ [g]).length=l.length+1:=by simp
      have ik: (sp++ [a]).length=sp.length+1:=by simp
      refine Again.mk ⟨l++ [g],sp++ [a],a2,v4,v5,D4,D5,(b15, .cells (cW g).toArray 279 (0,0)):: (DG++ [(ba, .cells (cW g).toArray 279 (0,0)),(bc, .cells #[vi a] 3 (0,0))])⟩ (by show n - (l++ [g]).length<n - l.length;omega) ⟨by show(l++ [g]).length≤n;omega,by show(sp++ [a]).length=(l++ [g]).length;omega,ng.2,fi,fD,⟨uL,bD.app ⟨lC,ir,trivial⟩⟩,by simpa using mc,by simpa using iF, ?_⟩ rfl (by simp only[jH];rfl)
      show iP s=_
      rw[kE,jH]
      simp
    ·have d4: (e2 !=0)=true:=bne_iff_ne.2 ti
     rw[if_neg ti] at kE
     first|with_reducible refine ks [] (And.intro @cC @d4) ?_|refine kp (And.intro @cC @d4) ?_
     refine⟨_,(ke @cC), ?_⟩
     refine⟨Ext.of_new ⟨kH,cr⟩, ?_⟩
     unfold sF
     rw[if_pos hE,kE,qL]
     simp only[List.append_nil]
     exact⟨v1,v2,_,_,rfl,rfl,by omega,by omega,Gr.i AA fun c hc=>by simp[hc],Gr.i ux fun c hc=>by simp[hc], .inr ⟨ti,by omega⟩⟩
   ·obtain TF:l.length=n:=by omega
    have d3:decide ((l.length:Int)< (n:Int))=false:=decide_eq_false (by omega)
    rw[TF,Nat.sub_self] at kE
    first|with_reducible refine ks [] (And.intro @cC @d3) ?_|refine kp (And.intro @cC @d3) ?_
    refine Cw.regionS [br] [0,1,2,3,4,5,7,8,9,6,10,11] [] (by kernel_rfl) (by kernel_rfl) (by kernel_rfl) ?_
    simp only[ar, ↓ap, ↓ag, ↓an, ↓am,ah]
    refine kq @cC ?_
    first|with_reducible refine ks [] @cC ?_|refine kp @cC ?_
    refine⟨_,(ke @cC), ?_⟩
    refine⟨Ext.of_new ⟨kH,cr⟩, ?_⟩
    unfold sF
    rw[if_pos hE,kE,qL]
    simp only[kJ,List.append_nil]
    exact⟨v1,v2,_,_,rfl,rfl,by omega,by omega,Gr.i AA fun c hc=>by simp[hc],Gr.i ux fun c hc=>by simp[hc], .inl ⟨trivial,rfl,by omega⟩⟩
  ·have rG: (e0 !=0)=true:=bne_iff_ne.2 he
   have hE: (gf s).2.1=false:=by rw[vH];exact beq_eq_false_iff_ne.2 he
   first|with_reducible refine ks [] (And.intro @cC @rG) ?_|refine kp (And.intro @cC @rG) ?_
   refine⟨_,(ke @cC), ?_⟩
   refine⟨Ext.of_new ⟨kH,trivial⟩, ?_⟩
   unfold sF
   rw[hE]
   rfl
 ·have d2: (s.take 4 != [83,80,75,49])=true:=bne_iff_ne.2 hm
  first|with_reducible refine ks [] (And.intro @cC (And.intro @d1 (@d2))) ?_|refine kp (And.intro @cC (And.intro @d1 (@d2))) ?_
  refine⟨_,(ke @cC), ?_⟩
  refine⟨Ext.of_new trivial, ?_⟩
  unfold sF
  rw[Ve (.inr hm)]
  rfl
end Go.Proofs
end
section
open Go Go.Proofs Go.Sx Go.StP Go.Flo
namespace Go.Proofs
set_option maxRecDepth 10000
set_option maxHeartbeats 1000000
set_option linter.unusedSimpArgs false
theorem BndD.ofSmall {l:List PartL} (h:zS l):BndD l:=fun g hg=>by have:=h g hg;omega
theorem QP (a b c d e:Value): #[a,b,c,d,e][0]? =some a:=rfl
theorem Qo (a b c d e:Value): #[a,b,c,d,e][1]? =some b:=rfl
theorem R2 (a b c d e:Value): #[a,b,c,d,e][2]? =some c:=rfl
theorem Qi (a b c d e:Value): #[a,b,c,d,e][3]? =some d:=rfl
theorem Qp (a b c d e:Value): #[a,b,c,d,e][4]? =some e:=rfl
set_option linter.defProp false
end Go.Proofs
end
section
open Go Go.Proofs Go.Sx Go.StP Go.Flo
namespace Go.Proofs
set_option maxRecDepth 10000
set_option maxHeartbeats 400000
set_option linter.unusedSimpArgs false
structure SaG where
 k:Nat
 out:List ObL
 v:Value
 D:aA
 DG:aA
theorem W6 {o:ObL} {l:List ObL} {j:Nat} (h:j<l.length):decide (o∈l.take (j+1))=(decide (o∈l.take j) ||decide (l.getD j ob0=o)):=by
 rw[StP.take_snoc (z:=ob0) h]
 by_cases h1:o∈l.take j
 ·rw[decide_eq_true h1,decide_eq_true (List.mem_append_left _ h1)];rfl
 ·by_cases h2:l.getD j ob0=o
  ·rw[decide_eq_true h2,Bool.or_true]
   exact decide_eq_true (List.mem_append_right _ (by rw[h2];exact List.mem_singleton.2 rfl))
  ·rw[decide_eq_false h1,decide_eq_false h2]
   exact decide_eq_false fun h=>by
    rcases List.mem_append.1 h with h|h
    ·exact h1 h
    ·exact h2 (List.mem_singleton.1 h).symm
set_option linter.defProp false
def cF:=And.intro (And.intro (And.intro (@ay) (And.intro (@ax) (@Sx.tup2_0))) (And.intro (And.intro (@Sx.tup2_1) (@QP)) (And.intro (@Qo) (@R2)))) (And.intro (And.intro (@Qi) (And.intro (@Qp) (@uh))) (And.intro (And.intro (@vh) (@vq)) (And.intro (@vk) (@A1))))
theorem JJ (b:List UInt8) (w:World) (hb:b.length<1099511627776):
  Rets Tryz.prog 156 #[vs b] w (XS w [] (fun v D=>GrI D 82 2 v (pC b).length ((pC b).map obC).flatten)):=by
 have rV:=(xI b).1
 have hrs:=Hm b
 refine Rets.enterX Tryz.func156 rfl (rs:= [.tmp 2]) Tryz.results156 Tryz.ntmps156 (fun p hp=>by cases hp) (by simp[keys]) ?_
 refine kf ?_
 first|with_reducible refine ks [] @cF ?_|refine kp @cF ?_
 refine Ow.callC rfl rfl Tryz.call189 (fun w' aB=>YR b w' hb) (fun B1 v1 D1 bv dh bX cz=> ?_)
 have cy:New w.heap.size D1:=bX.mono dh
 unfold sF at cz
 unfold pC
 rw[List.nil_append]
 cases eX: (gf b).2.1 with
 |false=>
  rw[eX,if_neg (by simp)] at cz
  rw[if_neg (by simp)]
  subst cz
  refine ko @cF ?_
  first|with_reducible refine ks [] @cF ?_|refine kp @cF ?_
  refine⟨_,(ke @cF), ?_⟩
  exact⟨Ext.of_new cy,Gr.i (X:= []) Gr.nl fun p hp=>by cases hp⟩
 |true=>
  rw[eX,if_pos rfl] at cz
  rw[if_pos rfl]
  obtain⟨x,y,n,A,rfl,-,-,-,rI,kz,-⟩:=cz
  generalize (iP b).1=l at*
  have ln:=oG rI
  refine ko @cF ?_
  first|with_reducible refine ks [] (And.intro @cF @ln) ?_|refine kp (And.intro @cF @ln) ?_
  refine Cw.permL (M:=D1++ ([]++ [])) (by simp) ?_
  refine Cw.loopG (G:=SaG) [26,27,28,29,33,34,35,32,36,37,10,11,38,39,41,42,40,43,44,12,13,14,15,45,46,47,48,51,52,53,54,55,56,57,58,59,49,50,60,61,62,63,64,65,66,67,68,8,30,31,9] (fun g=> [(8,g.v),(9,vi g.k)]) (fun g=>D1++ (g.D++g.DG)) (fun g=>g.k≤l.length∧g.out=mP l g.k∧New w.heap.size g.D∧New w.heap.size g.DG∧Gr g.D 82 2 g.v g.out.length (g.out.map obC).flatten) (fun g=>l.length - g.k) ⟨0,[], .slice none 0 0,[],[]⟩ rfl rfl ?_ ?_
  ·exact⟨Nat.zero_le _,rfl,trivial,trivial,Gr.nl⟩
  intro g j hg
  refine kv ?_
  obtain⟨k,out,v6,D6,DG⟩:=g
  simp only at hg ⊢
  obtain⟨hk,uG,jc,bD,ja⟩:=hg
  have mG:=FG l k
  rw[←uG] at mG
  have cr:New w.heap.size (D1++ (D6++DG)):=cy.app (jc.app bD)
  by_cases aC:k<l.length
  ·have d1:decide ((k:Int)< (l.length:Int))=true:=decide_eq_true (by omega)
   have gA:mP l (k+1)=match partV l (k:Nat) with
    | .ok s=>if frOk s=true∧jv s∉mP l k then mP l k++ [jv s] else mP l k
    | .error _=>mP l k:=rfl
   first|with_reducible refine ks [7] (And.intro @cF (And.intro @d1 (@ln))) ?_|refine kp (And.intro @cF (And.intro @d1 (@ln))) ?_
   refine Ow.callFV rfl Tryz.call190 (fun w' aB=>IG x l (k:Int) w' ((rI.mono (fun q hq=>by simp[hq])).slV aB rfl rfl FC) (BndD.ofSmall hrs)) ?_
   rw[←uG] at gA
   cases hp:partV l (k:Nat) with
   |error e2=>
    rw[hp] at gA
    simp only at gA
    have e0: (e2 !=0)=true:=bne_iff_ne.2 (Mv hp)
    unfold lz
    refine ko @cF ?_
    first|with_reducible refine ks [] (And.intro @cF @e0) ?_|refine kp (And.intro @cF @e0) ?_
    first|with_reducible refine ks [] @cF ?_|refine kp @cF ?_
    exact Again.mk ⟨k+1,out,v6,D6,DG⟩ (by show l.length - (k+1)<l.length - k;omega) ⟨aC,by exact gA.symm,jc,bD,ja⟩ rfl rfl
   |ok s=>
    rw[hp] at gA
    simp only at gA
    have cT:=Jn hp
    have e0: ((0:Int) !=0)=false:=rfl
    have uJ: (if lfOk s then lfK s else 0)=(jv s).k:=by rw[CK]
    have mJ: (if lfOk s then(lfT (s.drop 1)).1 else [])=(jv s).t:=by rw[CK]
    have tn:=(tH s).1
    unfold lz
    refine ko @cF ?_
    first|with_reducible refine ks [] (And.intro @cF @e0) ?_|refine kp (And.intro @cF @e0) ?_
    refine Ow.callFV rfl Tryz.call106 (fun w' aB=>V8 s w' (by omega)) ?_
    rw[uJ,mJ,←tn]
    refine ko @cF ?_
    refine Ow.alloc rfl rfl zrOb fun b12 hb12 qZ=> ?_
    simp only[bL,List.nil_append,List.cons_append]
    refine Ow.permL (M:=(b12, .cells #[vi 0,vs []] 82 (0,0)):: (D1++ (D6++DG))) (by classical exact List.perm_iff_count.2 fun a=>by simp only[List.count_append,List.count_cons,List.count_nil]<;>omega) ?_
    refine ko @cF ?_
    generalize hro:jv s=o at*
    obtain⟨ok,ot⟩:=o
    have AH:New w.heap.size ((b12,Obj.cells #[vi ok,vs ot] 82 (0,0)):: (D1++ (D6++DG))):=⟨qZ,cr⟩
    refine Cw.world fun wz eR=> ?_
    have av:=eR.nodup
    clear eR wz
    have lno: ∀m,fe (.sl m) v6=some (vi out.length):=fun m=>oG (Gr.i ja (fun p hp=>hp)) m
    first|with_reducible refine ks [] (And.intro @cF @lno) ?_|refine kp (And.intro @cF @lno) ?_
    refine Cw.loopG (G:=Nat) [45,46,47,48,51,52,53,54,55,56,57,58,59,14,49,50,15] (fun g=> [(14, .bool (decide ((⟨ok,ot⟩:ObL)∈out.take g))),(15,vi g)]) (fun g=>(b12, .cells #[vi ok,vs ot] 82 (0,0)):: (D1++ (D6++DG))) (fun g=>g≤out.length) (fun g=>out.length - g) 0 rfl rfl ?_ ?_
    ·exact Nat.zero_le _
    ·intro j jj hj
     refine kv ?_
     by_cases hjt:j<out.length
     ·have d2:decide ((j:Int)< (out.length:Int))=true:=decide_eq_true (by omega)
      have bW:=W6 (o:=⟨ok,ot⟩) hjt
      have TQ: (keys D6).Nodup:=by
       simp only[keys,List.map_cons,List.map_append,List.nodup_cons,List.nodup_append] at av
       exact av.2.2.1.1
      obtain h0| ⟨rb,rc,rest,rfl,iZ,bP⟩:=wH (Gr.i ja (fun p hp=>hp)) TQ
      ·omega
      have AM:rb≠b12:=by
       rintro rfl
       simp only[keys,List.map_cons,List.map_append,List.nodup_cons,List.mem_append,not_or] at av
       exact av.1.2.1 iZ
      have rdb:aM w ((b12, .cells #[vi ok,vs ot] 82 (0,0)):: (D1++ (D6++DG))) rb=some (dQ obC 82 rest out):=by
       have qL:rb∉keys D1:=by
        simp only[keys,List.map_cons,List.map_append,List.nodup_cons,List.nodup_append,List.mem_append] at av
        intro hm
        exact av.2.2.2 rb hm rb (.inl iZ) rfl
       exact aL (by rw[Bg _ _ _ _ (Ne.symm AM),iB qL];exact aq bP)
      have ld:aF (some (true,2)) (some (dQ obC 82 rest out)) (j*2)=some (obV (out.getD j ob0).k (out.getD j ob0).t):=CT (E:=82) (rest:=rest) (z:=ob0) qh j hjt
      generalize out.getD j ob0=p at*
      first|with_reducible refine ks [] (And.intro @cF (And.intro @d2 (@lno))) ?_|refine kp (And.intro @cF (And.intro @d2 (@lno))) ?_
      cases mD:decide ((⟨ok,ot⟩:ObL)∈out.take j) with
      |true=>
       rw[mD,Bool.true_or] at bW
       refine Cw.regionS [rb,b12] [0,1,2,3,4,5,6,7,8,9] [] (by kernel_rfl) (by kernel_rfl) (by kernel_rfl) ?_
       simp only[ar, ↓ap, ↓ag, ↓an, ↓am,ah]
       refine kq (And.intro @cF (And.intro @rdb (@ld))) ?_
       first|with_reducible refine ks [] @cF ?_|refine kp @cF ?_
       exact Again.mk (j+1) (by omega) (by omega) rfl (by rw[bW];rfl)
      |false=>
       rw[mD,Bool.false_or] at bW
       refine Cw.regionS [rb,b12] [0,1,2,3,4,5,6,7,8,9] [] (by kernel_rfl) (by kernel_rfl) (by kernel_rfl) ?_
       simp only[ar, ↓ap, ↓ag, ↓an, ↓am,ah]
       refine kq (And.intro @cF (And.intro @rdb (@ld))) ?_
       first|with_reducible refine ks [] @cF ?_|refine kp @cF ?_
       exact Again.mk (j+1) (by omega) (by omega) rfl (by rw[bW];rfl)
     ·obtain rfl:j=out.length:=by omega
      have d2:decide ((out.length:Int)< (out.length:Int))=false:=decide_eq_false (by omega)
      rw[List.take_length]
      first|with_reducible refine ks [] (And.intro @cF (And.intro @d2 (@lno))) ?_|refine kp (And.intro @cF (And.intro @d2 (@lno))) ?_
      cases kx:frOk s with
      |false=>
       rw[if_neg (fun h=>by rw[kx] at h;cases h.1)] at gA
       first|with_reducible refine ks [] (And.intro @cF @kx) ?_|refine kp (And.intro @cF @kx) ?_
       refine Cw.permL (M:=D1++ (D6++ ((b12, .cells #[vi ok,vs ot] 82 (0,0))::DG))) (by classical exact List.perm_iff_count.2 fun a=>by simp only[List.count_append,List.count_cons,List.count_nil]<;>omega) ?_
       first|with_reducible refine ks [] @cF ?_|refine kp @cF ?_
       exact Again.mk ⟨k+1,out,v6,D6,(b12, .cells #[vi ok,vs ot] 82 (0,0))::DG⟩ (by show l.length - (k+1)<l.length - k;omega) ⟨aC,by exact gA.symm,jc,⟨qZ,bD⟩,ja⟩ rfl rfl
      |true=>
       cases mD:decide ((⟨ok,ot⟩:ObL)∈out) with
       |true=>
        rw[if_neg (fun h=>h.2 (of_decide_eq_true mD))] at gA
        first|with_reducible refine ks [] (And.intro @cF (And.intro @kx (@mD))) ?_|refine kp (And.intro @cF (And.intro @kx (@mD))) ?_
        refine Cw.permL (M:=D1++ (D6++ ((b12, .cells #[vi ok,vs ot] 82 (0,0))::DG))) (by classical exact List.perm_iff_count.2 fun a=>by simp only[List.count_append,List.count_cons,List.count_nil]<;>omega) ?_
        first|with_reducible refine ks [] @cF ?_|refine kp @cF ?_
        exact Again.mk ⟨k+1,out,v6,D6,(b12, .cells #[vi ok,vs ot] 82 (0,0))::DG⟩ (by show l.length - (k+1)<l.length - k;omega) ⟨aC,by exact gA.symm,jc,⟨qZ,bD⟩,ja⟩ rfl rfl
       |false=>
        rw[if_pos ⟨kx,of_decide_eq_false mD⟩] at gA
        first|with_reducible refine ks [] (And.intro @cF (And.intro @kx (@mD))) ?_|refine kp (And.intro @cF (And.intro @kx (@mD))) ?_
        refine Ow.buildSlice (e:=82) #[vi ok,vs ot] rfl rfl (j8 (cs:=obC ⟨ok,ot⟩) Tryz.underlying94 Tryz.ag82 zrOb (by decide) rfl) fun bc nW ir=> ?_
        refine ko @cF ?_
        refine Ow.permL (M:=D6++ ((b12, .cells #[vi ok,vs ot] 82 (0,0)):: (D1++ (DG++ [(bc, .cells #[vi ok,vs ot] 82 (0,0))])))) (by classical exact List.perm_iff_count.2 fun a=>by simp only[List.count_append,List.count_cons,List.count_nil]<;>omega) ?_
        refine Ow.appendXG (e:=82) (k:=1) (new:=obC ⟨ok,ot⟩) (X:=D6) v6 rfl rfl rfl rfl Tryz.underlying94 Tryz.ag82 (by kernel_rfl) zrOb (by rw[obV,bL];rfl) Tryz.underlying94 (by intro k h;cases h) ja (fun w' aB=>AppX.one1 (aB.has bc (.cells (obC ⟨ok,ot⟩).toArray 82 (0,0)) (by simp[obC])) (qh _) (wB _)) (by omega) (fun B5 v5 D5 oP kh iF ii dF ey=> ?_)
        have fD:New w.heap.size D5:=New.of_le fun q hq=>by
         rcases dF q hq with h|h
         ·exact jc.le q h
         ·omega
        refine ko @cF ?_
        refine Cw.permL (M:=D1++ (D5++ ((b12, .cells #[vi ok,vs ot] 82 (0,0)):: (DG++ [(bc, .cells #[vi ok,vs ot] 82 (0,0))])))) (by classical exact List.perm_iff_count.2 fun a=>by simp only[List.count_append,List.count_cons,List.count_nil]<;>omega) ?_
        first|with_reducible refine ks [] @cF ?_|refine kp @cF ?_
        exact Again.mk ⟨k+1,out++ [⟨ok,ot⟩],v5,D5,(b12, .cells #[vi ok,vs ot] 82 (0,0)):: (DG++ [(bc, .cells #[vi ok,vs ot] 82 (0,0))])⟩ (by show l.length - (k+1)<l.length - k;omega) ⟨aC,by exact gA.symm,fD,⟨qZ,bD.app ⟨ir,trivial⟩⟩,by simpa using iF⟩ rfl rfl
  ·obtain rfl:k=l.length:=by omega
   have d1:decide ((l.length:Int)< (l.length:Int))=false:=decide_eq_false (by omega)
   first|with_reducible refine ks [] (And.intro @cF (And.intro @d1 (@ln))) ?_|refine kp (And.intro @cF (And.intro @d1 (@ln))) ?_
   refine⟨_,(ke @cF), ?_⟩
   refine⟨Ext.of_new cr, ?_⟩
   rw[←uG]
   exact Gr.i ja fun p hp=>by simp[hp]
end Go.Proofs
end
section
open Go Go.Proofs Go.Sx Go.StP Go.Flo
namespace Go.Proofs
set_option maxRecDepth 10000
set_option maxHeartbeats 400000
set_option linter.unusedSimpArgs false
def magO:List UInt8:= [83,76,79,49]
def nG (b:List UInt8):List ObL:=if(kM b).2=true∧4≤ (kM b).1.length∧(kM b).1.take 4=magO∧frOk ((kM b).1.drop 4)=true then [jv ((kM b).1.drop 4)] else []
def nO (b:List UInt8):List ObL:=nG b++pC b
def lF (l:List FiL):List ObL:=(l.map fun f=>nO f.data).flatten
theorem Vb (b:List UInt8): (pC b).length≤200:=by
 unfold pC
 split
 ·exact Nat.le_trans (FG _ _) (xI b).1
 ·exact Nat.zero_le _
theorem FA (b:List UInt8): (nO b).length≤201:=by
 have:=Vb b
 unfold nO nG
 split
 ·simp;omega
 ·simp;omega
theorem VZ (l:List FiL) {k:Nat} (h:k<l.length):lF (l.take (k+1))=lF (l.take k)++nO (l.getD k fi0).data:=by
 unfold lF
 rw[StP.take_snoc (z:=fi0) h,List.map_append,List.flatten_append]
 simp
theorem F3 (l:List FiL): ∀k,k≤l.length→(lF (l.take k)).length≤k*201
 |0,_=>by simp[lF]
 |k+1,h=>by
  have h1:=F3 l k (by omega)
  have h2:=FA (l.getD k fi0).data
  rw[VZ l (by omega),List.length_append]
  omega
theorem Mp (s:List UInt8): (kM s).1.length≤s.length:=by
 unfold kM
 split
 ·simp
 ·split
  ·simp only[List.length_take];omega
  ·simp
structure ObjC where
 os:List ObL
 v:Value
 D:aA
 DG:aA
structure ObjG where
 k:Nat
 v:Value
 D:aA
 DG:aA
set_option linter.defProp false
def eJ:=And.intro (And.intro (And.intro (@ay) (@ax)) (And.intro (@Sx.tup2_0) (@Sx.tup2_1))) (And.intro (And.intro (@uh) (@vh)) (And.intro (@vq) (@vk)))
theorem G5 (v:Value) (l:List FiL) (w:World) (hv:FiSl w v l) (hl:l.length≤1000) (hb:FiB l):
  Rets Tryz.prog 113 #[v] w (XS w [] (fun v D=> ∃D1 D2,D=D1++D2∧Gr D1 82 2 v (lF l).length ((lF l).map obC).flatten)):=by
 have ln:=hv.len
 obtain⟨rb,off,arr,E,fz,hr⟩:=hv.row
 refine Rets.enterX Tryz.func113 rfl (rs:= [.tmp 2]) Tryz.results113 Tryz.ntmps113 (fun p hp=>by cases hp) (by simp[keys]) ?_
 refine kf ?_
 first|with_reducible refine ks [] (And.intro @eJ @ln) ?_|refine kp (And.intro @eJ @ln) ?_
 refine Cw.permL (M:= []++ []) (List.Perm.refl _) ?_
 refine Cw.loopG (G:=ObjG) [9,10,11,12,16,17,18,19,20,21,15,22,23,5,6,24,25,26,27,28,29,30,31,32,33,34,36,37,38,35,39,40,7,8,41,42,43,44,45,3,46,47,48,49,50,51,52,53,13,14,4] (fun g=> [(3,g.v),(4,vi g.k)]) (fun g=>g.D++g.DG) (fun g=>g.k≤l.length∧New w.heap.size g.D∧New w.heap.size g.DG∧Gr g.D 82 2 g.v (lF (l.take g.k)).length ((lF (l.take g.k)).map obC).flatten) (fun g=>l.length - g.k) ⟨0, .slice none 0 0,[],[]⟩ rfl rfl ?_ ?_
 ·exact⟨Nat.zero_le _,trivial,trivial,Gr.nl⟩
 intro g j hg
 refine kv ?_
 obtain⟨k,v3,D,DG⟩:=g
 simp only at hg ⊢
 obtain⟨hk,hN,bD,hG⟩:=hg
 have mG:=F3 l k hk
 by_cases aC:k<l.length
 ·have d1:decide ((k:Int)< (l.length:Int))=true:=decide_eq_true (by omega)
  have rV:=hr.lt (by omega)
  have ixl:=hr.idx true k aC
  have ld2: ∀n,aF (some (false,n)) (some (.cells arr E fz)) (off+k*3+2)=some (vs (l.getD k fi0).data):=fun n=>sL hr aC n
  have fQ:=hr.has (show 0<l.length by omega)
  have rdl: ∀L,New w.heap.size L→aM w L rb=some (.cells arr E fz):=fun L hL=>by rw[j7 (hL.not rV)];exact fQ
  have vG:=(hb (l.getD k fi0) (by rw[List.getD_eq_getElem?_getD,List.getElem?_eq_getElem aC];exact List.getElem_mem _)).2
  have bW:=VZ l aC
  have eN:=FA (l.getD k fi0).data
  generalize (l.getD k fi0).data=b at*
  generalize hosE:lF (l.take k)=os at*
  have rd1:=rdl _ (hN.app bD)
  have vQ:=Mp b
  have gm:nO b=nG b++pC b:=rfl
  have mF:nG b=if(kM b).2=true∧4≤ (kM b).1.length∧(kM b).1.take 4=magO∧frOk ((kM b).1.drop 4)=true then [jv ((kM b).1.drop 4)] else []:=rfl
  have cT:=Vb b
  first|with_reducible refine ks [8,1000006] (And.intro @eJ (And.intro @d1 (And.intro @ln (And.intro @ixl (And.intro @rd1 (@ld2)))))) ?_|refine kp (And.intro @eJ (And.intro @d1 (And.intro @ln (And.intro @ixl (And.intro @rd1 (@ld2)))))) ?_
  refine Ow.callFV rfl Tryz.call105 (fun w' aB=>Xm b w' vG) ?_
  generalize kM b=u at*
  obtain⟨s,ok⟩:=u
  simp only at vQ mF ⊢
  refine ko @eJ ?_
  refine Cw.cutO (G:=ObjC) [3,7,8,24,25,26,27,28,29,30,31,32,33,34,35,36,37,38,39,40,41,42,43,44,45] (fun g=> [(3,g.v)]) (fun g=>g.D++g.DG) (fun g=>New w.heap.size g.D∧New w.heap.size g.DG∧Gr g.D 82 2 g.v g.os.length (g.os.map obC).flatten∧g.os=os++nG b) ?_ ?_
  ·cases ok with
   |false=>
    rw[if_neg (by simp)] at mF
    first|with_reducible refine ks [] @eJ ?_|refine kp @eJ ?_
    exact CutO.mk ⟨os,v3,D,DG⟩ ⟨hN,bD,hG,by rw[mF,List.append_nil]⟩ rfl rfl
   |true=>
    by_cases h4:4≤s.length
    ·have d4:decide ((4:Int)≤ (s.length:Int))=true:=decide_eq_true (by omega)
     have d4':decide ((0:Int)≤4∧(4:Int)≤ (s.length:Int))=true:=decide_eq_true (by omega)
     have d4'':decide ((4:Int)≤ (s.length:Int)∧(s.length:Int)≤ (s.length:Int))=true:=decide_eq_true (by omega)
     by_cases hm:s.take 4=magO
     ·have d5: (s.take 4== [83,76,79,49])=true:=beq_iff_eq.2 hm
      first|with_reducible refine ks [8] (And.intro @eJ (And.intro @d4 (And.intro @d4' (@d5)))) ?_|refine kp (And.intro @eJ (And.intro @d4 (And.intro @d4' (@d5)))) ?_
      refine Ow.callFV rfl Tryz.call106 (fun w' aB=>V8 (s.drop 4) w' (by rw[List.length_drop];omega)) ?_
      have uJ: (if lfOk (s.drop 4) then lfK (s.drop 4) else 0)=(jv (s.drop 4)).k:=by rw[CK]
      have mJ: (if lfOk (s.drop 4) then(lfT ((s.drop 4).drop 1)).1 else [])=(jv (s.drop 4)).t:=by rw[CK]
      have tn:=(tH (s.drop 4)).1
      rw[uJ,mJ,←tn]
      refine ko @eJ ?_
      refine Ow.alloc rfl rfl zrOb fun b7 vC o5=> ?_
      simp only[bL,List.nil_append,List.cons_append]
      refine Ow.permL (M:=(b7, .cells #[vi 0,vs []] 82 (0,0)):: (D++DG)) (by classical exact List.perm_iff_count.2 fun a=>by simp only[List.count_append,List.count_cons,List.count_nil]<;>omega) ?_
      refine ko @eJ ?_
      generalize jv (s.drop 4)=o at*
      obtain⟨ok,ot⟩:=o
      cases kx:frOk (s.drop 4) with
      |false=>
       rw[if_neg (fun h=>by rw[kx] at h;cases h.2.2.2)] at mF
       refine Cw.permL (M:=D++ ((b7, .cells #[vi ok,vs ot] 82 (0,0))::DG)) (by classical exact List.perm_iff_count.2 fun a=>by simp only[List.count_append,List.count_cons,List.count_nil]<;>omega) ?_
       first|with_reducible refine ks [] (And.intro @eJ @kx) ?_|refine kp (And.intro @eJ @kx) ?_
       exact CutO.mk ⟨os,v3,D,(b7, .cells #[vi ok,vs ot] 82 (0,0))::DG⟩ ⟨hN,⟨o5,bD⟩,hG,by rw[mF,List.append_nil]⟩ rfl rfl
      |true=>
       rw[if_pos ⟨rfl,h4,hm,kx⟩] at mF
       first|with_reducible refine ks [] (And.intro @eJ @kx) ?_|refine kp (And.intro @eJ @kx) ?_
       refine Ow.buildSlice (e:=82) #[vi ok,vs ot] rfl rfl (j8 (cs:=obC ⟨ok,ot⟩) Tryz.underlying94 Tryz.ag82 zrOb (by decide) rfl) fun bc nW ir=> ?_
       refine ko @eJ ?_
       refine Ow.permL (M:=D++ ((b7, .cells #[vi ok,vs ot] 82 (0,0)):: (DG++ [(bc, .cells #[vi ok,vs ot] 82 (0,0))]))) (by classical exact List.perm_iff_count.2 fun a=>by simp only[List.count_append,List.count_cons,List.count_nil]<;>omega) ?_
       refine Ow.appendXG (e:=82) (k:=1) (new:=obC ⟨ok,ot⟩) (X:=D) v3 rfl rfl rfl rfl Tryz.underlying94 Tryz.ag82 (by kernel_rfl) zrOb (by rw[obV,bL];rfl) Tryz.underlying94 (by intro k h;cases h) hG (fun w' aB=>AppX.one1 (aB.has bc (.cells (obC ⟨ok,ot⟩).toArray 82 (0,0)) (by simp[obC])) (qh _) (wB _)) (by omega) (fun B5 v5 D5 oP kh iF ii dF ey=> ?_)
       have fD:New w.heap.size D5:=New.of_le fun q hq=>by
        rcases dF q hq with h|h
        ·exact hN.le q h
        ·omega
       refine ko @eJ ?_
       first|with_reducible refine ks [] @eJ ?_|refine kp @eJ ?_
       exact CutO.mk ⟨os++ [⟨ok,ot⟩],v5,D5,(b7, .cells #[vi ok,vs ot] 82 (0,0)):: (DG++ [(bc, .cells #[vi ok,vs ot] 82 (0,0))])⟩ ⟨fD,⟨o5,bD.app ⟨ir,trivial⟩⟩,by simpa using iF,by rw[mF]⟩ rfl rfl
     ·have d5: (s.take 4== [83,76,79,49])=false:=beq_eq_false_iff_ne.2 hm
      rw[if_neg (fun h=>hm h.2.2.1)] at mF
      first|with_reducible refine ks [] (And.intro @eJ (And.intro @d4 (And.intro @d4' (@d5)))) ?_|refine kp (And.intro @eJ (And.intro @d4 (And.intro @d4' (@d5)))) ?_
      exact CutO.mk ⟨os,v3,D,DG⟩ ⟨hN,bD,hG,by rw[mF,List.append_nil]⟩ rfl rfl
    ·have d4:decide ((4:Int)≤ (s.length:Int))=false:=decide_eq_false (by omega)
     rw[if_neg (fun h=>h4 h.2.1)] at mF
     first|with_reducible refine ks [] (And.intro @eJ @d4) ?_|refine kp (And.intro @eJ @d4) ?_
     exact CutO.mk ⟨os,v3,D,DG⟩ ⟨hN,bD,hG,by rw[mF,List.append_nil]⟩ rfl rfl
  ·intro g j hg
   refine kv ?_
   obtain⟨os2,v4,D4,DG4⟩:=g
   simp only at hg ⊢
   obtain⟨fi,AE,mc,BG⟩:=hg
   have uE:os2.length≤k*201+201:=by
    have:=FA b
    rw[gm,List.length_append] at this
    rw[BG,List.length_append]
    omega
   have rd2:=rdl _ (fi.app AE)
   first|with_reducible refine ks [] (And.intro @eJ (And.intro @ln (And.intro @ixl (And.intro @rd2 (@ld2))))) ?_|refine kp (And.intro @eJ (And.intro @ln (And.intro @ixl (And.intro @rd2 (@ld2))))) ?_
   refine Ow.callC rfl rfl Tryz.call156 (fun w' aB=>JJ b w' vG) (fun B9 v9 D9 ZZ WJ tS Zy=> ?_)
   have S9:New w.heap.size D9:=tS.mono WJ
   refine ko @eJ ?_
   refine Ow.permL (M:=D4++ (DG4++D9)) (by classical exact List.perm_iff_count.2 fun a=>by simp only[List.count_append,List.count_cons,List.count_nil]<;>omega) ?_
   refine Ow.appendXG (e:=82) (k:=(pC b).length) (new:=((pC b).map obC).flatten) (X:=D4) v4 rfl rfl rfl rfl Tryz.underlying94 Tryz.ag82 (by kernel_rfl) zrOb (by rw[obV,bL];rfl) Tryz.underlying94 (by intro k h;cases h) mc (fun w' aB=>((Zy.mono (fun q hq=>by simp[hq])).slV (z:=ob0) aB rfl rfl qh).appX qh wB) (by omega) (fun B5 v5 D5 oP kh iF ii dF ey=> ?_)
   have fD:New w.heap.size D5:=New.of_le fun q hq=>by
    rcases dF q hq with h|h
    ·exact fi.le q h
    ·omega
   refine ko @eJ ?_
   first|with_reducible refine ks [] @eJ ?_|refine kp @eJ ?_
   exact Again.mk ⟨k+1,v5,D5,DG4++D9⟩ (by show l.length - (k+1)<l.length - k;omega) ⟨aC,fD,AE.app S9,by rw[bW,gm,←List.append_assoc,←BG,List.length_append,List.map_append,List.flatten_append];exact iF⟩ rfl rfl
 ·obtain rfl:k=l.length:=by omega
  have d1:decide ((l.length:Int)< (l.length:Int))=false:=decide_eq_false (by omega)
  rw[List.take_length] at hG
  first|with_reducible refine ks [] (And.intro @eJ (And.intro @d1 (@ln))) ?_|refine kp (And.intro @eJ (And.intro @d1 (@ln))) ?_
  refine⟨_,(ke @eJ), ?_⟩
  exact⟨Ext.of_new (hN.app bD),D,DG,rfl,hG⟩
end Go.Proofs
end
section
open Go Go.Proofs Go.Sx Go.StP Go.Flo
namespace Go.Proofs
set_option maxRecDepth 10000
set_option maxHeartbeats 400000
set_option linter.unusedSimpArgs false
def idQ (o:ObL):IdL:=⟨Dig.shaR (qw o.k o.t),Ei _⟩
def oC (all:List ObL):Nat→Option (List ObL)
 |0=>some []
 |i+1=>match oC all i with
  |none=>none
  |some had=>if lM (all.getD i ob0).k (all.getD i ob0).t=true∧all.getD i ob0∉had then(if had.any (fun h=>(idQ h).l==(idQ (all.getD i ob0)).l)=true then none else some (had++ [all.getD i ob0])) else some had
def nD (all:List ObL):Bool:=(oC all all.length).isNone
theorem Vf {all:List ObL}: ∀ {j i:Nat},oC all i=none→i≤j→oC all j=none
 |0,i,h,kC=>by
  obtain rfl:i=0:=by omega
  exact h
 |j+1,i,h,kC=>by
  by_cases e:i=j+1
  ·subst e;exact h
  ·have:=Vf (j:=j) h (by omega)
   unfold oC
   rw[this]
theorem Uk {all:List ObL}: ∀ {i:Nat} {had:List ObL},oC all i=some had→had.length≤i
 |0,had,h=>by cases h;exact Nat.le_refl _
 |i+1,had,h=>by
  unfold oC at h
  cases hc:oC all i with
  |none=>rw[hc] at h;cases h
  |some had'=>
   have h1:=Uk hc
   rw[hc] at h
   simp only at h
   split at h
   ·split at h
    ·cases h
    ·cases h;rw[List.length_append];simp;omega
   ·cases h;omega
structure ThG where
 j:Nat
 c:Bool
structure ClG where
 i:Nat
 had:List ObL
 v6:Value
 v7:Value
 D6:aA
 D7:aA
 DG:aA
set_option linter.defProp false
def cA:=And.intro (And.intro (And.intro (@ay) (@ax)) (And.intro (@Sx.tup2_0) (And.intro (@Sx.tup2_1) (@uh)))) (And.intro (And.intro (@vh) (And.intro (@vq) (@vk))) (And.intro (@A1) (And.intro (@tL) (@Eu))))
theorem Ia (v1 v2:Value) (l:List FiL) (more:List ObL) (w:World) (hv:FiSl w v1 l) (hl:l.length≤1000) (hb:FiB l) (hm:ObSl w v2 more) (vM:more.length≤1000000):
  Rets Tryz.prog 57 #[v1,v2] w (fun v D=>v= .bool (nD (lF l++more))∧D= []):=by
 have ln2:=hm.len
 have mG:=F3 l l.length (Nat.le_refl _)
 rw[List.take_length] at mG
 refine Rets.enterV Tryz.func57 rfl (rs:= [.tmp 4]) Tryz.results57 Tryz.ntmps57 ?_
 refine kf ?_
 first|with_reducible refine ks [] @cA ?_|refine kp @cA ?_
 refine Ow.callC rfl rfl Tryz.call113 (fun w' aB=>G5 v1 l w' (hv.oldN aB trivial) hl hb) (fun B1 v4 D0 bv dh bX cz=> ?_)
 obtain⟨D1,DG1,rfl,AA⟩:=cz
 have cy:=bX.mono dh
 rw[List.nil_append]
 refine ko @cA ?_
 refine Ow.appendXG (e:=82) (k:=more.length) (new:=(more.map obC).flatten) (X:=D1) v4 rfl rfl rfl rfl Tryz.underlying94 Tryz.ag82 (by kernel_rfl) zrOb (by rw[obV,bL];rfl) Tryz.underlying94 (by intro k h;cases h) AA (fun w' aB=>(hm.oldN aB cy).appX qh wB) (by omega) (fun B5 v5 D5 oP kh iF ii dF ey=> ?_)
 have fD:New w.heap.size D5:=New.of_le fun q hq=>by
  rcases dF q hq with h|h
  ·exact cy.le q (by rw[bO];exact List.mem_append_left _ h)
  ·omega
 rw[←List.flatten_append,←List.map_append,←List.length_append] at iF
 have iG: (lF l++more).length≤1300000:=by rw[List.length_append];omega
 have SA:New w.heap.size DG1:=New.of_le fun q hq=>cy.le q (by rw[bO];exact List.mem_append_right _ hq)
 generalize lF l++more=all at*
 have WM:=Gr.i iF (fun p hp=>hp)
 have lna: ∀m,fe (.sl m) v5=some (vi all.length):=fun m=>oG WM m
 refine ko @cA ?_
 first|with_reducible refine ks [] (And.intro @cA @lna) ?_|refine kp (And.intro @cA @lna) ?_
 refine Cw.permL (M:=D5++ ([]++ ([]++DG1))) (by classical exact List.perm_iff_count.2 fun a=>by simp only[List.count_append,List.count_cons,List.count_nil]<;>omega) ?_
 refine Cw.loopG (G:=ClG) [18,19,20,21,24,25,26,27,28,29,9,10,30,31,32,33,34,35,36,37,40,41,42,43,44,45,46,47,48,38,39,49,50,51,52,53,54,11,12,55,56,57,58,61,62,63,64,65,66,4,59,60,67,68,69,70,71,72,73,6,74,75,76,77,7,22,23,8] (fun g=> [(6,g.v6),(7,g.v7),(8,vi g.i)]) (fun g=>D5++ (g.D6++ (g.D7++g.DG))) (fun g=>g.i≤all.length∧oC all g.i=some g.had∧New w.heap.size g.D6∧New w.heap.size g.D7∧New w.heap.size g.DG∧Gr g.D6 82 2 g.v6 g.had.length (g.had.map obC).flatten∧Gr g.D7 84 32 g.v7 g.had.length ((g.had.map idQ).map jB).flatten) (fun g=>all.length - g.i) ⟨0,[], .slice none 0 0, .slice none 0 0,[],[],DG1⟩ rfl rfl ?_ ?_
 ·exact⟨Nat.zero_le _,rfl,trivial,trivial,SA,Gr.nl,Gr.nl⟩
 intro g j hg
 refine kv ?_
 obtain⟨i,had,v6,v7,D6,D7,DG⟩:=g
 simp only at hg ⊢
 obtain⟨hi,qC,jc,mg,bD,ja,me⟩:=hg
 have hhl:=Uk qC
 have cr:New w.heap.size (D5++ (D6++ (D7++DG))):=fD.app (jc.app (mg.app bD))
 by_cases aC:i<all.length
 ·have d1:decide ((i:Int)< (all.length:Int))=true:=decide_eq_true (by omega)
  have dL:oC all (i+1)=if lM (all.getD i ob0).k (all.getD i ob0).t=true∧all.getD i ob0∉had then(if had.any (fun h=>(idQ h).l==(idQ (all.getD i ob0)).l)=true then none else some (had++ [all.getD i ob0])) else some had:=by
   show(match oC all i with|none=>none|some had=>_)=_
   rw[qC]
  refine Cw.world fun wz eR=> ?_
  have av:=eR.nodup
  clear eR wz
  simp only[bO,List.nodup_append,List.mem_append] at av
  obtain h0| ⟨ra,ca,resta,rfl,qI,At⟩:=wH WM av.1
  ·omega
  have rda: ∀Y,aM w (D5++Y) ra=some (dQ obC 82 resta all):=fun Y=>aL (aq At)
  have lda:aF (some (true,2)) (some (dQ obC 82 resta all)) (i*2)=some (obV (all.getD i ob0).k (all.getD i ob0).t):=CT (E:=82) (rest:=resta) (z:=ob0) qh i aC
  have lnh: ∀m,fe (.sl m) v6=some (vi had.length):=fun m=>oG (Gr.i ja (fun p hp=>hp)) m
  have lni: ∀m,fe (.sl m) v7=some (vi had.length):=fun m=>oG (Gr.i me (fun p hp=>hp)) m
  generalize all.getD i ob0=o at*
  obtain⟨ok,ot⟩:=o
  simp only at lda dL
  first|with_reducible refine ks [7] (And.intro @cA (And.intro @d1 (And.intro @lna (And.intro @lda (@rda))))) ?_|refine kp (And.intro @cA (And.intro @d1 (And.intro @lna (And.intro @lda (@rda))))) ?_
  refine Ow.callFV rfl Tryz.call54 (fun w' aB=>Ub ok ot w') ?_
  refine ko @cA ?_
  first|with_reducible refine ks [] (And.intro @cA @lnh) ?_|refine kp (And.intro @cA @lnh) ?_
  refine Cw.loopG (G:=ThG) [30,31,32,33,34,35,36,37,40,41,42,43,44,45,46,47,48,9,38,39,10] (fun g=> [(9, .bool g.c),(10,vi g.j)]) (fun g=>D5++ (D6++ (D7++DG))) (fun g=>g.j≤had.length∧g.c=(!lM ok ot||decide ((⟨ok,ot⟩:ObL)∈had.take g.j))) (fun g=>had.length - g.j) ⟨0, !lM ok ot⟩ rfl rfl ?_ ?_
  ·exact⟨Nat.zero_le _,by simp⟩
  intro g j hg
  refine kv ?_
  obtain⟨j,c⟩:=g
  simp only at hg ⊢
  obtain⟨hj,hc⟩:=hg
  by_cases hjt:j<had.length
  ·have d2:decide ((j:Int)< (had.length:Int))=true:=decide_eq_true (by omega)
   cases c with
   |true=>
    have mn: ¬ (lM ok ot=true∧(⟨ok,ot⟩:ObL)∉had):=by
     rintro⟨h1,h2⟩
     rw[h1,decide_eq_false (fun h=>h2 (List.mem_of_mem_take h))] at hc
     cases hc
    first|with_reducible refine ks [] (And.intro @cA (And.intro @d2 (@lnh))) ?_|refine kp (And.intro @cA (And.intro @d2 (@lnh))) ?_
    rw[if_neg mn] at dL
    first|with_reducible refine ks [] @cA ?_|refine kp @cA ?_
    exact Again.mk ⟨i+1,had,v6,v7,D6,D7,DG⟩ (by show all.length - (i+1)<all.length - i;omega) ⟨aC,dL,jc,mg,bD,ja,me⟩ rfl rfl
   |false=>
    have gZ:=hc.symm
    rw[Bool.or_eq_false_iff] at gZ
    have bW:=W6 (o:=⟨ok,ot⟩) hjt
    rw[gZ.2,Bool.false_or] at bW
    obtain h0| ⟨rh,ch,resth,rfl,hkh,TD⟩:=wH (Gr.i ja (fun p hp=>hp)) av.2.1.1
    ·omega
    have qL:rh∉keys D5:=fun hm=>av.2.2 rh hm rh (.inl hkh) rfl
    have rdh:aM w (D5++ (D6++ (D7++DG))) rh=some (dQ obC 82 resth had):=aL (by rw[iB qL];exact aq TD)
    have ldh:aF (some (true,2)) (some (dQ obC 82 resth had)) (j*2)=some (obV (had.getD j ob0).k (had.getD j ob0).t):=CT (E:=82) (rest:=resth) (z:=ob0) qh j hjt
    generalize had.getD j ob0=p at*
    first|with_reducible refine ks [] (And.intro @cA (And.intro @d2 (@lnh))) ?_|refine kp (And.intro @cA (And.intro @d2 (@lnh))) ?_
    refine Cw.regionS [rh,ra] [0,1,2,4,5,6,3,7,8,9] [] (by kernel_rfl) (by kernel_rfl) (by kernel_rfl) ?_
    simp only[ar, ↓ap, ↓ag, ↓an, ↓am,ah]
    refine kq (And.intro @cA (And.intro @rdh (And.intro @ldh (And.intro @rda (@lda))))) ?_
    first|with_reducible refine ks [] @cA ?_|refine kp @cA ?_
    exact Again.mk ⟨j+1,_⟩ (by show had.length - (j+1)<had.length - j;omega) ⟨hjt,by rw[gZ.1,Bool.false_or];exact bW.symm⟩ rfl rfl
  ·obtain rfl:j=had.length:=by omega
   have d2:decide ((had.length:Int)< (had.length:Int))=false:=decide_eq_false (by omega)
   rw[List.take_length] at hc
   cases c with
   |true=>
    have mn: ¬ (lM ok ot=true∧(⟨ok,ot⟩:ObL)∉had):=by
     rintro⟨h1,h2⟩
     rw[h1,decide_eq_false h2] at hc
     cases hc
    first|with_reducible refine ks [] (And.intro @cA (And.intro @d2 (@lnh))) ?_|refine kp (And.intro @cA (And.intro @d2 (@lnh))) ?_
    rw[if_neg mn] at dL
    first|with_reducible refine ks [] @cA ?_|refine kp @cA ?_
    exact Again.mk ⟨i+1,had,v6,v7,D6,D7,DG⟩ (by show all.length - (i+1)<all.length - i;omega) ⟨aC,dL,jc,mg,bD,ja,me⟩ rfl rfl
   |false=>
    have gZ:=hc.symm
    rw[Bool.or_eq_false_iff] at gZ
    have Wy:lM ok ot=true:=by simpa using gZ.1
    have od:ot.length<100000:=by have:=Mm (k:=ok) (t:=ot) (by rw[VO];exact Wy);omega
    rw[if_pos ⟨Wy,of_decide_eq_false gZ.2⟩] at dL
    first|with_reducible refine ks [] (And.intro @cA (And.intro @d2 (And.intro @lnh (And.intro @rda (@lda))))) ?_|refine kp (And.intro @cA (And.intro @d2 (And.intro @lnh (And.intro @rda (@lda))))) ?_
    refine Ow.callFV rfl Tryz.call55 (fun w' aB=>NB ok ot w' od) ?_
    have hid:Dig.shaR (qw ok ot)=(idQ ⟨ok,ot⟩).l:=rfl
    rw[hid] at*
    have oW:=(idQ ⟨ok,ot⟩).h
    have Wk:=id0.h
    generalize hx:idQ ⟨ok,ot⟩=x at*
    refine ko @cA ?_
    refine Ow.alloc rfl rfl lx fun b11 tY qY=> ?_
    simp only[bL,List.nil_append,List.cons_append]
    refine Ow.permL (M:=(b11, .cells (a8 id0.l) 84 (0,0)):: (D5++ (D6++ (D7++DG)))) (by classical exact List.perm_iff_count.2 fun a=>by simp only[List.count_append,List.count_cons,List.count_nil]<;>omega) ?_
    refine ko @cA ?_
    first|with_reducible refine ks [] (And.intro @cA @lni) ?_|refine kp (And.intro @cA @lni) ?_
    refine Cw.loopG (G:=Nat) [55,56,57,58,61,62,63,64,65,66,4,59,60,12] (fun g=> [(12,vi g)]) (fun g=>(b11, .cells (a8 x.l) 84 (0,0)):: (D5++ (D6++ (D7++DG)))) (fun g=>g≤had.length∧(had.take g).any (fun h=>(idQ h).l==x.l)=false) (fun g=>had.length - g) 0 rfl rfl ?_ ?_
    ·exact⟨Nat.zero_le _,rfl⟩
    intro m jm hm
    refine kv ?_
    obtain⟨eO,lV⟩:=hm
    by_cases jh:m<had.length
    ·have d3:decide ((m:Int)< (had.length:Int))=true:=decide_eq_true (by omega)
     obtain h0| ⟨rq,cq,restq,rfl,T7,TE⟩:=wH (l:=had.map idQ) (enc:=jB) (by rw[List.length_map];exact Gr.i me (fun p hp=>hp)) av.2.1.2.1.1
     ·rw[List.length_map] at h0;omega
     rw[List.length_map] at*
     have qL:rq∉keys D5:=fun hm=>av.2.2 rq hm rq (.inr (.inl T7)) rfl
     have mm:rq∉keys D6:=fun hm=>av.2.1.2.2 rq hm rq (.inl T7) rfl
     have hq11:rq<b11:=cY tY (by simp only[bO,List.mem_append];exact .inr (.inr (.inl T7)))
     have rdq:aM w ((b11, .cells (a8 x.l) 84 (0,0)):: (D5++ (D6++ (D7++DG)))) rq=some (dQ jB 84 restq (had.map idQ)):=aL (by rw[Bg _ _ _ _ (by omega),iB qL,iB mm];exact aq TE)
     have ldq:aF (some (true,32)) (some (dQ jB 84 restq (had.map idQ))) (m*32)=some (.agg (a8 (idQ (had.getD m ob0)).l)):=by
      have:=CT (E:=84) (rest:=restq) (z:=id0) C6 m (show m< (had.map idQ).length by rw[List.length_map];exact jh)
      rw[yY,show(had.map idQ).getD m id0=idQ (had.getD m ob0) from by rw[List.getD_eq_getElem?_getD,List.getD_eq_getElem?_getD,List.getElem?_map,List.getElem?_eq_getElem jh];rfl] at this
      exact this
     have rQ:had.getD m ob0∈had:=mq jh
     have bW: (had.take (m+1)).any (fun h=>(idQ h).l==x.l)=((idQ (had.getD m ob0)).l==x.l):=by
      rw[StP.take_snoc (z:=ob0) jh,List.any_append,lV];simp
     generalize had.getD m ob0=p at*
     first|with_reducible refine ks [] (And.intro @cA (And.intro @d3 (@lni))) ?_|refine kp (And.intro @cA (And.intro @d3 (@lni))) ?_
     refine Cw.regionS [rq,b11] [0,1,2,3,4,5] [] (by kernel_rfl) (by kernel_rfl) (by kernel_rfl) ?_
     simp only[ar, ↓ap, ↓ag, ↓an, ↓am,ah]
     refine kq (And.intro @cA (And.intro @rdq (@ldq))) ?_
     cases hq: ((idQ p).l==x.l) with
     |true=>
      have tW:had.any (fun h=>(idQ h).l==x.l)=true:=List.any_eq_true.2 ⟨p,rQ,hq⟩
      rw[if_pos tW] at dL
      have oY:=Vf dL (show i+1≤all.length by omega)
      first|with_reducible refine ks [] (And.intro @cA @hq) ?_|refine kp (And.intro @cA @hq) ?_
      refine⟨_,(ke @cA),(show New w.heap.size ((b11,_):: (D5++ (D6++ (D7++DG)))) from⟨qY,cr⟩), ?_⟩
      (unfold nD;rw[oY];rfl)
     |false=>
      rw[hq] at bW
      first|with_reducible refine ks [] (And.intro @cA @hq) ?_|refine kp (And.intro @cA @hq) ?_
      exact Again.mk (m+1) (by omega) ⟨jh,bW⟩ rfl rfl
    ·obtain rfl:m=had.length:=by omega
     have d3:decide ((had.length:Int)< (had.length:Int))=false:=decide_eq_false (by omega)
     rw[List.take_length] at lV
     rw[if_neg (by rw[lV];simp)] at dL
     have ha11:ra<b11:=cY tY (by simp only[bO,List.mem_append];exact .inl qI)
     have rda2: ∀O Y,aM w ((b11,O):: (D5++Y)) ra=some (dQ obC 82 resta all):=fun O Y=>aL (by rw[Bg _ _ _ _ (by omega)];exact aq At)
     first|with_reducible refine ks [] (And.intro @cA (And.intro @d3 (And.intro @lni (And.intro @rda2 (@lda))))) ?_|refine kp (And.intro @cA (And.intro @d3 (And.intro @lni (And.intro @rda2 (@lda))))) ?_
     refine Ow.buildSlice (e:=82) #[vi ok,vs ot] rfl rfl (j8 (cs:=obC ⟨ok,ot⟩) Tryz.underlying94 Tryz.ag82 zrOb (by decide) rfl) fun bc nW ir=> ?_
     refine ko @cA ?_
     refine Ow.permL (M:=D6++ ((b11, .cells (a8 x.l) 84 (0,0)):: (D5++ (D7++ (DG++ [(bc, .cells #[vi ok,vs ot] 82 (0,0))]))))) (by classical exact List.perm_iff_count.2 fun a=>by simp only[List.count_append,List.count_cons,List.count_nil]<;>omega) ?_
     refine Ow.appendXG (e:=82) (k:=1) (new:=obC ⟨ok,ot⟩) (X:=D6) v6 rfl rfl rfl rfl Tryz.underlying94 Tryz.ag82 (by kernel_rfl) zrOb (by rw[obV,bL];rfl) Tryz.underlying94 (by intro k h;cases h) ja (fun w' aB=>AppX.one1 (aB.has bc (.cells (obC ⟨ok,ot⟩).toArray 82 (0,0)) (by simp[obC])) (qh _) (wB _)) (by omega) (fun B8 va8 D8 hA8 hB8 Zj hk81 Sy Ar=> ?_)
     have px:New w.heap.size D8:=New.of_le fun q hq=>by
      rcases Sy q hq with h|h
      ·exact jc.le q h
      ·omega
     refine Ow.permL (M:=(b11, .cells (a8 x.l) 84 (0,0)):: (D5++ (D8++ (D7++ (DG++ [(bc, .cells #[vi ok,vs ot] 82 (0,0))]))))) (by classical exact List.perm_iff_count.2 fun a=>by simp only[List.count_append,List.count_cons,List.count_nil]<;>omega) ?_
     refine ko @cA ?_
     first|with_reducible refine ks [] @cA ?_|refine kp @cA ?_
     refine Ow.buildSlice (e:=84) (a8 x.l) rfl rfl (j8 (cs:=x.l.map v8) Tryz.underlying106 pI lx (by decide) (by simp[x.h])) fun ba rC lC=> ?_
     refine ko @cA ?_
     refine Ow.permL (M:=D7++ ((b11, .cells (a8 x.l) 84 (0,0)):: (D5++ (D8++ (DG++ [(bc, .cells #[vi ok,vs ot] 82 (0,0)),(ba, .cells (a8 x.l) 84 (0,0))]))))) (by classical exact List.perm_iff_count.2 fun a=>by simp only[List.count_append,List.count_cons,List.count_nil]<;>omega) ?_
     refine Ow.appendXG (e:=84) (k:=1) (new:=jB x) (X:=D7) v7 rfl rfl rfl rfl Tryz.underlying106 pI (by kernel_rfl) lx (by rw[bL,ui,id0.h]) Tryz.underlying106 (by intro k h;cases h) me (fun w' aB=>AppX.one1 (by rw[yY];exact aB.has ba (.cells (a8 x.l) 84 (0,0)) (by simp)) (C6 _) (Vd _)) (by omega) (fun B9 va9 D9 ZZ WJ DQ hk91 T0 l8=> ?_)
     have tS:New w.heap.size D9:=New.of_le fun q hq=>by
      rcases T0 q hq with h|h
      ·exact mg.le q h
      ·omega
     refine ko @cA ?_
     refine Cw.permL (M:=D5++ (D8++ (D9++ ((b11, .cells (a8 x.l) 84 (0,0)):: (DG++ [(bc, .cells #[vi ok,vs ot] 82 (0,0)),(ba, .cells (a8 x.l) 84 (0,0))]))))) (by classical exact List.perm_iff_count.2 fun a=>by simp only[List.count_append,List.count_cons,List.count_nil]<;>omega) ?_
     first|with_reducible refine ks [] @cA ?_|refine kp @cA ?_
     have jH: (had++ [(⟨ok,ot⟩:ObL)]).length=had.length+1:=by simp
     exact Again.mk ⟨i+1,had++ [⟨ok,ot⟩],va8,va9,D8,D9,(b11, .cells (a8 x.l) 84 (0,0)):: (DG++ [(bc, .cells #[vi ok,vs ot] 82 (0,0)),(ba, .cells (a8 x.l) 84 (0,0))])⟩ (by show all.length - (i+1)<all.length - i;omega) ⟨aC,dL,px,tS,⟨qY,bD.app ⟨ir,lC,trivial⟩⟩,by simpa using Zj,by rw[←hx] at DQ;simpa using DQ⟩ rfl rfl
 ·obtain rfl:i=all.length:=by omega
  have d1:decide ((all.length:Int)< (all.length:Int))=false:=decide_eq_false (by omega)
  first|with_reducible refine ks [] (And.intro @cA (And.intro @d1 (@lna))) ?_|refine kp (And.intro @cA (And.intro @d1 (@lna))) ?_
  refine⟨_,(ke @cA),cr, ?_⟩
  (unfold nD;rw[qC];rfl)
end Go.Proofs
end
section
open Go Go.Proofs Go.Sx Go.StP Go.Flo
namespace Go.Proofs
set_option maxRecDepth 10000
set_option maxHeartbeats 400000
set_option linter.unusedSimpArgs false
def sumF (l:List FiL):Nat:=(l.map fun f=>f.data.length / 100+f.name.length).sum
def sG (l:List FiL) (more:List ObL):Bool:=decide (60<l.length) ||decide (1000<sumF l) ||nD (lF l++more)
theorem KT (l:List FiL) {k:Nat} (h:k<l.length):sumF (l.take (k+1))=sumF (l.take k)+ (l.getD k fi0).data.length / 100+ (l.getD k fi0).name.length:=by
 unfold sumF
 rw[StP.take_snoc (z:=fi0) h,List.map_append,List.sum_append,List.map_singleton,List.sum_singleton,Nat.add_assoc]
theorem PC (l:List FiL) (k:Nat):sumF (l.take k)≤sumF l:=by
 have:sumF l=sumF (l.take k)+sumF (l.drop k):=by
  unfold sumF
  rw[←List.sum_append,←List.map_append,List.take_append_drop]
 omega
theorem Mo {l:List FiL} {f:FiL} (h:f∈l):f.data.length / 100+f.name.length≤sumF l:=by
 unfold sumF
 induction l with
 |nil=>cases h
 |cons g l ih=>
  rw[List.map_cons,List.sum_cons]
  rcases List.mem_cons.1 h with rfl|h
  ·omega
  ·have:=ih h;omega
theorem Lm {l:List FiL} {more:List ObL} (h:sG l more=false):l.length≤60∧nD (lF l++more)=false∧ ∀f,f∈l→f.name.length≤1000∧f.data.length<100100:=by
 unfold sG at h
 simp only[Bool.or_eq_false_iff,decide_eq_false_iff_not] at h
 refine⟨by omega,h.2,fun f hf=> ?_⟩
 have:=Mo hf
 omega
structure GfG where
 n:Nat
 k:Nat
set_option linter.defProp false
def j5:=And.intro (@ay) (@ax)
theorem FQ (v1 v2:Value) (l:List FiL) (more:List ObL) (w:World) (hv:FiSl w v1 l) (hb:FiB l) (hm:ObSl w v2 more) (vM:more.length≤1000000):
  Rets Tryz.prog 15 #[v1,v2] w (fun v D=>v= .bool (sG l more)∧D= []):=by
 have ln:=hv.len
 obtain⟨rb,off,arr,E,fz,hr⟩:=hv.row
 refine Rets.enterV Tryz.func15 rfl (rs:= [.tmp 4]) Tryz.results15 Tryz.ntmps15 ?_
 refine kf ?_
 by_cases WF:60<l.length
 ·have d1:decide ((60:Int)< (l.length:Int))=true:=decide_eq_true (by omega)
  first|with_reducible refine ks [] (And.intro @j5 (And.intro @ln (@d1))) ?_|refine kp (And.intro @j5 (And.intro @ln (@d1))) ?_
  refine⟨_,(ke @j5),trivial, ?_⟩
  (unfold sG;rw[decide_eq_true WF];rfl)
 ·have d1:decide ((60:Int)< (l.length:Int))=false:=decide_eq_false (by omega)
  first|with_reducible refine ks [] (And.intro @j5 (And.intro @ln (@d1))) ?_|refine kp (And.intro @j5 (And.intro @ln (@d1))) ?_
  refine Cw.loopG (G:=GfG) [10,11,12,13,16,17,18,19,20,21,22,23,24,25,26,27,28,29,30,31,5,32,33,4,14,15,6] (fun g=> [(5,vi g.n),(6,vi g.k)]) (fun g=> []) (fun g=>g.k≤l.length∧g.n≤1000∧g.n=sumF (l.take g.k)) (fun g=>l.length - g.k) ⟨0,0⟩ rfl rfl ?_ ?_
  ·exact⟨Nat.zero_le _,Nat.zero_le _,rfl⟩
  intro g j hg
  refine kv ?_
  obtain⟨n,k⟩:=g
  simp only at hg ⊢
  obtain⟨hk,hn,hs⟩:=hg
  by_cases aC:k<l.length
  ·have d2:decide ((k:Int)< (l.length:Int))=true:=decide_eq_true (by omega)
   have ix:=hr.idx true k aC
   have hh:=hr.has (by omega)
   have ld1: ∀n,aF (some (false,n)) (some (.cells arr E fz)) (off+k*3+1)=some (vs (l.getD k fi0).name):=fun n=>yi hr aC n
   have ld2: ∀n,aF (some (false,n)) (some (.cells arr E fz)) (off+k*3+2)=some (vs (l.getD k fi0).data):=fun n=>sL hr aC n
   have iZ:=hb (l.getD k fi0) (by rw[List.getD_eq_getElem?_getD,List.getElem?_eq_getElem aC];exact List.getElem_mem _)
   have iq:=KT l aC
   have cT:=PC l (k+1)
   generalize l.getD k fi0=r at*
   have es: ((n:Int)+ (r.data.length:Int).tdiv 100)+ (r.name.length:Int)=((n+r.data.length / 100+r.name.length:Nat):Int):=by
    rw[Int.tdiv_eq_ediv_of_nonneg (by omega)];omega
   have es2: ((n:Int)+ (r.data.length:Int) / 100)+ (r.name.length:Int)=((n+r.data.length / 100+r.name.length:Nat):Int):=by omega
   first|with_reducible refine ks [] (And.intro @j5 (And.intro @ln (@d2))) ?_|refine kp (And.intro @j5 (And.intro @ln (@d2))) ?_
   refine Cw.regionS [rb] [0,1,2,3,4,9,10,11,12,5,6,7,8,13,14,15,16] [] (by kernel_rfl) (by kernel_rfl) (by kernel_rfl) ?_
   simp only[ar, ↓ap, ↓ag, ↓an, ↓am,ah]
   refine kq (And.intro @j5 (And.intro @ln (And.intro @ix (And.intro @hh (And.intro @ld1 (And.intro @ld2 (And.intro @es (@es2)))))))) ?_
   by_cases Wi:1000<n+r.data.length / 100+r.name.length
   ·have d3:decide ((1000:Int)< ((n+r.data.length / 100+r.name.length:Nat):Int))=true:=decide_eq_true (by omega)
    first|with_reducible refine ks [] (And.intro @j5 @d3) ?_|refine kp (And.intro @j5 @d3) ?_
    refine⟨_,(ke @j5),trivial, ?_⟩
    (unfold sG;rw[decide_eq_true (show 1000<sumF l by omega),Bool.or_true];rfl)
   ·have d3:decide ((1000:Int)< ((n+r.data.length / 100+r.name.length:Nat):Int))=false:=decide_eq_false (by omega)
    first|with_reducible refine ks [] (And.intro @j5 @d3) ?_|refine kp (And.intro @j5 @d3) ?_
    exact Again.mk ⟨n+r.data.length / 100+r.name.length,k+1⟩ (by show l.length - (k+1)<l.length - k;omega) ⟨aC,by show n+r.data.length / 100+r.name.length≤1000;omega,by show n+r.data.length / 100+r.name.length=sumF (l.take (k+1));omega⟩ rfl rfl
  ·have d2:decide ((k:Int)< (l.length:Int))=false:=decide_eq_false (by omega)
   rw[show l.take k=l from List.take_of_length_le (by omega)] at hs
   first|with_reducible refine ks [] (And.intro @j5 (And.intro @ln (@d2))) ?_|refine kp (And.intro @j5 (And.intro @ln (@d2))) ?_
   refine Ow.callFV rfl Tryz.call57 (fun w' aB=>Ia v1 v2 l more w' (hv.oldN aB trivial) (by omega) hb (hm.oldN aB trivial) vM) ?_
   refine ko @j5 ?_
   first|with_reducible refine ks [] @j5 ?_|refine kp @j5 ?_
   refine⟨_,(ke @j5),trivial, ?_⟩
   (unfold sG;rw[decide_eq_false WF,decide_eq_false (show¬1000<sumF l by omega)];rfl)
instance:DecidableEq FiL:=fun a b=>if h:a.dir=b.dir∧a.name=b.name∧a.data=b.data then .isTrue (by cases a;cases b;simp only at h;obtain⟨rfl,rfl,rfl⟩:=h;rfl) else .isFalse (fun e=>h (by rw[e];exact⟨rfl,rfl,rfl⟩))
set_option linter.defProp false
def kR:=And.intro (And.intro (@ay) (@ax)) (And.intro (@yl) (@neFi))
theorem Xo (v1 v2:Value) (a b:List FiL) (w:World) (ha:FiSl w v1 a) (hb:FiSl w v2 b) (iG:a.length<1000000000):
  Rets Tryz.prog 25 #[v1,v2] w (fun v D=>v= .bool (decide (a=b))∧D= []):=by
 have ln1:=ha.len
 have ln2:=hb.len
 obtain⟨ra,offa,arra,Ea,fza,Tq⟩:=ha.row
 obtain⟨rb,offb,arrb,Eb,fzb,kF⟩:=hb.row
 refine Rets.enterV Tryz.func25 rfl (rs:= [.tmp 4]) Tryz.results25 Tryz.ntmps25 ?_
 refine kf ?_
 by_cases qK:a.length=b.length
 ·have d1: ((a.length:Int) !=(b.length:Int))=false:=by rw[qK];exact bne_self_eq_false _
  first|with_reducible refine ks [] (And.intro @kR (And.intro @ln1 (And.intro @ln2 (@d1)))) ?_|refine kp (And.intro @kR (And.intro @ln1 (And.intro @ln2 (@d1)))) ?_
  refine Cw.loopG (G:=Nat) [11,12,13,14,17,18,19,20,21,22,23,24,25,4,15,16,5] (fun g=> [(5,vi g)]) (fun g=> []) (fun g=>g≤a.length∧a.take g=b.take g) (fun g=>a.length - g) 0 rfl rfl ?_ ?_
  ·exact⟨Nat.zero_le _,rfl⟩
  intro k jk hk
  refine kv ?_
  obtain⟨fR,ex⟩:=hk
  by_cases aC:k<a.length
  ·have u6:k<b.length:=by omega
   have d2:decide ((k:Int)< (a.length:Int))=true:=decide_eq_true (by omega)
   have ixa:=Tq.idx true k aC
   have ixb:=kF.idx true k u6
   have rda:=Tq.has (show 0<a.length by omega)
   have rdb:=kF.has (show 0<b.length by omega)
   have lda:=zX Tq aC
   have ldb:=zX kF u6
   have bW:a.take (k+1)=b.take (k+1)↔a.getD k fi0=b.getD k fi0:=by
    rw[StP.take_snoc (z:=fi0) aC,StP.take_snoc (z:=fi0) u6,ex]
    constructor
    ·intro h;simpa using h
    ·intro h;rw[h]
   have da:a=b→a.getD k fi0=b.getD k fi0:=fun h=>by rw[h]
   generalize a.getD k fi0=x at*
   generalize b.getD k fi0=y at*
   first|with_reducible refine ks [] (And.intro @kR (And.intro @ln1 (@d2))) ?_|refine kp (And.intro @kR (And.intro @ln1 (@d2))) ?_
   refine Cw.regionS [ra,rb] [0,1,2,4,5,6,3,7,8] [] (by kernel_rfl) (by kernel_rfl) (by kernel_rfl) ?_
   simp only[ar, ↓ap, ↓ag, ↓an, ↓am,ah]
   refine kq (And.intro @kR (And.intro @ixa (And.intro @ixb (And.intro @rda (And.intro @rdb (And.intro @lda (@ldb))))))) ?_
   cases hq: (x.dir==y.dir&&x.name==y.name&&x.data==y.data) with
   |true=>
    have e:x=y:=by
     simp only[Bool.and_eq_true,beq_iff_eq] at hq
     cases x;cases y;simp only at hq;obtain⟨⟨rfl,rfl⟩,rfl⟩:=hq;rfl
    first|with_reducible refine ks [] (And.intro @kR @hq) ?_|refine kp (And.intro @kR @hq) ?_
    exact Again.mk (k+1) (by omega) ⟨aC,bW.2 e⟩ rfl rfl
   |false=>
    first|with_reducible refine ks [] (And.intro @kR @hq) ?_|refine kp (And.intro @kR @hq) ?_
    refine⟨_,(ke @kR),trivial, ?_⟩
    (rw[decide_eq_false (fun h=>by have e:=da h;rw[e] at hq;simp at hq)];rfl)
  ·obtain rfl:k=a.length:=by omega
   have d2:decide ((a.length:Int)< (a.length:Int))=false:=decide_eq_false (by omega)
   first|with_reducible refine ks [] (And.intro @kR (And.intro @ln1 (@d2))) ?_|refine kp (And.intro @kR (And.intro @ln1 (@d2))) ?_
   refine⟨_,(ke @kR),trivial, ?_⟩
   (rw[List.take_length,qK,List.take_length] at ex;rw[decide_eq_true ex];rfl)
 ·have d1: ((a.length:Int) !=(b.length:Int))=true:=bne_iff_ne.2 (by omega)
  first|with_reducible refine ks [] (And.intro @kR (And.intro @ln1 (And.intro @ln2 (@d1)))) ?_|refine kp (And.intro @kR (And.intro @ln1 (And.intro @ln2 (@d1)))) ?_
  refine⟨_,(ke @kR),trivial, ?_⟩
  (rw[decide_eq_false (fun h=>qK (by rw[h]))];rfl)
end Go.Proofs
end
section
open Go Go.Proofs Go.Sx Go.StP
namespace Go.Proofs
set_option maxRecDepth 10000
set_option maxHeartbeats 400000
set_option linter.unusedSimpArgs false
theorem yX {w:World} {L:aA} (hg:mX w) (hn:New w.heap.size L):0∉keys L:=by
 obtain⟨e,fz,qG⟩:=hg
 exact hn.not (Array.getElem?_eq_some_iff.1 qG).1
theorem qb {w w':World} {L:aA} (hg:mX w) (h:Hp w L w') (hn:New w.heap.size L):mX w':=by
 have mn:=yX hg hn
 obtain⟨e,fz,qG⟩:=hg
 exact⟨e,fz,(h.old _ (Array.getElem?_eq_some_iff.1 qG).1 mn).trans qG⟩
set_option linter.defProp false
end Go.Proofs
end
section
open Go Go.Proofs Go.Sx Go.StP
namespace Go.Proofs
set_option maxRecDepth 10000
set_option maxHeartbeats 400000
set_option linter.unusedSimpArgs false
set_option linter.defProp false
end Go.Proofs
end
section
open Go Go.Proofs Go.Sx Go.StP Go.Flo
namespace Go.Proofs
set_option maxRecDepth 10000
set_option maxHeartbeats 1000000
set_option linter.unusedSimpArgs false
set_option linter.defProp false
end Go.Proofs
end
section
open Go Go.Proofs Go.Sx Go.StP Go.Flo
namespace Go.Proofs
set_option maxRecDepth 10000
set_option maxHeartbeats 1000000
set_option linter.unusedSimpArgs false
theorem ActOk.old {w w':World} {L:aA} {a:ActL} (h:ActOk w a) (hw:Hp w L w') (hn:New w.heap.size L):ActOk w' a:=
 ⟨h.pk.old hw fun hl _b hb=>hn.not (h.pk.blk hl hb),h.n⟩
set_option linter.defProp false
end Go.Proofs
end
section
open Go Go.Proofs Go.Sx Go.StP Go.Flo
namespace Go.Proofs
set_option maxRecDepth 10000
set_option maxHeartbeats 1000000
set_option linter.unusedSimpArgs false
theorem Mf {S S':DiskL} {kind:Int} {dir name s:List UInt8} {e:Nat} (h:StepD S kind dir name s S' e):S'.files.length≤S.files.length+1:=by
 obtain⟨-,bG,-⟩:=la S
 cases h with
 |same=>exact Nat.le_succ _
 |burn=>rw[bG];exact Nat.le_succ _
 |create=>show((aG S).1.files++ [dC]).length≤_;rw[bG,List.length_append];exact Nat.le_refl _
 |append=>show((aG S).1.files.set _ _).length≤_;rw[List.length_set,bG];exact Nat.le_succ _
 |sync=>show((aG S).1.files.set _ _).length≤_;rw[List.length_set,bG];exact Nat.le_succ _
 |syncDir=>show(aG S).1.files.length≤_;rw[bG];exact Nat.le_succ _
 |rename=>show(aG S).1.files.length≤_;rw[bG];exact Nat.le_succ _
 |remove=>show(aG S).1.files.length≤_;rw[bG];exact Nat.le_succ _
theorem Q6 (q:Int) (l:List FiL): (ofD q l).files.length≤l.length:=by
 have: ∀i,i≤l.length→(ofN l q i).files.length≤i∧ ∀k,((ofN l q i).dir k).seen.length≤i:=fun i=>by
  induction i with
  |zero=>exact fun _=>⟨Nat.le_refl _,fun _=>Nat.le_refl _⟩
  |succ i ih=>exact fun h=>by rw[xu l q (by omega)];exact VA _ _ (ih (by omega))
 have h:=(this l.length (Nat.le_refl _)).1
 unfold ofN at h
 rw[List.take_length] at h
 exact h
theorem DkP.worldM {X L:aA} {G:DkG} {S:DiskL} {w0 w:World} (h:DkP X G S) (hw:Hp w0 L w) (hm: ∀p,p∈X→p∈L):DkW w G S:=⟨X,fun b o hb=>hw.has b o (hm _ (bh hb)),h⟩
theorem DcP.worldM {X L:aA} {G:DcG} {S:DiskL} {w0 w:World} (h:DcP X G S) (hw:Hp w0 L w) (hm: ∀p,p∈X→p∈L):DcW w G S:=⟨X,fun b o hb=>hw.has b o (hm _ (bh hb)),h⟩
theorem IE (X:aA) (G:DcG) (S:DiskL) (n:Int) (w:World) (hX: ∀p,p∈X→w.heap[p.1]? =some p.2) (av: (keys X).Nodup) (hP:DcP X G S) (hn: -9223372036854775808≤n∧n<9223372036854775808):
  Rets Tryz.prog 30 #[vp G.bd 0,vi n] w (XS w X (fun v D=>v=ck []∧ ∃G',G'.bd=G.bd∧DcP D G' {S with fuse:=n,fused:=decide (0≤n)})):=by
 refine Rets.mono (Rets.chunk hX av (bV hP.disk) (Gd G S n w hn (hX _ (bh hP.disk)))) ?_
 rintro v D ⟨hE,o,rfl,rfl,rfl⟩
 exact⟨hE,rfl,G,rfl,hP.setD {S with fuse:=n,fused:=decide (0≤n)} rfl rfl⟩
theorem li {w0:World} {L X D:aA} {b:Nat} (hC:Came w0 L X D) (hX:b∉keys X) (hL:b∈keys L):b∉keys D:=fun hm=>by
 rcases hC.new b hm with h| ⟨h,-⟩
 ·exact hX h
 ·have:=cY h hL;omega
theorem t8 (w:World) {X Y:aA} {b:Nat} (o:Obj) (Z:aA) (hX:b∉keys X) (hY:b∉keys Y):aM w (X++ (Y++ ((b,o)::Z))) b=some o:=aL (by rw[iB hX,iB hY];simp[Sx.look])
set_option linter.defProp false
end Go.Proofs
end
section
open Go Go.Proofs Go.Sx Go.StP
namespace Go.Proofs
set_option maxRecDepth 10000
set_option maxHeartbeats 400000
set_option linter.unusedSimpArgs false
structure GoodS (S:DiskL):Prop where
 srt: ∀k,k<3→SrtN (S.dir k).seen
 lt:LtS S
 uniq:zx S
theorem DkOk.good {S:DiskL} (ok:DkOk S) (hu:zx S):GoodS S:=⟨ok.seen,ok.seenN,hu⟩
def az (s:List UInt8):List UInt8:=s++ [46,116,109,112]
section
variable {S S':DiskL} {kind:Int} {dir name s:List UInt8} {e:Nat}
end
end Go.Proofs
end
section
open Go Go.Proofs Go.Sx Go.StP
namespace Go.Proofs
set_option maxRecDepth 10000
set_option maxHeartbeats 400000
set_option linter.unusedSimpArgs false
structure TkL where
 dir:List UInt8
 name:List UInt8
 data:List UInt8
 light:Bool
 next:Nat
 made:Bool
 ended:Bool
structure PhR where
 did:Bool
 e:Nat
 t:TkL
 S:DiskL
def qy (t:TkL) (S:DiskL):PhR:=if(gG S t.dir (az t.name)).2≠0 then⟨false,0,t,S⟩ else⟨true,(dp S t.dir (az t.name)).2,t,(dp S t.dir (az t.name)).1⟩
def sK (t:TkL) (S:DiskL):PhR:=⟨true,(mU S t.dir (az t.name)).2,{t with made:=(mU S t.dir (az t.name)).2==0},(mU S t.dir (az t.name)).1⟩
def sX (t:TkL) (S:DiskL):PhR:=⟨true,(oI S t.dir (az t.name) t.data).2,t,(oI S t.dir (az t.name) t.data).1⟩
def pg (t:TkL) (S:DiskL):PhR:=if t.light=true then⟨false,0,t,S⟩ else⟨true,(nC S t.dir (az t.name)).2,t,(nC S t.dir (az t.name)).1⟩
def sJ (t:TkL) (S:DiskL):PhR:=⟨true,(mV S t.dir (az t.name) t.name).2,{t with made:=t.made&& (mV S t.dir (az t.name) t.name).2 !=0},(mV S t.dir (az t.name) t.name).1⟩
def Cf (t:TkL) (S:DiskL):PhR:=if t.light=true then⟨false,0,t,S⟩ else⟨true,(fC S t.dir).2,t,(fC S t.dir).1⟩
def phT (k:Nat) (t:TkL) (S:DiskL):PhR:=match k with
 |0=>qy t S
 |1=>sK t S
 |2=>sX t S
 |3=>pg t S
 |4=>sJ t S
 |_=>Cf t S
structure StR where
 done:Bool
 e:Nat
 t:TkL
 S:DiskL
def nxT (r:PhR):TkL:={r.t with next:=r.t.next+1}
def g7 (t:TkL):Bool:=t.next==6|| (t.light&&t.next==5)
def gq (r:PhR):StR:=if(nxT r).made=true∧r.e≠9 then⟨false,r.e,{nxT r with ended:=true},(dp r.S r.t.dir (az r.t.name)).1⟩ else⟨false,r.e,{nxT r with ended:=true},r.S⟩
def gH (r:PhR):TkL:={nxT r with ended:=g7 (nxT r)}
def f4:Nat→TkL→DiskL→StR
 |0,t,S=>⟨false,0,t,S⟩
 |f+1,t,S=>
  if(phT t.next t S).e≠0 then gq (phT t.next t S)
  else if(phT t.next t S).did=false∧g7 (nxT (phT t.next t S))=false then f4 f (gH (phT t.next t S)) (phT t.next t S).S
  else⟨g7 (nxT (phT t.next t S)),0,gH (phT t.next t S),(phT t.next t S).S⟩
def fH (t:TkL) (S:DiskL):StR:=if t.ended=true then⟨false,15,t,S⟩ else f4 (6 - t.next) t S
def runG:Nat→TkL→DiskL→Nat×TkL×DiskL
 |0,t,S=>(0,t,S)
 |f+1,t,S=>if(fH t S).done=true∨(fH t S).e≠0 then((fH t S).e,(fH t S).t,(fH t S).S) else runG f (fH t S).t (fH t S).S
def phG:Nat→TkL→DiskL→Nat×DiskL
 |0,_,S=>(0,S)
 |f+1,t,S=>
  if(phT t.next t S).e≠0 then((gq (phT t.next t S)).e,(gq (phT t.next t S)).S)
  else if g7 (nxT (phT t.next t S))=true then(0,(phT t.next t S).S)
  else phG f (gH (phT t.next t S)) (phT t.next t S).S
theorem RQ (f:Nat) (t:TkL) (S:DiskL):phG (f+1) t S=(if(phT t.next t S).e≠0 then((gq (phT t.next t S)).e,(gq (phT t.next t S)).S)
  else if g7 (nxT (phT t.next t S))=true then(0,(phT t.next t S).S)
  else phG f (gH (phT t.next t S)) (phT t.next t S).S):=rfl
theorem ph (k:Nat) (t:TkL) (S:DiskL): (phT k t S).t.dir=t.dir∧(phT k t S).t.name=t.name∧(phT k t S).t.data=t.data∧(phT k t S).t.light=t.light∧(phT k t S).t.next=t.next∧(phT k t S).t.ended=t.ended:=by
 unfold phT
 split
 ·unfold qy;split<;>exact⟨rfl,rfl,rfl,rfl,rfl,rfl⟩
 ·exact⟨rfl,rfl,rfl,rfl,rfl,rfl⟩
 ·exact⟨rfl,rfl,rfl,rfl,rfl,rfl⟩
 ·unfold pg;split<;>exact⟨rfl,rfl,rfl,rfl,rfl,rfl⟩
 ·exact⟨rfl,rfl,rfl,rfl,rfl,rfl⟩
 ·unfold Cf;split<;>exact⟨rfl,rfl,rfl,rfl,rfl,rfl⟩
theorem ym (k:Nat) (t:TkL) (S:DiskL): (gH (phT k t S)).dir=t.dir∧(gH (phT k t S)).name=t.name∧(gH (phT k t S)).data=t.data∧(gH (phT k t S)).light=t.light∧(gH (phT k t S)).next=t.next+1:=by
 obtain⟨h1,h2,h3,h4,h5,-⟩:=ph k t S
 exact⟨h1,h2,h3,h4,congrArg (· +1) h5⟩
theorem Ma (r:PhR): (gq r).e=r.e∧(gq r).done=false:=by
 unfold gq
 split<;>exact⟨rfl,rfl⟩
theorem sQ: ∀ (f:Nat) (t:TkL) (S:DiskL),f+t.next=6→0<f→
  ((f4 f t S).e≠0∧phG f t S=((f4 f t S).e,(f4 f t S).S))∨
  ((f4 f t S).e=0∧(f4 f t S).done=true∧phG f t S=(0,(f4 f t S).S))∨
  ((f4 f t S).e=0∧(f4 f t S).done=false∧(f4 f t S).t.ended=false∧t.next< (f4 f t S).t.next∧(f4 f t S).t.next<6∧phG f t S=phG (6 - (f4 f t S).t.next) (f4 f t S).t (f4 f t S).S)
 |0,_,_,_,h=>absurd h (Nat.lt_irrefl 0)
 |f+1,t,S,hf,_=>by
  obtain⟨-,-,-,-,hn,-⟩:=ph t.next t S
  have eu: (gH (phT t.next t S)).next=t.next+1:=(ym t.next t S).2.2.2.2
  have dq: (gH (phT t.next t S)).ended=g7 (nxT (phT t.next t S)):=rfl
  unfold f4
  rw[RQ]
  by_cases he: (phT t.next t S).e≠0
  ·rw[if_pos he,if_pos he]
   exact .inl ⟨by rw[(Ma _).1];exact he,rfl⟩
  ·rw[if_neg he,if_neg he]
   cases mB:g7 (nxT (phT t.next t S)) with
   |true=>
    rw[if_neg (fun h=>by cases h.2),if_pos rfl]
    exact .inr (.inl ⟨rfl,rfl,rfl⟩)
   |false=>
    have aC:t.next+1<6:=by
     have h1: (nxT (phT t.next t S)).next=t.next+1:=congrArg (· +1) hn
     unfold g7 at mB
     rw[h1] at mB
     simp only[Bool.or_eq_false_iff,beq_eq_false_iff_ne] at mB
     have:=mB.1
     omega
    rw[if_neg (show¬ (false=true) by simp)]
    by_cases hd: (phT t.next t S).did=false
    ·rw[if_pos ⟨hd,rfl⟩]
     have ih:=sQ f (gH (phT t.next t S)) (phT t.next t S).S (by rw[eu];omega) (by omega)
     rw[eu] at ih
     rcases ih with h|h| ⟨h1,h2,h3,h4,h5⟩
     ·exact .inl h
     ·exact .inr (.inl h)
     ·exact .inr (.inr ⟨h1,h2,h3,by omega,h5⟩)
    ·rw[if_neg fun h=>hd h.1]
     refine .inr (.inr ⟨rfl,rfl,dq.trans mB,by show t.next< (gH (phT t.next t S)).next;rw[eu];omega,by show(gH (phT t.next t S)).next<6;rw[eu];exact aC, ?_⟩)
     show phG f _ _=phG (6 - (gH (phT t.next t S)).next) _ _
     rw[eu,show 6 - (t.next+1)=f by omega]
theorem zi: ∀ (n f:Nat) (t:TkL) (S:DiskL),6 - t.next≤n→t.next<6→t.ended=false→6 - t.next≤f→((runG f t S).1,(runG f t S).2.2)=phG (6 - t.next) t S
 |0,_,_,_,hn,hl,_,_=>by omega
 |n+1,0,_,_,_,hl,_,hf=>by omega
 |n+1,f+1,t,S,hn,hl,he,hf=>by
  have hs:fH t S=f4 (6 - t.next) t S:=by unfold fH;rw[if_neg (by rw[he];simp)]
  unfold runG
  rw[hs]
  rcases sQ (6 - t.next) t S (by omega) (by omega) with⟨h1,h2⟩ | ⟨h1,h2,h3⟩ | ⟨h1,h2,h3,h4,h5,h6⟩
  ·rw[if_pos (.inr h1),h2]
  ·rw[if_pos (.inl h2),h3,h1]
  ·rw[if_neg (by rw[h1,h2];simp),h6]
   exact zi n f _ _ (by omega) h5 h3 (by omega)
def tk0 (dir name data:List UInt8) (light:Bool):TkL:=⟨dir,name,data,light,0,false,false⟩
def iT (S:DiskL) (dir name data:List UInt8) (light:Bool):Nat×DiskL:=phG 6 (tk0 dir name data light) S
theorem yq (S:DiskL) (dir name data:List UInt8) (light:Bool): ((runG 6 (tk0 dir name data light) S).1,(runG 6 (tk0 dir name data light) S).2.2)=iT S dir name data light:=zi 6 6 (tk0 dir name data light) S (Nat.le_refl 6) (Nat.succ_pos 5) rfl (Nat.le_refl 6)
end Go.Proofs
end
section
open Go Go.Proofs Go.Sx Go.StP
namespace Go.Proofs
set_option maxRecDepth 10000
set_option maxHeartbeats 400000
set_option linter.unusedSimpArgs false
section
variable {S:DiskL} {dir x:List UInt8} {k:Nat}
end
end Go.Proofs
end
section
open Go Go.Proofs Go.Sx Go.StP
namespace Go.Proofs
set_option maxRecDepth 10000
set_option maxHeartbeats 400000
set_option linter.unusedSimpArgs false
theorem Ew {f:Nat} {t t':TkL} {S:DiskL} {r:PhR} (hr:phT t.next t S=r) (he:r.e=0) (hn:g7 (nxT r)=false) (ht:gH r=t'):phG (f+1) t S=phG f t' r.S:=by
 conv=>lhs;unfold phG
 rw[hr,if_neg (by rw[he];simp),if_neg (by rw[hn];simp),ht]
theorem Lh {f:Nat} {t:TkL} {S:DiskL} {r:PhR} (hr:phT t.next t S=r) (he:r.e≠0):phG (f+1) t S=((gq r).e,(gq r).S):=by
 unfold phG
 rw[hr,if_pos he]
theorem QF {f:Nat} {t:TkL} {S:DiskL} {r:PhR} (hr:phT t.next t S=r) (he:r.e=0) (hn:g7 (nxT r)=true):phG (f+1) t S=(0,r.S):=by
 unfold phG
 rw[hr,if_neg (by rw[he];simp),if_pos hn]
def tkN (dir nm data:List UInt8) (light:Bool) (n:Nat) (made:Bool):TkL:=⟨dir,nm,data,light,n,made,false⟩
end Go.Proofs
end
section
open Go Go.Proofs Go.Sx Go.StP
namespace Go.Proofs
set_option maxRecDepth 10000
set_option maxHeartbeats 400000
set_option linter.unusedSimpArgs false
theorem sY {S:DiskL} (ok:DkOk S) {k:Nat} (hk:k<3) {c:CallL} (eX:okC (S.dir k).seen c) (hc:c.kind=0→c.n<S.files.length):DkOk (lH S k c):=
 va ok _ (Ez c (ok.seen k hk)) (ok.stl k hk) (CJ (ok.seenN k hk) eX hc) (ok.stlN k hk) (fun d hd=>by
  rcases List.mem_append.1 hd with hd|hd
  ·exact ok.pendN k hk d hd
  ·rw[List.mem_singleton.1 hd];exact hc)
theorem Ph {S S':DiskL} {kind:Int} {dir name s:List UInt8} {e:Nat} (ok:DkOk S) (h:StepD S kind dir name s S' e):DkOk S':=by
 obtain⟨bE,bG,-⟩:=la S
 have okb:=oF ok
 cases h with
 |same=>exact ok
 |burn=>exact okb
 |create k hk hf hn hb=>
  refine sY (yI okb ⟨Nat.zero_le _,Nat.le_refl _⟩) (g5 hk).1 (fun e=>by cases e) fun _=> ?_
  show S.files.length< ((aG S).1.files++ [dC]).length
  rw[bG,List.length_append];exact Nat.lt_succ_self _
 |append k m hk hm hf hb=>
  have vM:=ok.seenN k (g5 hk).1 _ (mu hm)
  obtain⟨h1,h2⟩:=qj ok (n:=m) vM
  refine vv okb ⟨?_, ?_⟩
  ·rw[List.length_append]
   unfold jS at hf
   simp only[Bool.or_eq_false_iff,decide_eq_false_iff_not] at hf
   have:=hf.1.1
   show(aR S m).data.length+s.length≤1048576
   omega
  ·rw[List.length_append]
   show(aR S m).stl≤ (aR S m).data.length+s.length
   omega
 |sync k m hk hm hb=>
  have vM:=ok.seenN k (g5 hk).1 _ (mu hm)
  obtain⟨h1,h2⟩:=qj ok (n:=m) vM
  exact vv okb ⟨h1,Nat.le_refl _⟩
 |syncDir k hk hb=>
  have aa:=(g5 hk).1
  exact va okb _ (okb.seen k aa) (okb.seen k aa) (okb.seenN k aa) (okb.seenN k aa) fun c hc=>by cases hc
 |rename k m h4 hk hm hf ad hb=>
  exact sY okb (g5 hk).1 (by rw[bE];exact zJ hm ad) fun e=>by cases e
 |remove k m hk hm hb=>exact sY okb (g5 hk).1 (fun e=>by cases e) fun e=>by cases e
structure DsA (S:DiskL) (N:Nat):Prop where
 ok:DkOk S
 B:DkN N S
 fl:S.files.length≤N
theorem DsA.step {S S':DiskL} {N:Nat} {kind:Int} {dir name s:List UInt8} {e:Nat} (h:DsA S N) (bQ:StepD S kind dir name s S' e) (hn:name.length≤1000000) (hs:s.length≤1000000):DsA S' (N+1):=
 ⟨Ph h.ok bQ,xa h.B hn hs bQ,Nat.le_trans (Mf bQ) (Nat.succ_le_succ h.fl)⟩
theorem DsA.mono {S:DiskL} {N M:Nat} (h:DsA S N) (hm:N≤M):DsA S M:=⟨h.ok,h.B.mono hm,Nat.le_trans h.fl hm⟩
theorem DsA.do {S:DiskL} {N:Nat} (h:DsA S N) (_hN:N<900000) (kind:Int) (dir name s:List UInt8) (hn:name.length≤1000000) (hs:s.length≤1000000):DsA (doV S kind dir name s).1 (N+1):=h.step (QE S kind dir name s) hn hs
theorem qp (X:aA) (G:DcG) (S:DiskL) (N:Nat) (kind:Int) (dir name s:List UInt8) (w:World) (hX: ∀p,p∈X→w.heap[p.1]? =some p.2) (hn: (keys X).Nodup) (hP:DcP X G S) (hA:DsA S N) (hN:N<900000) (hK:0≤kind∧kind<6) (eF:name.length≤1000000) (cT:s.length≤1000000):
  Rets Tryz.prog 32 #[vp G.bd 0,vi kind,vs dir,vs name,vs s] w (XS w X (DoS G (doV S kind dir name s))):=
 MS X G S kind dir name s w hX hn hP hA.ok (hA.B.b (by omega)) hK (by omega) (by omega) (fun k _=>by have:=(hA.B k).stl;omega) (by have:=hA.fl;omega) (by have:=y5 hA.ok hA.B;omega)
def be (light:Bool):List Nat:=if light=true then [1,2,3,5] else [1,2,3,4,5,6]
def ae (s:Nat) (dir nm data:List UInt8) (S:DiskL):DiskL×Nat:=
 if s=1 then dp S dir (az nm) else if s=2 then mU S dir (az nm) else if s=3 then oI S dir (az nm) data else if s=4 then nC S dir (az nm) else if s=5 then mV S dir (az nm) nm else fC S dir
def fc (s:Nat) (made:Bool) (e:Nat):Bool:=if s=2 then e==0 else if s=5 then made&&e !=0 else made
structure DsR where
 done:Bool
 e:Nat
 k:Nat
 made:Bool
 S:DiskL
def atK (k:Nat) (dir nm:List UInt8) (S:DiskL):Nat:=if k=0∧(gG S dir (az nm)).2≠0 then 1 else k
def eC (light:Bool) (k:Nat) (made:Bool) (dir nm data:List UInt8) (S:DiskL):DsR:=
 let k1:=atK k dir nm S
 let s:=(be light).getD k1 0
 let r:=ae s dir nm data S
 let m:=fc s made r.2
 if r.2≠0 then⟨false,r.2,k1+1,m,if m=true∧r.2≠9 then(dp r.1 dir (az nm)).1 else r.1⟩ else⟨k1+1==(be light).length,0,k1+1,m,r.1⟩
def eK:Nat→Bool→Nat→Bool→List UInt8→List UInt8→List UInt8→DiskL→Nat×DiskL
 |0,_,_,_,_,_,_,S=>(0,S)
 |f+1,light,k,made,dir,nm,data,S=>if(eC light k made dir nm data S).done=true∨(eC light k made dir nm data S).e≠0 then((eC light k made dir nm data S).e,(eC light k made dir nm data S).S) else eK f light (eC light k made dir nm data S).k (eC light k made dir nm data S).made dir nm data (eC light k made dir nm data S).S
theorem sE (f:Nat) (light:Bool) (k:Nat) (made:Bool) (dir nm data:List UInt8) (S:DiskL):eK (f+1) light k made dir nm data S=(if(eC light k made dir nm data S).done=true∨(eC light k made dir nm data S).e≠0 then((eC light k made dir nm data S).e,(eC light k made dir nm data S).S) else eK f light (eC light k made dir nm data S).k (eC light k made dir nm data S).made dir nm data (eC light k made dir nm data S).S):=rfl
section
variable {dir nm data:List UInt8}
theorem pF {p s:Nat} {light made:Bool} (f:Nat) (S:DiskL) (BK:phT p (tkN dir nm data light p made) S=⟨true,(ae s dir nm data S).2,tkN dir nm data light p (fc s made (ae s dir nm data S).2),(ae s dir nm data S).1⟩):
  phG (f+1) (tkN dir nm data light p made) S=if(ae s dir nm data S).2≠0 then((ae s dir nm data S).2,if fc s made (ae s dir nm data S).2=true∧(ae s dir nm data S).2≠9 then(dp (ae s dir nm data S).1 dir (az nm)).1 else(ae s dir nm data S).1) else if g7 (tkN dir nm data light (p+1) made)=true then(0,(ae s dir nm data S).1) else phG f (tkN dir nm data light (p+1) (fc s made (ae s dir nm data S).2)) (ae s dir nm data S).1:=by
 by_cases he: (ae s dir nm data S).2≠0
 ·rw[Lh BK he,if_pos he]
  by_cases hm:fc s made (ae s dir nm data S).2=true∧(ae s dir nm data S).2≠9
  ·rw[if_pos hm]
   have h2:=congrArg (fun r:StR=>(r.e,r.S)) (show gq ⟨true,(ae s dir nm data S).2,tkN dir nm data light p (fc s made (ae s dir nm data S).2),(ae s dir nm data S).1⟩=_ from if_pos hm)
   exact h2
  ·rw[if_neg hm]
   have h2:=congrArg (fun r:StR=>(r.e,r.S)) (show gq ⟨true,(ae s dir nm data S).2,tkN dir nm data light p (fc s made (ae s dir nm data S).2),(ae s dir nm data S).1⟩=_ from if_neg hm)
   exact h2
 ·rw[if_neg he]
  by_cases hn:g7 (tkN dir nm data light (p+1) made)=true
  ·rw[QF BK (by simpa using he) (by exact hn),if_pos hn]
  ·have aN:g7 (tkN dir nm data light (p+1) made)=false:=by simpa using hn
   rw[Ew (t':=tkN dir nm data light (p+1) (fc s made (ae s dir nm data S).2)) BK (by simpa using he) (by exact aN) ?_,if_neg hn]
   show TkL.mk _ _ _ _ _ _ (g7 (tkN dir nm data light (p+1) made))=_
   rw[aN];rfl
theorem rv (f:Nat) (light:Bool) {k:Nat} (hk:k≠0) (made:Bool) (S:DiskL) {s:Nat} (hs: (be light).getD k 0=s):
  eK (f+1) light k made dir nm data S=if(ae s dir nm data S).2≠0 then((ae s dir nm data S).2,if fc s made (ae s dir nm data S).2=true∧(ae s dir nm data S).2≠9 then(dp (ae s dir nm data S).1 dir (az nm)).1 else(ae s dir nm data S).1) else if(k+1==(be light).length)=true then(0,(ae s dir nm data S).1) else eK f light (k+1) (fc s made (ae s dir nm data S).2) dir nm data (ae s dir nm data S).1:=by
 have ha:atK k dir nm S=k:=by unfold atK;rw[if_neg (fun h=>hk h.1)]
 by_cases he: (ae s dir nm data S).2≠0
 ·have bQ:eC light k made dir nm data S=⟨false,(ae s dir nm data S).2,k+1,fc s made (ae s dir nm data S).2,if fc s made (ae s dir nm data S).2=true∧(ae s dir nm data S).2≠9 then(dp (ae s dir nm data S).1 dir (az nm)).1 else(ae s dir nm data S).1⟩:=by
   unfold eC
   simp only
   rw[ha,hs,if_pos he]
  rw[sE,bQ,if_pos (.inr he),if_pos he]
 ·have bQ:eC light k made dir nm data S=⟨k+1==(be light).length,0,k+1,fc s made (ae s dir nm data S).2,(ae s dir nm data S).1⟩:=by
   unfold eC
   simp only
   rw[ha,hs,if_neg he]
  rw[sE,bQ,if_neg he]
  by_cases hd: (k+1==(be light).length)=true
  ·rw[if_pos (.inl hd),if_pos hd]
  ·rw[if_neg (fun h=>by rcases h with h|h;exact hd h;exact h rfl),if_neg hd]
theorem MB (f:Nat) (light made:Bool) (S:DiskL) (h: (gG S dir (az nm)).2≠0):eK (f+1) light 0 made dir nm data S=eK (f+1) light 1 made dir nm data S:=by
 have h0:atK 0 dir nm S=1:=by unfold atK;rw[if_pos ⟨rfl,h⟩]
 have h1:atK 1 dir nm S=1:=by unfold atK;rw[if_neg (fun h=>by cases h.1)]
 have:eC light 0 made dir nm data S=eC light 1 made dir nm data S:=by unfold eC;simp only;rw[h0,h1]
 rw[sE,sE,this]
theorem Iq (f:Nat) (light made:Bool) (S:DiskL) (h: (gG S dir (az nm)).2=0):
  eK (f+1) light 0 made dir nm data S=if(ae 1 dir nm data S).2≠0 then((ae 1 dir nm data S).2,if fc 1 made (ae 1 dir nm data S).2=true∧(ae 1 dir nm data S).2≠9 then(dp (ae 1 dir nm data S).1 dir (az nm)).1 else(ae 1 dir nm data S).1) else eK f light 1 (fc 1 made (ae 1 dir nm data S).2) dir nm data (ae 1 dir nm data S).1:=by
 have ha:atK 0 dir nm S=0:=by unfold atK;rw[if_neg (fun h'=>h'.2 h)]
 have hs: (be light).getD 0 0=1:=by cases light<;>rfl
 have hl: (0+1==(be light).length)=false:=by cases light<;>rfl
 by_cases he: (ae 1 dir nm data S).2≠0
 ·have bQ:eC light 0 made dir nm data S=⟨false,(ae 1 dir nm data S).2,0+1,fc 1 made (ae 1 dir nm data S).2,if fc 1 made (ae 1 dir nm data S).2=true∧(ae 1 dir nm data S).2≠9 then(dp (ae 1 dir nm data S).1 dir (az nm)).1 else(ae 1 dir nm data S).1⟩:=by
   unfold eC
   simp only
   rw[ha,hs,if_pos he]
  rw[sE,bQ,if_pos (.inr he),if_pos he]
 ·have bQ:eC light 0 made dir nm data S=⟨0+1==(be light).length,0,0+1,fc 1 made (ae 1 dir nm data S).2,(ae 1 dir nm data S).1⟩:=by
   unfold eC
   simp only
   rw[ha,hs,if_neg he]
  rw[sE,bQ,if_neg he,if_neg (fun h=>by rcases h with h|h;rw[hl] at h;cases h;exact h rfl)]
theorem RR (f:Nat) (made:Bool) (S:DiskL):eK (f+1) false 5 made dir nm data S=phG 1 (tkN dir nm data false 5 made) S:=by
 rw[rv f false (by decide) made S (s:=6) rfl,pF (s:=6) 0 S rfl]
 rfl
theorem PX (f:Nat) (made:Bool) (S:DiskL):eK (f+2) false 4 made dir nm data S=phG 2 (tkN dir nm data false 4 made) S:=by
 rw[rv (f+1) false (by decide) made S (s:=5) rfl,pF (s:=5) 1 S rfl,RR]
 rfl
theorem PY (f:Nat) (made:Bool) (S:DiskL):eK (f+3) false 3 made dir nm data S=phG 3 (tkN dir nm data false 3 made) S:=by
 rw[rv (f+2) false (by decide) made S (s:=4) rfl,pF (s:=4) 2 S rfl,PX]
 rfl
theorem RS (f:Nat) (made:Bool) (S:DiskL):eK (f+4) false 2 made dir nm data S=phG 4 (tkN dir nm data false 2 made) S:=by
 rw[rv (f+3) false (by decide) made S (s:=3) rfl,pF (s:=3) 3 S rfl,PY]
 rfl
theorem RZ (f:Nat) (made:Bool) (S:DiskL):eK (f+5) false 1 made dir nm data S=phG 5 (tkN dir nm data false 1 made) S:=by
 rw[rv (f+4) false (by decide) made S (s:=2) rfl,pF (s:=2) 4 S rfl,RS]
 rfl
theorem Qr (f:Nat) (made:Bool) (S:DiskL):eK (f+1) true 3 made dir nm data S=phG 3 (tkN dir nm data true 3 made) S:=by
 rw[Ew (t':=tkN dir nm data true 4 made) (r:=⟨false,0,tkN dir nm data true 3 made,S⟩) rfl rfl rfl rfl]
 show _=phG 2 (tkN dir nm data true 4 made) S
 rw[rv f true (by decide) made S (s:=5) rfl,pF (s:=5) 1 S rfl]
 rfl
theorem QW (f:Nat) (made:Bool) (S:DiskL):eK (f+2) true 2 made dir nm data S=phG 4 (tkN dir nm data true 2 made) S:=by
 rw[rv (f+1) true (by decide) made S (s:=3) rfl,pF (s:=3) 3 S rfl,Qr]
 rfl
theorem R4 (f:Nat) (made:Bool) (S:DiskL):eK (f+3) true 1 made dir nm data S=phG 5 (tkN dir nm data true 1 made) S:=by
 rw[rv (f+2) true (by decide) made S (s:=2) rfl,pF (s:=2) 4 S rfl,QW]
 rfl
theorem A0 (f:Nat) (light made:Bool) (S:DiskL):eK (f+5) light 1 made dir nm data S=phG 5 (tkN dir nm data light 1 made) S:=by
 cases light with
 |true=>exact R4 (f+2) made S
 |false=>exact RZ f made S
theorem xg (light:Bool) (S:DiskL):eK 10 light 0 false dir nm data S=iT S dir nm data light:=by
 unfold iT
 by_cases h: (gG S dir (az nm)).2≠0
 ·rw[show eK 10 light 0 false dir nm data S=eK (9+1) light 0 false dir nm data S from rfl,MB 9 light false S h,show eK (9+1) light 1 false dir nm data S=eK (5+5) light 1 false dir nm data S from rfl,A0]
  exact(show phG 6 (tk0 dir nm data light) S=phG 5 (tkN dir nm data light 1 false) S from Ew (r:=⟨false,0,tk0 dir nm data light,S⟩) (by show qy _ _=_;unfold qy;exact if_pos h) rfl (by cases light<;>rfl) (by cases light<;>rfl)).symm
 ·have h0: (gG S dir (az nm)).2=0:=by simpa using h
  rw[show eK 10 light 0 false dir nm data S=eK (9+1) light 0 false dir nm data S from rfl,Iq 9 light false S h0]
  have BK:phT 0 (tkN dir nm data light 0 false) S=⟨true,(ae 1 dir nm data S).2,tkN dir nm data light 0 (fc 1 false (ae 1 dir nm data S).2),(ae 1 dir nm data S).1⟩:=by
   show qy _ _=_
   unfold qy
   rw[if_neg (by exact h)];rfl
  rw[show phG 6 (tk0 dir nm data light) S=phG (5+1) (tkN dir nm data light 0 false) S from rfl,pF (s:=1) 5 S BK]
  have he:g7 (tkN dir nm data light (0+1) false)=false:=by cases light<;>rfl
  by_cases hr: (ae 1 dir nm data S).2≠0
  ·rw[if_pos hr,if_pos hr]
  ·rw[if_neg hr,if_neg hr,if_neg (by rw[he];simp),show eK 9 light 1 (fc 1 false (ae 1 dir nm data S).2) dir nm data (ae 1 dir nm data S).1=eK (4+5) light 1 (fc 1 false (ae 1 dir nm data S).2) dir nm data (ae 1 dir nm data S).1 from rfl,A0]
end
end Go.Proofs
end
namespace Go.Sx
open Go
theorem Ext.perm {w:World} {X D D':aA} (h:Ext w X D) (hp:D'.Perm D):Ext w X D':=
 ⟨fun c hc=>h.new c ((hp.map Prod.fst).mem_iff.1 hc),fun c hc=>(hp.map Prod.fst).mem_iff.2 (h.all c hc)⟩
section
variable {P:Program} {w0:World} {f:Fr} {L:aA} {N:Fr→aA→Prop} {ops:Array Oper} {rest:List Oper} {md:Md} {d:Option Tmp} {ty:TypeId} {ps:String} {af:Array Edge} {g:Option (Nat×Bool)}
theorem Ow.callFnX2 {x y y2:Operand} {b b2:Value} {ts:Array TypeId} {k:FuncId} {X Y:aA} {S:Value→aA→Prop} {md':Md} (hL:L=X++Y) (he:md.turn=some md')
  (hs:bM ops f ⟨d, .call ⟨.value x, #[y,y2],ts⟩,ty,ps,af,g⟩=false)
  (hx:ev f x= .func (.func k) #[] #[]) (hy:ev f y=b) (vV:ev f y2=b2)
  (hk: ∀a w,(callFunc k a).run P w= .ok (.enter k a) w)
  (hc: ∀w,Hp w0 L w→(∀p,p∈X→w.heap[p.1]? =some p.2)→(keys X).Nodup→Rets P k #[b,b2] w (XS w X S))
  (hn: ∀v D,Came w0 L X D→S v D→Ow P w0 ops md' rest (aW f d v) (D++Y) N):
  Ow P w0 ops md (⟨d, .call ⟨.value x, #[y,y2],ts⟩,ty,ps,af,g⟩::rest) f L N:=by
 subst hL
 have av: ∀w,Hp w0 (X++Y) w→(keys X).Nodup∧ ∀c,c∈keys Y→c∉keys X:=by
  intro w hw
  have:=hw.nodup
  rw[bO,List.nodup_append] at this
  exact⟨this.1,fun c hc hx=>this.2.2 c hx c hc rfl⟩
 refine Ow.call (S:=fun B v D=>((∀c,c∈keys D→c∈keys X∨B≤c)∧(∀c,c∈keys X→c∈keys D)∧S v D)∧ ∃w,Hp w0 (X++Y) w∧w.heap.size=B) he hs hx hk (fun w hw=> ?_) ?_
 ·show Rets P k (#[]++ #[y,y2].map (ev f)++ #[]) w _
  rw[show(#[]++ #[y,y2].map (ev f)++ #[]:Array Value)= #[b,b2] by simp[hy,vV]]
  refine Calls.mono (hc w hw (fun p hp=>hw.has _ _ (List.mem_append_left _ hp)) (av w hw).1) ?_
  rintro e w' ⟨v,D,he,hp,hS⟩
  exact⟨v,D,he,hp,⟨hS.1.new,hS.1.all,hS.2⟩,w,hw,rfl⟩
 ·rintro B v D jF hB ⟨⟨h1,h2,h3⟩,w1,aJ,XB⟩
  refine⟨D++Y, ?_,hn v D ⟨fun c hc=>(h1 c hc).imp id fun h=>⟨gi fun b hb=>by have:=aJ.lt hb;omega,by have:=aJ.size;omega⟩,h2⟩ h3⟩
  intro w w' XC h k
  have ht:=h.trans k
  have hY: ∀c,c∈keys Y→c∉keys D:=by
   intro c hc hd
   rcases h1 c hd with hx|hx
   ·exact(av w h).2 c hc hx
   ·have:=h.lt (b:=c) (by rw[bO];exact List.mem_append_right _ hc)
    omega
  have e1:X.filter (fun p=> !(keys D).contains p.1)= []:=by
   rw[List.filter_eq_nil_iff]
   intro p hp
   have:=h2 p.1 (List.mem_map.2 ⟨p,hp,rfl⟩)
   simpa using this
  have e2:Y.filter (fun p=> !(keys D).contains p.1)=Y:=Bc hY
  rw[List.filter_append,e1,e2,List.nil_append] at ht
  refine ht.same (fun p=>by simp[or_comm]) ?_
  have:=ht.nodup
  rw[bO] at this ⊢
  exact(List.perm_append_comm.nodup_iff).1 this
end
end Go.Sx
section
open Go Go.Proofs Go.Sx Go.StP
namespace Go.Proofs
set_option maxRecDepth 10000
set_option maxHeartbeats 1000000
set_option linter.unusedSimpArgs false
def dtO (dir nm data:List UInt8) (v:Value) (made:Bool):Obj:= .cells #[vs dir,vs nm,vs data,v, .bool made] 198 (0,0)
def spO (light:Bool):Obj:= .cells ((be light).map fun n:Nat=>vi (n:Int)).toArray 3 (0,0)
def spV (light:Bool) (k bs:Nat):Value:=vsl bs (if(be light).length≤k then(be light).length - 1 else k) ((be light).length - k) ((be light).length - k)
section
variable {dir nm data:List UInt8} {v:Value} {made:Bool}
theorem xj (n:Nat):aF (some (false,n)) (some (dtO dir nm data v made)) 0=some (vs dir):=(rfl)
theorem xX (n:Nat):aF (some (false,n)) (some (dtO dir nm data v made)) 1=some (vs nm):=(rfl)
theorem y7 (n:Nat):aF (some (false,n)) (some (dtO dir nm data v made)) 2=some (vs data):=(rfl)
theorem y6 (n:Nat):aF (some (false,n)) (some (dtO dir nm data v made)) 3=some v:=(rfl)
theorem xW (n:Nat):aF (some (false,n)) (some (dtO dir nm data v made)) 4=some (.bool made):=(rfl)
theorem Bq (a:Bool) {q:Value} (hq:Value.oneCell' q=true∧q.cells= #[q]):ac (some (a,1)) (some (dtO dir nm data v made)) 3 q=some (dtO dir nm data q made):=d9 [vs dir,vs nm,vs data] [v] [q] [.bool made] a _ 198 rfl rfl hq.2 rfl (by simp[hq.1])
theorem DE (a b:Bool):ac (some (a,1)) (some (dtO dir nm data v made)) 4 (.bool b)=some (dtO dir nm data v b):=d9 [vs dir,vs nm,vs data,v] [.bool made] [.bool b] [] a _ 198 rfl rfl rfl rfl rfl
end
theorem RU (light:Bool) (k bs:Nat) (m:Bool×Nat):fe (.sl m) (spV light k bs)=some (vi (((be light).length - k:Nat):Int)):=(rfl)
theorem zd {light:Bool} {k:Nat} (bs:Nat) (hk:k< (be light).length) (a:Bool):jX (.sl (a,1)) (spV light k bs) (some 0)=some (vp bs k):=by
 have h:=ox (a,1) bs k ((be light).length - k) ((be light).length - k) 0 (by omega)
 unfold spV
 rw[if_neg (by omega)]
 simpa using h
theorem FD (light:Bool): (be light).length≤6:=by cases light<;>decide
theorem yh {light:Bool} {k:Nat} (hk:k< (be light).length) (n:Nat):aF (some (false,n)) (some (spO light)) k=some (vi (((be light).getD k 0:Nat):Int)):=by
 have h6:=FD light
 have mE:k=0∨k=1∨k=2∨k=3∨k=4∨k=5:=by omega
 cases light with
 |true=>rcases mE with rfl|rfl|rfl|rfl|rfl|rfl<;>first|rfl|exact absurd hk (by decide)
 |false=>rcases mE with rfl|rfl|rfl|rfl|rfl|rfl<;>rfl
theorem xh {light:Bool} {k:Nat} (bs:Nat) (hk:k< (be light).length) (a:Bool):ft (.sl (a,1)) (spV light k bs) (some (some 1)) none=some (spV light (k+1) bs):=by
 have hb: (0:Int)≤ ((1:Nat):Int)∧((1:Nat):Int)≤ (((be light).length - k:Nat):Int):=⟨by omega,by omega⟩
 unfold spV
 rw[if_neg (by omega)]
 show ft (.sl (a,1)) (vsl bs k ((be light).length - k) ((be light).length - k)) (some (some ((1:Nat):Int))) none=_
 unfold ft vsl
 simp only[tC _ _ _ hb,Int.toNat_natCast]
 by_cases h: (be light).length - k=1
 ·rw[if_pos h,if_pos (by omega)]
  simp only[h,Nat.sub_self]
  rw[show(be light).length - 1=k by omega,show(be light).length - (k+1)=0 by omega]<;>rfl
 ·rw[if_neg h,if_neg (by omega)]
  simp only[lb,Option.map_some]
  rw[show(be light).length - (k+1)=(be light).length - k - 1 by omega]<;>rfl
theorem wL {light:Bool} {k:Nat} (hk:k< (be light).length): ((((be light).getD k 0:Nat):Int)==1)=decide (k=0):=by
 have h6:=FD light
 have mE:k=0∨k=1∨k=2∨k=3∨k=4∨k=5:=by omega
 cases light with
 |true=>rcases mE with rfl|rfl|rfl|rfl|rfl|rfl<;>first|rfl|exact absurd hk (by decide)
 |false=>rcases mE with rfl|rfl|rfl|rfl|rfl|rfl<;>rfl
theorem sa (light:Bool) (k bs:Nat):Value.oneCell' (spV light k bs)=true∧(spV light k bs).cells= #[spV light k bs]:=⟨rfl,rfl⟩
theorem yC (dir nm data:List UInt8) (bs n c:Nat):fU (cX Tryz.prog 198) (al Tryz.prog 198) [(0,vs dir),(1,vs nm),(2,vs data),(3,vsl bs 0 n c)]=some (.agg #[vs dir,vs nm,vs data,vsl bs 0 n c, .bool false]):=by
 rw[show cX Tryz.prog 198=some [(0,1),(1,1),(2,1),(3,1),(4,1)] from id (by kernel_rfl),Tryz.zr198]
 rfl
set_option linter.defProp false
def kY:=And.intro (And.intro (And.intro (@ay) (@ax)) (And.intro (@Sx.tup2_0) (And.intro (@Sx.tup2_1) (@xj)))) (And.intro (And.intro (@xX) (@y7)) (And.intro (@y6) (And.intro (@xW) (@DE))))
theorem JA (C:DcG) (S:DiskL) (N bt:Nat) (dir nm data:List UInt8) (v:Value) (made:Bool) (w:World) (hC:DcW w C S) (hA:DsA S N) (hN:N<900000) (hb:w.heap[bt]? =some (dtO dir nm data v made)) (eF:nm.length≤900000):
  Rets Tryz.prog 168 #[vp C.bd 0,vp bt 0] w (fun r D=>r= .bool ((gG S dir (az nm)).2==0)∧D= []):=by
 have od: (az nm).length≤900004:=by unfold az;rw[List.length_append];simp;omega
 have hi: ∀e:Nat,((e:Int)==0)=(e==0):=fun e=>by cases e<;>rfl
 refine Rets.enterV Tryz.func168 rfl (rs:= [.tmp 4]) Tryz.results168 Tryz.ntmps168 ?_
 refine kf ?_
 first|with_reducible refine ks [1] @kY ?_|refine kp @kY ?_
 refine Cw.regionS [bt] [0,1,2,3,5,6,7,4,8,9,10,11,12,13,14,15] [] (by kernel_rfl) (by kernel_rfl) (by kernel_rfl) ?_
 simp only[ar, ↓ap, ↓ag, ↓an, ↓am,ah]
 refine kq (And.intro @kY @hb) ?_
 refine Ow.soft rfl rfl rfl ?_
 refine Ow.callFV rfl Tryz.call33 (fun w' aB=>Jv w' C S dir (az nm) (hC.old aB trivial) hA.ok (hA.B.b (by omega)) (by omega)) ?_
 with_reducible refine Ow.nil ?_
 refine⟨by intro b hb;simp only[List.mem_cons,List.not_mem_nil,or_false] at hb;(try subst hb);rfl, ?_⟩
 refine kq @kY ?_
 have oV:=hi (gG S dir (az nm)).2
 first|with_reducible refine ks [] (And.intro @kY @oV) ?_|refine kp (And.intro @kY @oV) ?_
 refine⟨_,(ke @kY),trivial, ?_⟩
 rfl
end Go.Proofs
end
section
open Go Go.Proofs Go.Sx Go.StP
namespace Go.Proofs
set_option maxRecDepth 10000
set_option maxHeartbeats 1000000
set_option linter.unusedSimpArgs false
theorem Lj {light:Bool} {k:Nat} (hk:k< (be light).length):1≤ (be light).getD k 0∧(be light).getD k 0≤6:=by
 have h6:=FD light
 have mE:k=0∨k=1∨k=2∨k=3∨k=4∨k=5:=by omega
 cases light with
 |true=>rcases mE with rfl|rfl|rfl|rfl|rfl|rfl<;>first|decide|exact absurd hk (by decide)
 |false=>rcases mE with rfl|rfl|rfl|rfl|rfl|rfl<;>decide
def StC (C:DcG) (bt bs:Nat) (light:Bool) (dir nm data:List UInt8) (N:Nat) (R:DsR) (v:Value) (D:aA):Prop:=
 v= .tuple #[.bool R.done,vi (R.e:Nat)]∧ ∃X' C' q,(X'++ [(bt,dtO dir nm data q R.made),(bs,spO light)]).Perm D∧C'.bd=C.bd∧DcP X' C' R.S∧DsA R.S N∧(R.done=false→R.e=0→q=spV light R.k bs)
theorem zp {X:aA} {bt bs:Nat} {O1 O2:Obj} (h1:bt∉keys X) (h2:bs∉keys X) (h3:bt≠bs) (w:World):aM w (X++ [(bt,O1),(bs,O2)]) bt=some O1∧aM w (X++ [(bt,O1),(bs,O2)]) bs=some O2:=
 ⟨aL (by rw[iB h1];simp[Sx.look]),aL (by rw[iB h2];simp[Sx.look,h3])⟩
theorem xp {X:aA} {bt bs:Nat} {O1 O2:Obj} (h1:bt∉keys X):Sx.look (X++ [(bt,O1),(bs,O2)]) bt=some O1:=by
 rw[iB h1];simp[Sx.look]
theorem zb {X:aA} {bt bs:Nat} {O O1 O2:Obj} (h1:bt∉keys X):setB (X++ [(bt,O1),(bs,O2)]) bt O=X++ [(bt,O),(bs,O2)]:=by
 induction X with
 |nil=>simp[setB]
 |cons p X ih=>
  obtain⟨c,o⟩:=p
  simp only[keys,List.map_cons,List.mem_cons,not_or] at h1
  rw[List.cons_append,setB,if_neg (fun h=>h1.1 h.symm),ih h1.2,List.cons_append]
section
variable {S:DiskL} {dir nm data:List UInt8}
theorem P2:doV S 5 dir (az nm) []=ae 1 dir nm data S:=(rfl)
theorem O7:doV S 0 dir (az nm) []=ae 2 dir nm data S:=(rfl)
theorem P9:doV S 1 dir (az nm) data=ae 3 dir nm data S:=(rfl)
theorem PS:doV S 2 dir (az nm) []=ae 4 dir nm data S:=(rfl)
theorem Oo:doV S 4 dir (az nm) nm=ae 5 dir nm data S:=(rfl)
theorem OX:doV S 3 dir [] []=ae 6 dir nm data S:=(rfl)
theorem zN {made:Bool} {e:Nat}:fc 5 made e=(made&&e !=0):=(rfl)
end
structure SbG where
 C:DcG
 X:aA
set_option linter.defProp false
def bI:=And.intro (And.intro (And.intro (@ay) (@ax)) (And.intro (@Sx.tup2_0) (And.intro (@Sx.tup2_1) (@xj)))) (And.intro (And.intro (@xX) (And.intro (@y7) (@y6))) (And.intro (@xW) (And.intro (@DE) (@RU))))
theorem Fx (X:aA) (C:DcG) (S:DiskL) (N bt bs k:Nat) (light made:Bool) (dir nm data:List UInt8) (w:World) (hX: ∀p,p∈X++ [(bt,dtO dir nm data (spV light k bs) made),(bs,spO light)]→w.heap[p.1]? =some p.2) (hn: (keys (X++ [(bt,dtO dir nm data (spV light k bs) made),(bs,spO light)])).Nodup) (hP:DcP X C S) (hA:DsA S N) (hN:N<800000) (hk:k< (be light).length) (fR:k=0→1< (be light).length) (eF:nm.length≤900000) (lS:data.length≤1000000):
  Rets Tryz.prog 130 #[vp bt 0,vp C.bd 0] w (XS w (X++ [(bt,dtO dir nm data (spV light k bs) made),(bs,spO light)]) (StC C bt bs light dir nm data (N+2) (eC light k made dir nm data S))):=by
 obtain⟨R,hR⟩: ∃R,eC light k made dir nm data S=R:=⟨_,rfl⟩
 rw[hR]
 refine Rets.enterX Tryz.func130 rfl (rs:= [.tmp 4, .tmp 5]) Tryz.results130 Tryz.ntmps130 hX hn ?_
 refine kf ?_
 have k7:Ext w (X++ [(bt,dtO dir nm data (spV light k bs) made),(bs,spO light)]) ((bt,dtO dir nm data (spV light k bs) made):: (bs,spO light)::X):=(Ext.refl w (X++ [(bt,dtO dir nm data (spV light k bs) made),(bs,spO light)])).perm (by classical exact List.perm_iff_count.2 fun a=>by simp only[List.count_append,List.count_cons,List.count_nil]<;>omega)
 have av: (keys X).Nodup∧bt∉keys X∧bs∉keys X∧bt≠bs:=by
  have h:=hn
  rw[bO] at h
  obtain⟨h1,h2,h3⟩:=List.nodup_append.1 h
  simp only[keys,List.map_cons,List.map_nil,List.mem_cons,List.not_mem_nil,or_false] at h2 h3
  refine⟨h1,fun hm=>h3 _ hm bt (.inl rfl) rfl,fun hm=>h3 _ hm bs (.inr rfl) rfl, ?_⟩
  simpa using h2
 obtain⟨bW,mA,iZ,ad⟩:=av
 have rN: ((((be light).length - k:Nat):Int)==0)=false:=by rw[beq_eq_false_iff_ne];omega
 refine Cw.permL (M:=(bt,dtO dir nm data (spV light k bs) made):: (bs,spO light)::X) (by classical exact List.perm_iff_count.2 fun a=>by simp only[List.count_append,List.count_cons,List.count_nil]<;>omega) ?_
 have rds: ∀o w,aM w ((bt,o):: (bs,spO light)::X) bs=some (spO light):=fun o w=>aL (by simp[Sx.look,ad])
 have ix:=fun a=>zd (light:=light) bs hk a
 have ld:=fun n=>yh (light:=light) hk n
 have sl:=fun a=>xh (light:=light) bs hk a
 first|with_reducible refine ks [1000003] (And.intro @bI @rN) ?_|refine kp (And.intro @bI @rN) ?_
 refine Cw.cutO (G:=Unit) [14,15,16,17,18,19,20,21,22,23,24,25,26,27,28,29,30,31,32,33,34] (fun g=> []) (fun g=>(bt,dtO dir nm data (spV light (atK k dir nm S) bs) made):: (bs,spO light)::X) (fun g=>True) ?_ ?_
 ·by_cases jg:k=0
  ·subst jg
   have s1: ((((be light).getD 0 0:Nat):Int)==1)=true:=by rw[wL hk];rfl
   first|with_reducible refine ks [4] (And.intro @bI (And.intro @rds (And.intro @ix (And.intro @ld (@s1))))) ?_|refine kp (And.intro @bI (And.intro @rds (And.intro @ix (And.intro @ld (@s1))))) ?_
   refine Ow.callFV rfl Tryz.call168 (fun w' aB=>JA C S N bt dir nm data (spV light 0 bs) made w' (hP.worldM aB (fun p hp=>by simp[hp])) hA (by omega) (aB.has _ _ (List.mem_cons_self ..)) eF) ?_
   cases hr: ((gG S dir (az nm)).2==0) with
   |true=>
    have ha:atK 0 dir nm S=0:=by unfold atK;rw[if_neg (fun h=>h.2 (by simpa using hr))]
    refine ko @bI ?_
    first|with_reducible refine ks [] @bI ?_|refine kp @bI ?_
    rw[ha]
    exact CutO.mk () trivial rfl rfl
   |false=>
    have ha:atK 0 dir nm S=1:=by unfold atK;rw[if_pos ⟨rfl,by simpa using hr⟩]
    have st:=fun a=>Bq (dir:=dir) (nm:=nm) (data:=data) (v:=spV light 0 bs) (made:=made) a (sa light 1 bs)
    refine ko @bI ?_
    first|with_reducible refine ks [] (And.intro @bI (And.intro @sl (@st))) ?_|refine kp (And.intro @bI (And.intro @sl (@st))) ?_
    rw[ha]
    exact CutO.mk () trivial rfl rfl
  ·have s1: ((((be light).getD k 0:Nat):Int)==1)=false:=by rw[wL hk];simpa using jg
   have ha:atK k dir nm S=k:=by unfold atK;rw[if_neg (fun h=>jg h.1)]
   first|with_reducible refine ks [] (And.intro @bI (And.intro @rds (And.intro @ix (And.intro @ld (@s1))))) ?_|refine kp (And.intro @bI (And.intro @rds (And.intro @ix (And.intro @ld (@s1))))) ?_
   rw[ha]
   exact CutO.mk () trivial rfl rfl
 ·intro g j hg
  refine kv ?_
  have qH:atK k dir nm S< (be light).length:=by
   unfold atK
   split
   ·rename_i h;exact fR h.1
   ·exact hk
  have bU:Ext w (X++ [(bt,dtO dir nm data (spV light k bs) made),(bs,spO light)]) (X++ [(bt,dtO dir nm data (spV light (atK k dir nm S) bs) made),(bs,spO light)]):=(Ext.refl w _).keys (by simp[keys])
  unfold eC at hR
  simp only at hR
  generalize hX0:X++ [(bt,dtO dir nm data (spV light k bs) made),(bs,spO light)]=X0 at*
  clear hX hn k7 ix ld sl hX0 fR hk rN
  generalize atK k dir nm S=k at*
  obtain⟨mK,hs6⟩:=Lj qH
  generalize hsd: (be light).getD k 0=s at*
  have od: (az nm).length≤900004:=by unfold az;rw[List.length_append];simp;omega
  have ix:=fun a=>zd (light:=light) bs qH a
  have ld: ∀n,aF (some (false,n)) (some (spO light)) k=some (vi (s:Int)):=fun n=>by rw[yh (light:=light) qH n,hsd]
  have sl:=fun a=>xh (light:=light) bs qH a
  first|with_reducible refine ks [1000007] @bI ?_|refine kp @bI ?_
  refine Cw.cutO (G:=SbG) [7,40,41,42,43,44,45,46,47,48,49,50,51,52,53,54,55,56,57,58,59,60,61,62,63,64,65,66,67,68,69,70,71,72,73,74,75,76,77,78,79,80,81,82,83,84,85,86,87,88,89,90,91,92,93,94,95,96,97,98,99,100,101,102,103,104,105,106,107,108,109,110,111,112,113,114,115,116] (fun g=> [(7,vi ((ae s dir nm data S).2:Nat))]) (fun g=>g.X++ [(bt,dtO dir nm data (spV light k bs) (fc s made (ae s dir nm data S).2)),(bs,spO light)]) (fun g=>DcP g.X g.C (ae s dir nm data S).1∧g.C.bd=C.bd∧bt∉keys g.X∧bs∉keys g.X∧Ext w X0 (g.X++ [(bt,dtO dir nm data (spV light k bs) made),(bs,spO light)])) ?_ ?_
  ·first|with_reducible refine ks [8] (And.intro @bI (And.intro @rds (And.intro @ix (@ld)))) ?_|refine kp (And.intro @bI (And.intro @rds (And.intro @ix (@ld)))) ?_
   have rd0:=zp (O1:=dtO dir nm data (spV light k bs) made) (O2:=spO light) mA iZ ad w
   obtain⟨rdt,-⟩:=rd0
   have i0: ∀e:Nat,((e:Int)==0)=(e==0):=fun e=>by cases e<;>rfl
   refine Cw.permL (M:=X++ [(bt,dtO dir nm data (spV light k bs) made),(bs,spO light)]) (by classical exact List.perm_iff_count.2 fun a=>by simp only[List.count_append,List.count_cons,List.count_nil]<;>omega) ?_
   rcases(by omega:s=1∨s=2∨s=3∨s=4∨s=5∨s=6) with rfl|rfl|rfl|rfl|rfl|rfl
   ·have q1: ((((1:Nat):Int))==1)=true:=rfl
    first|with_reducible refine ks [] (And.intro @bI (And.intro @q1 (@rdt))) ?_|refine kp (And.intro @bI (And.intro @q1 (@rdt))) ?_
    refine kq (And.intro @bI @rdt) ?_
    refine Ow.callX (X:=X) (Y:= [(bt,dtO dir nm data (spV light k bs) made),(bs,spO light)]) rfl rfl rfl Tryz.call32 (fun w' aB aQ aN=>qp X C S N 5 dir (az nm) [] w' aQ aN hP hA (by omega) ⟨by decide,by decide⟩ (by omega) (Nat.zero_le _)) (fun v4 D4 au aZ=> ?_)
    obtain⟨rfl,C4,er,di⟩:=aZ
    rw[P2 (data:=data)] at di ⊢
    have eB:=li au mA (by simp[keys])
    have fm:=li au iZ (by simp[keys])
    have dR:=bU.came au
    refine kq @bI ?_
    exact CutO.mk ⟨C4,D4⟩ ⟨di,er,eB,fm,dR⟩ rfl rfl
   ·have q1: ((((2:Nat):Int))==1)=false:=rfl
    have q2: ((((2:Nat):Int))==2)=true:=rfl
    first|with_reducible refine ks [] (And.intro @bI (And.intro @q1 (And.intro @q2 (@rdt)))) ?_|refine kp (And.intro @bI (And.intro @q1 (And.intro @q2 (@rdt)))) ?_
    refine kq (And.intro @bI @rdt) ?_
    refine Ow.callX (X:=X) (Y:= [(bt,dtO dir nm data (spV light k bs) made),(bs,spO light)]) rfl rfl rfl Tryz.call32 (fun w' aB aQ aN=>qp X C S N 0 dir (az nm) [] w' aQ aN hP hA (by omega) ⟨by decide,by decide⟩ (by omega) (Nat.zero_le _)) (fun v4 D4 au aZ=> ?_)
    obtain⟨rfl,C4,er,di⟩:=aZ
    rw[O7 (data:=data)] at di ⊢
    have eB:=li au mA (by simp[keys])
    have fm:=li au iZ (by simp[keys])
    have dR:=bU.came au
    refine kq @bI ?_
    generalize ae 2 dir nm data S=q at*
    obtain⟨S1,e⟩:=q
    simp only at di ⊢
    have ie:=i0 e
    have lk:=xp (O1:=dtO dir nm data (spV light k bs) made) (bs:=bs) (O2:=spO light) eB
    have st:=fun a=>DE (dir:=dir) (nm:=nm) (data:=data) (v:=spV light k bs) (made:=made) a (e==0)
    first|with_reducible refine ks [] (And.intro @bI (And.intro @ie (And.intro @lk (And.intro @st (@iu))))) ?_|refine kp (And.intro @bI (And.intro @ie (And.intro @lk (And.intro @st (@iu))))) ?_
    exact CutO.mk ⟨C4,D4⟩ ⟨di,er,eB,fm,dR⟩ (zb eB) rfl
   ·have q1: ((((3:Nat):Int))==1)=false:=rfl
    have q2: ((((3:Nat):Int))==2)=false:=rfl
    have q3: ((((3:Nat):Int))==3)=true:=rfl
    first|with_reducible refine ks [14] (And.intro @bI (And.intro @q1 (And.intro @q2 (@q3)))) ?_|refine kp (And.intro @bI (And.intro @q1 (And.intro @q2 (@q3)))) ?_
    refine Cw.regionO [0,1,2,3,5,6,7,8,4,9,10,11] [10] rfl (by kernel_rfl) (by kernel_rfl) ?_
    simp only[ar, ↓ap, ↓ag, ↓an, ↓am,ah]
    refine kq (And.intro @bI @rdt) ?_
    refine Ow.callX (X:=X) (Y:= [(bt,dtO dir nm data (spV light k bs) made),(bs,spO light)]) rfl rfl rfl Tryz.call32 (fun w' aB aQ aN=>qp X C S N 1 dir (az nm) data w' aQ aN hP hA (by omega) ⟨by decide,by decide⟩ (by omega) (by omega)) (fun v4 D4 au aZ=> ?_)
    obtain⟨rfl,C4,er,di⟩:=aZ
    rw[P9] at di ⊢
    have eB:=li au mA (by simp[keys])
    have fm:=li au iZ (by simp[keys])
    have dR:=bU.came au
    refine kq @bI ?_
    exact CutO.mk ⟨C4,D4⟩ ⟨di,er,eB,fm,dR⟩ rfl rfl
   ·have q1: ((((4:Nat):Int))==1)=false:=rfl
    have q2: ((((4:Nat):Int))==2)=false:=rfl
    have q3: ((((4:Nat):Int))==3)=false:=rfl
    have q4: ((((4:Nat):Int))==4)=true:=rfl
    first|with_reducible refine ks [] (And.intro @bI (And.intro @q1 (And.intro @q2 (And.intro @q3 (And.intro @q4 (@rdt)))))) ?_|refine kp (And.intro @bI (And.intro @q1 (And.intro @q2 (And.intro @q3 (And.intro @q4 (@rdt)))))) ?_
    refine kq (And.intro @bI @rdt) ?_
    refine Ow.callX (X:=X) (Y:= [(bt,dtO dir nm data (spV light k bs) made),(bs,spO light)]) rfl rfl rfl Tryz.call32 (fun w' aB aQ aN=>qp X C S N 2 dir (az nm) [] w' aQ aN hP hA (by omega) ⟨by decide,by decide⟩ (by omega) (Nat.zero_le _)) (fun v4 D4 au aZ=> ?_)
    obtain⟨rfl,C4,er,di⟩:=aZ
    rw[PS (data:=data)] at di ⊢
    have eB:=li au mA (by simp[keys])
    have fm:=li au iZ (by simp[keys])
    have dR:=bU.came au
    refine kq @bI ?_
    exact CutO.mk ⟨C4,D4⟩ ⟨di,er,eB,fm,dR⟩ rfl rfl
   ·have q1: ((((5:Nat):Int))==1)=false:=rfl
    have q2: ((((5:Nat):Int))==2)=false:=rfl
    have q3: ((((5:Nat):Int))==3)=false:=rfl
    have q4: ((((5:Nat):Int))==4)=false:=rfl
    have q5: ((((5:Nat):Int))==5)=true:=rfl
    first|with_reducible refine ks [18] (And.intro @bI (And.intro @q1 (And.intro @q2 (And.intro @q3 (And.intro @q4 (@q5)))))) ?_|refine kp (And.intro @bI (And.intro @q1 (And.intro @q2 (And.intro @q3 (And.intro @q4 (@q5)))))) ?_
    refine Cw.regionO [0,1,2,3,5,6,7,8,4,9,10,11] [10] rfl (by kernel_rfl) (by kernel_rfl) ?_
    simp only[ar, ↓ap, ↓ag, ↓an, ↓am,ah]
    refine kq (And.intro @bI @rdt) ?_
    refine Ow.callX (X:=X) (Y:= [(bt,dtO dir nm data (spV light k bs) made),(bs,spO light)]) rfl rfl rfl Tryz.call32 (fun w' aB aQ aN=>qp X C S N 4 dir (az nm) nm w' aQ aN hP hA (by omega) ⟨by decide,by decide⟩ (by omega) (by omega)) (fun v4 D4 au aZ=> ?_)
    obtain⟨rfl,C4,er,di⟩:=aZ
    rw[Oo (data:=data)] at di ⊢
    have eB:=li au mA (by simp[keys])
    have fm:=li au iZ (by simp[keys])
    have dR:=bU.came au
    refine kq @bI ?_
    generalize ae 5 dir nm data S=q at*
    obtain⟨S1,e⟩:=q
    simp only at di ⊢
    have ie:=i0 e
    cases he: (e==0) with
    |true=>
     rw[he] at ie
     have hm:fc 5 made e=false:=by rw[zN,bne,he];simp
     rw[hm]
     have lk:=xp (O1:=dtO dir nm data (spV light k bs) made) (bs:=bs) (O2:=spO light) eB
     have st:=fun a=>DE (dir:=dir) (nm:=nm) (data:=data) (v:=spV light k bs) (made:=made) a false
     first|with_reducible refine ks [] (And.intro @bI (And.intro @ie (And.intro @lk (And.intro @st (@iu))))) ?_|refine kp (And.intro @bI (And.intro @ie (And.intro @lk (And.intro @st (@iu))))) ?_
     exact CutO.mk ⟨C4,D4⟩ ⟨di,er,eB,fm,dR⟩ (zb eB) rfl
    |false=>
     rw[he] at ie
     have hm:fc 5 made e=made:=by rw[zN,bne,he];simp
     rw[hm]
     first|with_reducible refine ks [] (And.intro @bI @ie) ?_|refine kp (And.intro @bI @ie) ?_
     exact CutO.mk ⟨C4,D4⟩ ⟨di,er,eB,fm,dR⟩ rfl rfl
   ·have q1: ((((6:Nat):Int))==1)=false:=rfl
    have q2: ((((6:Nat):Int))==2)=false:=rfl
    have q3: ((((6:Nat):Int))==3)=false:=rfl
    have q4: ((((6:Nat):Int))==4)=false:=rfl
    have q5: ((((6:Nat):Int))==5)=false:=rfl
    have q6: ((((6:Nat):Int))==6)=true:=rfl
    first|with_reducible refine ks [] (And.intro @bI (And.intro @q1 (And.intro @q2 (And.intro @q3 (And.intro @q4 (And.intro @q5 (And.intro @q6 (@rdt)))))))) ?_|refine kp (And.intro @bI (And.intro @q1 (And.intro @q2 (And.intro @q3 (And.intro @q4 (And.intro @q5 (And.intro @q6 (@rdt)))))))) ?_
    refine kq (And.intro @bI @rdt) ?_
    refine Ow.callX (X:=X) (Y:= [(bt,dtO dir nm data (spV light k bs) made),(bs,spO light)]) rfl rfl rfl Tryz.call32 (fun w' aB aQ aN=>qp X C S N 3 dir [] [] w' aQ aN hP hA (by omega) ⟨by decide,by decide⟩ (Nat.zero_le _) (Nat.zero_le _)) (fun v4 D4 au aZ=> ?_)
    obtain⟨rfl,C4,er,di⟩:=aZ
    rw[OX (nm:=nm) (data:=data)] at di ⊢
    have eB:=li au mA (by simp[keys])
    have fm:=li au iZ (by simp[keys])
    have dR:=bU.came au
    refine kq @bI ?_
    exact CutO.mk ⟨C4,D4⟩ ⟨di,er,eB,fm,dR⟩ rfl rfl
  ·intro g j hg
   refine kv ?_
   clear hP mA iZ bU
   obtain⟨C1,X1⟩:=g
   simp only at hg ⊢
   obtain⟨hP,g8,mA,iZ,bU⟩:=hg
   rw[←g8]
   have bv:DsA (ae s dir nm data S).1 (N+1):=by
    rcases(by omega:s=1∨s=2∨s=3∨s=4∨s=5∨s=6) with rfl|rfl|rfl|rfl|rfl|rfl
    ·exact hA.do (by omega) 5 dir (az nm) [] (by omega) (Nat.zero_le _)
    ·exact hA.do (by omega) 0 dir (az nm) [] (by omega) (Nat.zero_le _)
    ·exact hA.do (by omega) 1 dir (az nm) data (by omega) (by omega)
    ·exact hA.do (by omega) 2 dir (az nm) [] (by omega) (Nat.zero_le _)
    ·exact hA.do (by omega) 4 dir (az nm) nm (by omega) (by omega)
    ·exact hA.do (by omega) 3 dir [] [] (Nat.zero_le _) (Nat.zero_le _)
   generalize ae s dir nm data S=q at*
   obtain⟨S1,e⟩:=q
   simp only at hR hP bv ⊢
   generalize fc s made e=m at*
   refine Cw.permL (M:=(bt,dtO dir nm data (spV light k bs) m):: (bs,spO light)::X1) (by classical exact List.perm_iff_count.2 fun a=>by simp only[List.count_append,List.count_cons,List.count_nil]<;>omega) ?_
   have st1:=fun a=>Bq (dir:=dir) (nm:=nm) (data:=data) (v:=spV light k bs) (made:=m) a (sa light (k+1) bs)
   by_cases he:e=0
   ·have e0: ((e:Int) !=0)=false:=by rw[he];rfl
    rw[if_neg (fun h=>h he)] at hR
    have hl: ((((be light).length - (k+1):Nat):Int)==0)=(k+1==(be light).length):=by
     rw[Bool.eq_iff_iff,beq_iff_eq,beq_iff_eq];omega
    first|with_reducible refine ks [] (And.intro @bI (And.intro @sl (And.intro @st1 (And.intro @e0 (@hl))))) ?_|refine kp (And.intro @bI (And.intro @sl (And.intro @st1 (And.intro @e0 (@hl))))) ?_
    refine⟨_,(ke @bI), ?_⟩
    rw[←hR]
    exact⟨(bU.keys (D':=X1++ [(bt,dtO dir nm data (spV light (k+1) bs) m),(bs,spO light)]) (by simp[keys])).perm (by classical exact List.perm_iff_count.2 fun a=>by simp only[List.count_append,List.count_cons,List.count_nil]<;>omega),rfl,X1,C1,spV light (k+1) bs,(by classical exact List.perm_iff_count.2 fun a=>by simp only[List.count_append,List.count_cons,List.count_nil]<;>omega),g8,hP,bv.mono (by omega),fun _ _=>rfl⟩
   ·have e0: ((e:Int) !=0)=true:=by rw[bne_iff_ne];omega
    rw[if_pos he] at hR
    have st2:=fun a=>Bq (dir:=dir) (nm:=nm) (data:=data) (v:=spV light (k+1) bs) (made:=m) a (q:= .slice none 0 0) ⟨rfl,rfl⟩
    by_cases hm:m=true∧e≠9
    ·rw[if_pos hm] at hR
     have m1:=hm.1
     have e9: ((e:Int) !=9)=true:=by
      rw[bne_iff_ne]
      have:=hm.2
      omega
     subst m1
     first|with_reducible refine ks [27] (And.intro @bI (And.intro @sl (And.intro @st1 (And.intro @st2 (And.intro @e0 (@e9)))))) ?_|refine kp (And.intro @bI (And.intro @sl (And.intro @st1 (And.intro @st2 (And.intro @e0 (@e9)))))) ?_
     refine Cw.permL (M:=X1++ [(bt,dtO dir nm data (.slice none 0 0) true),(bs,spO light)]) (by classical exact List.perm_iff_count.2 fun a=>by simp only[List.count_append,List.count_cons,List.count_nil]<;>omega) ?_
     obtain⟨rdt,-⟩:=zp (O1:=dtO dir nm data (.slice none 0 0) true) (O2:=spO light) mA iZ ad w
     first|with_reducible refine ks [] (And.intro @bI @rdt) ?_|refine kp (And.intro @bI @rdt) ?_
     refine kq (And.intro @bI @rdt) ?_
     refine Ow.callX (X:=X1) (Y:= [(bt,dtO dir nm data (.slice none 0 0) true),(bs,spO light)]) rfl rfl rfl Tryz.call32 (fun w' aB aQ aN=>qp X1 C1 S1 (N+1) 5 dir (az nm) [] w' aQ aN hP bv (by omega) ⟨by decide,by decide⟩ (by omega) (Nat.zero_le _)) (fun v4 D4 au aZ=> ?_)
     obtain⟨rfl,C4,er,di⟩:=aZ
     have jE:=bv.do (by omega) 5 dir (az nm) [] (by omega) (Nat.zero_le _)
     have aj:Ext w X0 (X1++ [(bt,dtO dir nm data (.slice none 0 0) true),(bs,spO light)]):=bU.keys (by simp[keys])
     refine kq @bI ?_
     first|with_reducible refine ks [] @bI ?_|refine kp @bI ?_
     refine⟨_,(ke @bI), ?_⟩
     rw[←hR]
     exact⟨aj.came au,rfl,D4,C4,_,List.Perm.refl _,er.trans g8,di,jE,fun _ h=>absurd h he⟩
    ·rw[if_neg hm] at hR
     have aj:Ext w X0 ((bt,dtO dir nm data (.slice none 0 0) m):: (bs,spO light)::X1):=(bU.keys (D':=X1++ [(bt,dtO dir nm data (.slice none 0 0) m),(bs,spO light)]) (by simp[keys])).perm (by classical exact List.perm_iff_count.2 fun a=>by simp only[List.count_append,List.count_cons,List.count_nil]<;>omega)
     by_cases eO:m=true
     ·have e9: ((e:Int) !=9)=false:=by
       have h9:e=9:=Decidable.byContradiction fun h=>hm ⟨eO,h⟩
       rw[h9];rfl
      subst eO
      first|with_reducible refine ks [] (And.intro @bI (And.intro @sl (And.intro @st1 (And.intro @st2 (And.intro @e0 (@e9)))))) ?_|refine kp (And.intro @bI (And.intro @sl (And.intro @st1 (And.intro @st2 (And.intro @e0 (@e9)))))) ?_
      refine⟨_,(ke @bI), ?_⟩
      rw[←hR]
      exact⟨aj,rfl,X1,C1, .slice none 0 0,(by classical exact List.perm_iff_count.2 fun a=>by simp only[List.count_append,List.count_cons,List.count_nil]<;>omega),g8,hP,bv.mono (by omega),fun _ h=>absurd h he⟩
     ·obtain rfl:m=false:=by simpa using eO
      first|with_reducible refine ks [] (And.intro @bI (And.intro @sl (And.intro @st1 (And.intro @st2 (@e0))))) ?_|refine kp (And.intro @bI (And.intro @sl (And.intro @st1 (And.intro @st2 (@e0))))) ?_
      refine⟨_,(ke @bI), ?_⟩
      rw[←hR]
      exact⟨aj,rfl,X1,C1, .slice none 0 0,(by classical exact List.perm_iff_count.2 fun a=>by simp only[List.count_append,List.count_cons,List.count_nil]<;>omega),g8,hP,bv.mono (by omega),fun _ h=>absurd h he⟩
end Go.Proofs
end
section
open Go Go.Proofs Go.Sx Go.StP
namespace Go.Proofs
set_option maxRecDepth 10000
set_option maxHeartbeats 1000000
set_option linter.unusedSimpArgs false
theorem Id {light:Bool} {k:Nat} {made:Bool} {dir nm data:List UInt8} {S:DiskL} (hk:k< (be light).length) (hd: (eC light k made dir nm data S).done=false) (he: (eC light k made dir nm data S).e=0): (eC light k made dir nm data S).k< (be light).length:=by
 have fR:atK k dir nm S< (be light).length:=by
  unfold atK
  split
  ·cases light<;>decide
  ·exact hk
 unfold eC at hd he ⊢
 simp only at hd he ⊢
 split at hd
 ·rename_i h
  rw[if_pos h] at he
  exact absurd he h
 ·rename_i h
  rw[if_neg h]
  have: ¬atK k dir nm S+1=(be light).length:=beq_eq_false_iff_ne.1 hd
  show atK k dir nm S+1<_
  omega
set_option linter.defProp false
def jP:=And.intro (And.intro (@ay) (@ax)) (And.intro (@Sx.tup2_0) (@Sx.tup2_1))
structure RkG where
 f:Nat
 k:Nat
 made:Bool
 S:DiskL
 C:DcG
 X:aA
def RkS (C:DcG) (R:Nat×DiskL) (N:Nat) (v:Value) (D:aA):Prop:=v=vi (R.1:Nat)∧ ∃C',C'.bd=C.bd∧DcP D C' R.2∧DsA R.2 N
theorem Uc (X:aA) (C:DcG) (S:DiskL) (N bt bs:Nat) (light:Bool) (dir nm data:List UInt8) (w:World) (hX: ∀p,p∈X++ [(bt,dtO dir nm data (spV light 0 bs) false),(bs,spO light)]→w.heap[p.1]? =some p.2) (hn: (keys (X++ [(bt,dtO dir nm data (spV light 0 bs) false),(bs,spO light)])).Nodup) (hP:DcP X C S) (hA:DsA S N) (hN:N<700000) (eF:nm.length≤900000) (lS:data.length≤1000000):
  Rets Tryz.prog 96 #[vp C.bd 0,vp bt 0] w (XS w (X++ [(bt,dtO dir nm data (spV light 0 bs) false),(bs,spO light)]) (RkS C (eK 10 light 0 false dir nm data S) (N+20))):=by
 obtain⟨R,hR⟩: ∃R,eK 10 light 0 false dir nm data S=R:=⟨_,rfl⟩
 rw[hR]
 have lU:1< (be light).length:=by cases light<;>decide
 refine Rets.enterX Tryz.func96 rfl (rs:= [.tmp 4]) Tryz.results96 Tryz.ntmps96 hX hn ?_
 refine kf ?_
 first|with_reducible refine ks [] @jP ?_|refine kp @jP ?_
 refine Cw.loopG (G:=RkG) [8,9,13,14,15,12,16,17,6,7,18,19,20,21,22,23,4,10,11,5] (fun g=> [(5,vi ((10 - g.f:Nat):Int))]) (fun g=>g.X++ [(bt,dtO dir nm data (spV light g.k bs) g.made),(bs,spO light)]) (fun g=>eK g.f light g.k g.made dir nm data g.S=R∧g.k< (be light).length∧g.C.bd=C.bd∧DcP g.X g.C g.S∧DsA g.S (N+2* (10 - g.f))∧g.f≤10∧Ext w (X++ [(bt,dtO dir nm data (spV light 0 bs) false),(bs,spO light)]) (g.X++ [(bt,dtO dir nm data (spV light g.k bs) g.made),(bs,spO light)])) (fun g=>g.f) ⟨10,0,false,S,C,X⟩ rfl rfl ?_ ?_
 ·exact⟨hR,by show 0<_;omega,rfl,hP,hA,Nat.le_refl 10,Ext.refl w _⟩
 ·intro g j hg
  refine kv ?_
  clear hR hP hA
  obtain⟨f,k,made,S,C1,X1⟩:=g
  obtain⟨hR,hk,bJ,hP,hA,hf,hE⟩:=hg
  simp only at hR hk bJ hP hA hf hE ⊢
  rw[←bJ]
  cases f with
  |zero=>
   have d1:decide (((10 - 0:Nat):Int)<10)=false:=rfl
   first|with_reducible refine ks [] (And.intro @jP @d1) ?_|refine kp (And.intro @jP @d1) ?_
   refine⟨_,(ke @jP), ?_⟩
   exact⟨hE,by rw[←hR];rfl,C1,bJ,by rw[←hR];exact hP.mono fun b o h=>aq h,by rw[←hR];exact hA.mono (by omega)⟩
  |succ f=>
   have d1:decide (((10 - (f+1):Nat):Int)<10)=true:=decide_eq_true (by omega)
   rw[sE] at hR
   first|with_reducible refine ks [] (And.intro @jP @d1) ?_|refine kp (And.intro @jP @d1) ?_
   refine Ow.callX (X:=X1++ [(bt,dtO dir nm data (spV light k bs) made),(bs,spO light)]) (Y:= []) (List.append_nil _).symm rfl rfl Tryz.call130 (fun w' aB aQ aN=>Fx X1 C1 S (N+2* (10 - (f+1))) bt bs k light made dir nm data w' aQ aN hP hA (by omega) hk (fun _=>lU) eF lS) (fun v4 D4 au aZ=> ?_)
   obtain⟨rfl,X2,C2,q,gQ,aX,aw,ai,hq⟩:=aZ
   rw[List.append_nil]
   have aj:=(hE.came0 au).perm gQ
   have Df:=Id (light:=light) (made:=made) (dir:=dir) (nm:=nm) (data:=data) (S:=S) hk
   refine Ow.permL gQ ?_
   generalize eC light k made dir nm data S=r at*
   have cv:=ai.mono (M:=N+20) (by omega)
   by_cases hd:r.done=true
   ·rw[if_pos (.inl hd)] at hR
    refine ko (And.intro @jP @hd) ?_
    first|with_reducible refine ks [] (And.intro @jP @hd) ?_|refine kp (And.intro @jP @hd) ?_
    refine⟨_,(ke @jP), ?_⟩
    rw[←hR]
    exact⟨aj,rfl,C2,aX.trans bJ,aw.mono fun b o h=>aq h,cv⟩
   ·have fF:r.done=false:=by simpa using hd
    by_cases oT:r.e=0
    ·have e0: ((r.e:Int) !=0)=false:=by rw[oT];rfl
     rw[if_neg (fun h=>by rcases h with h|h;exact hd h;exact h oT)] at hR
     obtain rfl:=hq fF oT
     have Dc: ((10 - (f+1):Nat):Int)+1=((10 - f:Nat):Int):=by omega
     refine ko (And.intro @jP (And.intro @fF (@e0))) ?_
     first|with_reducible refine ks [] (And.intro @jP (And.intro @fF (And.intro @e0 (@Dc)))) ?_|refine kp (And.intro @jP (And.intro @fF (And.intro @e0 (@Dc)))) ?_
     exact Again.mk ⟨f,r.k,r.made,r.S,C2,X2⟩ (Nat.lt_succ_self f) ⟨hR,Df fF oT,aX,aw,ai.mono (by show _≤N+2* (10 - f);omega),by show f≤10;omega,aj⟩ rfl rfl
    ·have e0: ((r.e:Int) !=0)=true:=by
      rw[bne_iff_ne];omega
     rw[if_pos (.inr oT)] at hR
     refine ko (And.intro @jP (And.intro @fF (@e0))) ?_
     first|with_reducible refine ks [] (And.intro @jP (And.intro @fF (@e0))) ?_|refine kp (And.intro @jP (And.intro @fF (@e0))) ?_
     refine⟨_,(ke @jP), ?_⟩
     rw[←hR]
     exact⟨aj,rfl,C2,aX.trans bJ,aw.mono fun b o h=>aq h,cv⟩
end Go.Proofs
end
section
open Go Go.Proofs Go.Sx Go.StP
namespace Go.Proofs
set_option maxRecDepth 10000
set_option maxHeartbeats 1000000
set_option linter.unusedSimpArgs false
def NtS (dir nm data:List UInt8) (light:Bool) (v:Value) (D:aA):Prop:= ∃bt bs Z,v=vp bt 0∧(Z++ [(bt,dtO dir nm data (spV light 0 bs) false),(bs,spO light)]).Perm D
set_option linter.defProp false
def ez:=And.intro (And.intro (@ay) (@ax)) (And.intro (@Sx.tup2_0) (And.intro (@Sx.tup2_1) (@Bq)))
theorem UY (dir nm data:List UInt8) (light:Bool) (w:World):
  Rets Tryz.prog 97 #[vs dir,vs nm,vs data, .bool light] w (XS w [] (NtS dir nm data light)):=by
 cases light with
 |false=>
  refine Rets.enterX Tryz.func97 rfl (rs:= [.tmp 8]) Tryz.results97 Tryz.ntmps97 (fun p hp=>by cases hp) (by simp[keys]) ?_
  refine kf ?_
  first|with_reducible refine ks [] @ez ?_|refine kp @ez ?_
  refine Ow.buildSlice (e:=3) ((be false).map fun n:Nat=>vi (n:Int)).toArray rfl rfl (by kernel_rfl) fun b1 bE aJ=> ?_
  refine ko @ez ?_
  refine Ow.build _ rfl (yC dir nm data b1 6 6) ?_
  refine Ow.box rfl rfl fun b2 bG cU=> ?_
  simp only[bL,List.nil_append,List.cons_append]
  refine ko @ez ?_
  first|with_reducible refine ks [] @ez ?_|refine kp @ez ?_
  refine⟨_,(ke @ez), ?_⟩
  exact⟨Ext.of_new ⟨aJ,cU,trivial⟩,b2,b1,[],rfl,List.Perm.swap _ _ []⟩
 |true=>
  refine Rets.enterX Tryz.func97 rfl (rs:= [.tmp 8]) Tryz.results97 Tryz.ntmps97 (fun p hp=>by cases hp) (by simp[keys]) ?_
  refine kf ?_
  first|with_reducible refine ks [] @ez ?_|refine kp @ez ?_
  refine Ow.buildSlice (e:=3) ((be false).map fun n:Nat=>vi (n:Int)).toArray rfl rfl (by kernel_rfl) fun b1 bE aJ=> ?_
  refine ko @ez ?_
  refine Ow.build _ rfl (yC dir nm data b1 6 6) ?_
  refine Ow.box rfl rfl fun b2 bG cU=> ?_
  simp only[bL,List.nil_append,List.cons_append]
  refine ko @ez ?_
  first|with_reducible refine ks [] @ez ?_|refine kp @ez ?_
  refine Ow.buildSlice (e:=3) ((be true).map fun n:Nat=>vi (n:Int)).toArray rfl rfl (by kernel_rfl) fun b3 gM jK=> ?_
  refine Ow.permL (M:=(b2,dtO dir nm data (spV false 0 b1) false):: (b1,spO false):: [(b3,spO true)]) (List.Perm.swap _ _ _) ?_
  have st:=fun a=>Bq (dir:=dir) (nm:=nm) (data:=data) (v:=spV false 0 b1) (made:=false) a (sa true 0 b3)
  have hsb: ∀o o' L,setB ((b2,o)::L) b2 o'=(b2,o')::L:=fun _ _ _=>by simp[setB]
  refine ko (And.intro @ez @st) ?_
  first|with_reducible refine ks [] @ez ?_|refine kp @ez ?_
  refine⟨_,(ke @ez), ?_⟩
  rw[hsb]
  exact⟨Ext.of_new ⟨cU,aJ,jK,trivial⟩,b2,b3,[(b1,spO false)],rfl,List.Perm.swap _ _ _⟩
theorem yF {w:World} {X D:aA} (h:New w.heap.size D):Ext w X (X++D):=
 ⟨fun c hc=>by
  rw[bO] at hc
  exact(List.mem_append.1 hc).imp id (h.le c),fun c hc=>by rw[bO];exact List.mem_append_left _ hc⟩
theorem Gl (X:aA) (C:DcG) (S:DiskL) (N:Nat) (dir nm data:List UInt8) (w:World) (hX: ∀p,p∈X→w.heap[p.1]? =some p.2) (hn: (keys X).Nodup) (hP:DcP X C S) (hA:DsA S N) (hN:N<700000) (eF:nm.length≤900000) (lS:data.length≤1000000):
  Rets Tryz.prog 42 #[vp C.bd 0,vs dir,vs nm,vs data] w (XS w X (RkS C (iT S dir nm data false) (N+20))):=by
 refine Rets.enterX Tryz.func42 rfl (rs:= [.tmp 8]) Tryz.results42 Tryz.ntmps42 hX hn ?_
 refine kf ?_
 first|with_reducible refine ks [] @ez ?_|refine kp @ez ?_
 refine Ow.callC rfl rfl Tryz.call97 (fun w' aB=>UY dir nm data false w') ?_
 rintro B v D jF pu k8 ⟨b1,bs,Z,rfl,BH⟩
 have k7:Ext w X ((X++Z)++ [(b1,dtO dir nm data (spV false 0 bs) false),(bs,spO false)]):=by
  rw[List.append_assoc]
  exact(yF (k8.mono pu)).perm (BH.append_left X)
 refine Ow.permL (M:=(X++Z)++ [(b1,dtO dir nm data (spV false 0 bs) false),(bs,spO false)]) (by rw[List.append_assoc];exact BH.append_left X) ?_
 refine Ow.callX (X:=(X++Z)++ [(b1,dtO dir nm data (spV false 0 bs) false),(bs,spO false)]) (Y:= []) (List.append_nil _).symm rfl rfl Tryz.call96 (fun w' aB aQ aN=>Uc (X++Z) C S N b1 bs false dir nm data w' aQ aN (hP.mono fun b o h=>aq h) hA hN eF lS) (fun v4 D4 au aZ=> ?_)
 obtain⟨rfl,C2,aX,aw,ai⟩:=aZ
 rw[List.append_nil]
 have aj:=k7.came0 au
 have hr:eK 10 false 0 false dir nm data S=iT S dir nm data false:=xg false S
 rw[hr] at aw ai ⊢
 refine ko @ez ?_
 first|with_reducible refine ks [] @ez ?_|refine kp @ez ?_
 refine⟨_,(ke @ez), ?_⟩
 exact⟨aj,rfl,C2,aX,aw,ai⟩
theorem Fi (X:aA) (C:DcG) (S:DiskL) (N:Nat) (dir nm data:List UInt8) (w:World) (hX: ∀p,p∈X→w.heap[p.1]? =some p.2) (hn: (keys X).Nodup) (hP:DcP X C S) (hA:DsA S N) (hN:N<700000) (eF:nm.length≤900000) (lS:data.length≤1000000):
  Rets Tryz.prog 41 #[vp C.bd 0,vs dir,vs nm,vs data] w (XS w X (RkS C (iT S dir nm data true) (N+20))):=by
 refine Rets.enterX Tryz.func41 rfl (rs:= [.tmp 8]) Tryz.results41 Tryz.ntmps41 hX hn ?_
 refine kf ?_
 first|with_reducible refine ks [] @ez ?_|refine kp @ez ?_
 refine Ow.callC rfl rfl Tryz.call97 (fun w' aB=>UY dir nm data true w') ?_
 rintro B v D jF pu k8 ⟨b1,bs,Z,rfl,BH⟩
 have k7:Ext w X ((X++Z)++ [(b1,dtO dir nm data (spV true 0 bs) false),(bs,spO true)]):=by
  rw[List.append_assoc]
  exact(yF (k8.mono pu)).perm (BH.append_left X)
 refine Ow.permL (M:=(X++Z)++ [(b1,dtO dir nm data (spV true 0 bs) false),(bs,spO true)]) (by rw[List.append_assoc];exact BH.append_left X) ?_
 refine Ow.callX (X:=(X++Z)++ [(b1,dtO dir nm data (spV true 0 bs) false),(bs,spO true)]) (Y:= []) (List.append_nil _).symm rfl rfl Tryz.call96 (fun w' aB aQ aN=>Uc (X++Z) C S N b1 bs true dir nm data w' aQ aN (hP.mono fun b o h=>aq h) hA hN eF lS) (fun v4 D4 au aZ=> ?_)
 obtain⟨rfl,C2,aX,aw,ai⟩:=aZ
 rw[List.append_nil]
 have aj:=k7.came0 au
 have hr:eK 10 true 0 false dir nm data S=iT S dir nm data true:=xg true S
 rw[hr] at aw ai ⊢
 refine ko @ez ?_
 first|with_reducible refine ks [] @ez ?_|refine kp @ez ?_
 refine⟨_,(ke @ez), ?_⟩
 exact⟨aj,rfl,C2,aX,aw,ai⟩
end Go.Proofs
end
section
open Go Go.Proofs Go.Sx Go.StP
namespace Go.Proofs
set_option maxRecDepth 10000
set_option maxHeartbeats 400000
set_option linter.unusedSimpArgs false
def tkO (t:TkL):Obj:= .cells #[vs t.dir,vs t.name,vs t.data, .bool t.light,vi (t.next:Int), .bool t.made, .bool t.ended] 193 (0,0)
theorem yU (t:TkL) (n:Nat):aF (some (false,n)) (some (tkO t)) 0=some (vs t.dir):=(rfl)
theorem xw (t:TkL) (n:Nat):aF (some (false,n)) (some (tkO t)) 1=some (vs t.name):=(rfl)
theorem yO (t:TkL) (n:Nat):aF (some (false,n)) (some (tkO t)) 2=some (vs t.data):=(rfl)
theorem xy (t:TkL) (n:Nat):aF (some (false,n)) (some (tkO t)) 3=some (.bool t.light):=(rfl)
theorem yT (t:TkL) (n:Nat):aF (some (false,n)) (some (tkO t)) 4=some (vi (t.next:Int)):=(rfl)
theorem xx (t:TkL) (n:Nat):aF (some (false,n)) (some (tkO t)) 5=some (.bool t.made):=(rfl)
theorem xO (t:TkL) (n:Nat):aF (some (false,n)) (some (tkO t)) 6=some (.bool t.ended):=(rfl)
theorem wW (t:TkL) (x:Nat) (a:Bool):ac (some (a,1)) (some (tkO t)) 4 (vi (x:Int))=some (tkO {t with next:=x}):=d9 [vs t.dir,vs t.name,vs t.data, .bool t.light] [vi (t.next:Int)] [vi (x:Int)] [.bool t.made, .bool t.ended] a _ 193 rfl rfl rfl rfl rfl
theorem LC (t:TkL) (x:Bool) (a:Bool):ac (some (a,1)) (some (tkO t)) 5 (.bool x)=some (tkO {t with made:=x}):=d9 [vs t.dir,vs t.name,vs t.data, .bool t.light,vi (t.next:Int)] [.bool t.made] [.bool x] [.bool t.ended] a _ 193 rfl rfl rfl rfl rfl
theorem F9 (t:TkL) (x:Bool) (a:Bool):ac (some (a,1)) (some (tkO t)) 6 (.bool x)=some (tkO {t with ended:=x}):=d9 [vs t.dir,vs t.name,vs t.data, .bool t.light,vi (t.next:Int), .bool t.made] [.bool t.ended] [.bool x] [] a _ 193 rfl rfl rfl rfl rfl
structure TkB (t:TkL):Prop where
 name:t.name.length≤900000
 data:t.data.length≤1000000
theorem uV {t:TkL} (h:TkB t): (az t.name).length≤900004:=by
 unfold az
 rw[List.length_append]
 have:=h.name
 simp
 omega
theorem DkA.step {X X':aA} {G G':DkG} {S S':DiskL} {N:Nat} {kind:Int} {dir name s:List UInt8} {e:Nat} (h:DkA X G S N) (hP:DkP X' G' S') (bQ:StepD S kind dir name s S' e) (hn:name.length≤1000000) (hs:s.length≤1000000):DkA X' G' S' (N+1):=⟨hP,M9 h.H bQ,xa h.B hn hs bQ⟩
theorem DkA.up {X:aA} {G:DkG} {S:DiskL} {N:Nat} (h:DkA X G S N):DkA X G S (N+1):=⟨h.P,h.H,h.B.mono (Nat.le_succ N)⟩
def PhS (G:DkG) (bt:Nat) (r:PhR) (N:Nat) (v:Value) (D:aA):Prop:=v= .tuple #[.bool r.did,vi (r.e:Nat)]∧ ∃X' G',(X'++ [(bt,tkO r.t)]).Perm D∧G'.bd=G.bd∧DkA X' G' r.S N
theorem RB (b o:Nat):bA Tryz.prog .eql 154 (vp b o) (.pointer none)=some (.bool false):=by
 simp[bA,eqX,gb,gB,Tryz.underlying154,vp]
theorem lZ {X:aA} {bt:Nat} {t:TkL} (hn: (keys (X++ [(bt,tkO t)])).Nodup):bt∉keys X∧ ∀X' o,bt∉keys X'→ ∀w,aM w (X'++ [(bt,o)]) bt=some o:=by
 rw[bO,List.nodup_append] at hn
 refine⟨fun hm=>hn.2.2 bt hm bt (by simp[keys]) rfl,fun X' o h w=>aL (@Hh _ [] _ _ h)⟩
set_option linter.defProp false
def bR:=And.intro (And.intro (And.intro (@ay) (And.intro (@ax) (@yU))) (And.intro (And.intro (@xw) (@yO)) (And.intro (@xy) (@yT)))) (And.intro (And.intro (@xx) (And.intro (@xO) (@wW))) (And.intro (And.intro (@LC) (@F9)) (And.intro (@Sx.tup2_0) (@Sx.tup2_1))))
theorem IT (X:aA) (G:DkG) (S:DiskL) (N bt:Nat) (t:TkL) (w:World) (hX: ∀p,p∈X++ [(bt,tkO t)]→w.heap[p.1]? =some p.2) (hn: (keys (X++ [(bt,tkO t)])).Nodup) (hA:DkA X G S N) (hN:N<900000) (hB:TkB t):
  Rets Tryz.prog 195 #[vp bt 0,vp G.bd 0] w (XS w (X++ [(bt,tkO t)]) (PhS G bt (qy t S) (N+1))):=by
 refine Rets.enterX Tryz.func195 rfl (rs:= [.tmp 4, .tmp 5]) Tryz.results195 Tryz.ntmps195 hX hn ?_
 refine kf ?_
 have kA:=(lZ hn).1
 have rdt:=(lZ hn).2 X (tkO t) kA w
 have cH:=uV hB
 have av:t.name.length≤900000:=hB.name
 have gl:=hB.data
 have jl:=hA.pend (by omega)
 have oe:=hA.used (by omega)
 unfold qy
 first|with_reducible refine ks [] @bR ?_|refine kp @bR ?_
 refine Cw.regionO [0,1,2,3,5,6,7,4,8,9,10,11,12,13,14,15] [] rfl (by kernel_rfl) (by kernel_rfl) ?_
 simp only[ar, ↓ap, ↓ag, ↓an, ↓am,ah]
 refine kq (And.intro @bR @rdt) ?_
 refine Ow.callFV rfl Tryz.call23 (fun w' aB=>Ui w' G S t.dir (az t.name) ⟨X,fun b o hb=>aB.has b o (List.mem_append_left _ (bh hb)),hA.P⟩ (by omega)) ?_
 refine kq @bR ?_
 by_cases h0: (gG S t.dir (az t.name)).2≠0
 ·have e1:=jN h0
  rw[if_pos h0]
  first|with_reducible refine ks [] (And.intro @bR @e1) ?_|refine kp (And.intro @bR @e1) ?_
  refine⟨_,(ke @bR), ?_⟩
  exact⟨Ext.refl w _,rfl,X,G,List.Perm.refl _,rfl,hA.up⟩
 ·have ZG: (gG S t.dir (az t.name)).2=0:=by simpa using h0
  have e1: (((gG S t.dir (az t.name)).2:Int) !=0)=false:=by rw[ZG];rfl
  rw[if_neg h0]
  first|with_reducible refine ks [] (And.intro @bR @e1) ?_|refine kp (And.intro @bR @e1) ?_
  refine Cw.regionO [0,1,2,3,5,6,7,4,8,9,10,11,12] [10] rfl (by kernel_rfl) (by kernel_rfl) ?_
  simp only[ar, ↓ap, ↓ag, ↓an, ↓am,ah]
  refine kq (And.intro @bR @rdt) ?_
  refine Ow.callX (X:=X) (Y:= [(bt,tkO t)]) rfl rfl rfl Tryz.call77 (fun w' aB aQ aN=>UG X G S t.dir (az t.name) w' aQ aN hA.P (by omega) jl) (fun v4 D4 au aZ=> ?_)
  obtain⟨rfl,G',bJ,m7⟩:=aZ
  refine kq @bR ?_
  first|with_reducible refine ks [] @bR ?_|refine kp @bR ?_
  refine⟨_,(ke @bR), ?_⟩
  exact⟨(Ext.refl w _).came au,rfl,D4,G',List.Perm.refl _,bJ,hA.step m7 (UN S _ _ []) (by omega) (Nat.zero_le _)⟩
theorem YX (X:aA) (G:DkG) (S:DiskL) (N bt:Nat) (t:TkL) (w:World) (hX: ∀p,p∈X++ [(bt,tkO t)]→w.heap[p.1]? =some p.2) (hn: (keys (X++ [(bt,tkO t)])).Nodup) (hA:DkA X G S N) (hN:N<900000) (hB:TkB t):
  Rets Tryz.prog 196 #[vp bt 0,vp G.bd 0] w (XS w (X++ [(bt,tkO t)]) (PhS G bt (sK t S) (N+1))):=by
 refine Rets.enterX Tryz.func196 rfl (rs:= [.tmp 4, .tmp 5]) Tryz.results196 Tryz.ntmps196 hX hn ?_
 refine kf ?_
 have kA:=(lZ hn).1
 have rdt:=(lZ hn).2 X (tkO t) kA w
 have cH:=uV hB
 have av:t.name.length≤900000:=hB.name
 have gl:=hB.data
 have jl:=hA.pend (by omega)
 have oe:=hA.used (by omega)
 unfold sK
 first|with_reducible refine ks [2] @bR ?_|refine kp @bR ?_
 refine Cw.regionO [0,1,2,3,5,6,7,4,8,9,10,11] [10] rfl (by kernel_rfl) (by kernel_rfl) ?_
 simp only[ar, ↓ap, ↓ag, ↓an, ↓am,ah]
 refine kq (And.intro @bR @rdt) ?_
 refine Ow.callX (X:=X) (Y:= [(bt,tkO t)]) rfl rfl rfl Tryz.call72 (fun w' aB aQ aN=>GB X G S t.dir (az t.name) w' aQ aN hA.P (by omega) jl) (fun v4 D4 au aZ=> ?_)
 obtain⟨rfl,G',bJ,m7⟩:=aZ
 refine kq @bR ?_
 refine Cw.permL (M:=(bt,tkO t)::D4) (by classical exact List.perm_iff_count.2 fun a=>by simp only[List.count_append,List.count_cons,List.count_nil]<;>omega) ?_
 have uu:=hA.step m7 (Vr S _ _ []) (by omega) (Nat.zero_le _)
 have hE:=(Ext.refl w (X++ [(bt,tkO t)])).came au
 generalize mU S t.dir (az t.name)=q at*
 obtain⟨S',e⟩:=q
 simp only at uu ⊢
 have hi: ((e:Int)==0)=(e==0):=by
  cases e with
  |zero=>rfl
  |succ n=>rfl
 first|with_reducible refine ks [] (And.intro @bR @hi) ?_|refine kp (And.intro @bR @hi) ?_
 refine⟨_,(ke @bR), ?_⟩
 exact⟨(hE.perm (List.perm_append_comm (l₁:= [(bt,tkO t)]) (l₂:=D4))).keys rfl,rfl,D4,G',List.perm_append_comm (l₁:=D4) (l₂:= [_]),bJ,uu⟩
theorem Yb (X:aA) (G:DkG) (S:DiskL) (N bt:Nat) (t:TkL) (w:World) (hX: ∀p,p∈X++ [(bt,tkO t)]→w.heap[p.1]? =some p.2) (hn: (keys (X++ [(bt,tkO t)])).Nodup) (hA:DkA X G S N) (hN:N<900000) (hB:TkB t):
  Rets Tryz.prog 197 #[vp bt 0,vp G.bd 0] w (XS w (X++ [(bt,tkO t)]) (PhS G bt (sX t S) (N+1))):=by
 refine Rets.enterX Tryz.func197 rfl (rs:= [.tmp 4, .tmp 5]) Tryz.results197 Tryz.ntmps197 hX hn ?_
 refine kf ?_
 have kA:=(lZ hn).1
 have rdt:=(lZ hn).2 X (tkO t) kA w
 have cH:=uV hB
 have av:t.name.length≤900000:=hB.name
 have gl:=hB.data
 have jl:=hA.pend (by omega)
 have oe:=hA.used (by omega)
 unfold sX
 first|with_reducible refine ks [] @bR ?_|refine kp @bR ?_
 refine Cw.regionO [0,1,2,3,5,6,7,10,11,12,4,8,9,13,14,15,16] [14] rfl (by kernel_rfl) (by kernel_rfl) ?_
 simp only[ar, ↓ap, ↓ag, ↓an, ↓am,ah]
 refine kq (And.intro @bR @rdt) ?_
 refine Ow.callX (X:=X) (Y:= [(bt,tkO t)]) rfl rfl rfl Tryz.call73 (fun w' aB aQ aN=>FV X G S t.dir (az t.name) t.data w' aQ aN hA.P (by omega) (by omega) oe) (fun v4 D4 au aZ=> ?_)
 obtain⟨rfl,m7⟩:=aZ
 refine kq @bR ?_
 first|with_reducible refine ks [] @bR ?_|refine kp @bR ?_
 refine⟨_,(ke @bR), ?_⟩
 exact⟨(Ext.refl w _).came au,rfl,D4,G,List.Perm.refl _,rfl,hA.step m7 (UX S _ _ _) (by omega) (by omega)⟩
theorem Hi (X:aA) (G:DkG) (S:DiskL) (N bt:Nat) (t:TkL) (w:World) (hX: ∀p,p∈X++ [(bt,tkO t)]→w.heap[p.1]? =some p.2) (hn: (keys (X++ [(bt,tkO t)])).Nodup) (hA:DkA X G S N) (hN:N<900000) (hB:TkB t):
  Rets Tryz.prog 198 #[vp bt 0,vp G.bd 0] w (XS w (X++ [(bt,tkO t)]) (PhS G bt (pg t S) (N+1))):=by
 refine Rets.enterX Tryz.func198 rfl (rs:= [.tmp 4, .tmp 5]) Tryz.results198 Tryz.ntmps198 hX hn ?_
 refine kf ?_
 have kA:=(lZ hn).1
 have rdt:=(lZ hn).2 X (tkO t) kA w
 have cH:=uV hB
 have av:t.name.length≤900000:=hB.name
 have gl:=hB.data
 have jl:=hA.pend (by omega)
 have oe:=hA.used (by omega)
 unfold pg
 by_cases hl:t.light=true
 ·rw[if_pos hl]
  first|with_reducible refine ks [] (And.intro @bR (And.intro @rdt (@hl))) ?_|refine kp (And.intro @bR (And.intro @rdt (@hl))) ?_
  refine⟨_,(ke @bR), ?_⟩
  exact⟨Ext.refl w _,rfl,X,G,List.Perm.refl _,rfl,hA.up⟩
 ·rw[if_neg hl]
  have l6:t.light=false:=by simpa using hl
  first|with_reducible refine ks [] (And.intro @bR (And.intro @rdt (@l6))) ?_|refine kp (And.intro @bR (And.intro @rdt (@l6))) ?_
  refine Cw.regionO [0,1,2,3,5,6,7,4,8,9,10,11,12] [10] rfl (by kernel_rfl) (by kernel_rfl) ?_
  simp only[ar, ↓ap, ↓ag, ↓an, ↓am,ah]
  refine kq (And.intro @bR @rdt) ?_
  refine Ow.callX (X:=X) (Y:= [(bt,tkO t)]) rfl rfl rfl Tryz.call20 (fun w' aB aQ aN=>J5 X G S t.dir (az t.name) w' aQ aN hA.P (by omega)) (fun v4 D4 au aZ=> ?_)
  obtain⟨rfl,m7⟩:=aZ
  refine kq @bR ?_
  first|with_reducible refine ks [] @bR ?_|refine kp @bR ?_
  refine⟨_,(ke @bR), ?_⟩
  exact⟨(Ext.refl w _).came au,rfl,D4,G,List.Perm.refl _,rfl,hA.step m7 (xC S _ _ []) (by omega) (Nat.zero_le _)⟩
theorem YS (X:aA) (G:DkG) (S:DiskL) (N bt:Nat) (t:TkL) (w:World) (hX: ∀p,p∈X++ [(bt,tkO t)]→w.heap[p.1]? =some p.2) (hn: (keys (X++ [(bt,tkO t)])).Nodup) (hA:DkA X G S N) (hN:N<900000) (hB:TkB t):
  Rets Tryz.prog 200 #[vp bt 0,vp G.bd 0] w (XS w (X++ [(bt,tkO t)]) (PhS G bt (Cf t S) (N+1))):=by
 refine Rets.enterX Tryz.func200 rfl (rs:= [.tmp 4, .tmp 5]) Tryz.results200 Tryz.ntmps200 hX hn ?_
 refine kf ?_
 have kA:=(lZ hn).1
 have rdt:=(lZ hn).2 X (tkO t) kA w
 have cH:=uV hB
 have av:t.name.length≤900000:=hB.name
 have gl:=hB.data
 have jl:=hA.pend (by omega)
 have oe:=hA.used (by omega)
 unfold Cf
 by_cases hl:t.light=true
 ·rw[if_pos hl]
  first|with_reducible refine ks [] (And.intro @bR (And.intro @rdt (@hl))) ?_|refine kp (And.intro @bR (And.intro @rdt (@hl))) ?_
  refine⟨_,(ke @bR), ?_⟩
  exact⟨Ext.refl w _,rfl,X,G,List.Perm.refl _,rfl,hA.up⟩
 ·rw[if_neg hl]
  have l6:t.light=false:=by simpa using hl
  first|with_reducible refine ks [] (And.intro @bR (And.intro @rdt (@l6))) ?_|refine kp (And.intro @bR (And.intro @rdt (@l6))) ?_
  refine kq (And.intro @bR @rdt) ?_
  refine Ow.callX (X:=X) (Y:= [(bt,tkO t)]) rfl rfl rfl Tryz.call21 (fun w' aB aQ aN=>W2 X G S t.dir w' aQ aN hA.P) (fun v4 D4 au aZ=> ?_)
  obtain⟨rfl,G',bJ,m7⟩:=aZ
  refine kq @bR ?_
  first|with_reducible refine ks [] @bR ?_|refine kp @bR ?_
  refine⟨_,(ke @bR), ?_⟩
  exact⟨(Ext.refl w _).came au,rfl,D4,G',List.Perm.refl _,bJ,hA.step m7 (Uq S _ [] []) (Nat.zero_le _) (Nat.zero_le _)⟩
theorem YG (X:aA) (G:DkG) (S:DiskL) (N bt:Nat) (t:TkL) (w:World) (hX: ∀p,p∈X++ [(bt,tkO t)]→w.heap[p.1]? =some p.2) (hn: (keys (X++ [(bt,tkO t)])).Nodup) (hA:DkA X G S N) (hN:N<900000) (hB:TkB t):
  Rets Tryz.prog 199 #[vp bt 0,vp G.bd 0] w (XS w (X++ [(bt,tkO t)]) (PhS G bt (sJ t S) (N+1))):=by
 refine Rets.enterX Tryz.func199 rfl (rs:= [.tmp 4, .tmp 5]) Tryz.results199 Tryz.ntmps199 hX hn ?_
 refine kf ?_
 have kA:=(lZ hn).1
 have rdt:=(lZ hn).2 X (tkO t) kA w
 have cH:=uV hB
 have av:t.name.length≤900000:=hB.name
 have gl:=hB.data
 have jl:=hA.pend (by omega)
 have oe:=hA.used (by omega)
 unfold sJ
 first|with_reducible refine ks [2] @bR ?_|refine kp @bR ?_
 refine Cw.regionO [0,1,2,3,5,6,7,10,11,12,4,8,9,13,14,15] [14] rfl (by kernel_rfl) (by kernel_rfl) ?_
 simp only[ar, ↓ap, ↓ag, ↓an, ↓am,ah]
 refine kq (And.intro @bR @rdt) ?_
 refine Ow.callX (X:=X) (Y:= [(bt,tkO t)]) rfl rfl rfl Tryz.call76 (fun w' aB aQ aN=>G6 X G S t.dir (az t.name) t.name w' aQ aN hA.P (by omega) (by omega) jl) (fun v4 D4 au aZ=> ?_)
 obtain⟨rfl,G',bJ,m7⟩:=aZ
 refine kq @bR ?_
 refine Cw.permL (M:=(bt,tkO t)::D4) (by classical exact List.perm_iff_count.2 fun a=>by simp only[List.count_append,List.count_cons,List.count_nil]<;>omega) ?_
 have uu:=hA.step m7 (Ue S _ _ _) (by omega) (by omega)
 have hE:=(Ext.refl w (X++ [(bt,tkO t)])).came au
 generalize mV S t.dir (az t.name) t.name=q at*
 obtain⟨S',e⟩:=q
 simp only at uu ⊢
 have hi: ((e:Int) !=0)=(e !=0):=by
  cases e with
  |zero=>rfl
  |succ n=>rfl
 cases hm:t.made with
 |true=>
  rw[Bool.true_and]
  first|with_reducible refine ks [] (And.intro @bR (And.intro @hi (@hm))) ?_|refine kp (And.intro @bR (And.intro @hi (@hm))) ?_
  refine⟨_,(ke @bR), ?_⟩
  exact⟨(hE.perm (List.perm_append_comm (l₁:= [(bt,tkO t)]) (l₂:=D4))).keys rfl,rfl,D4,G',List.perm_append_comm (l₁:=D4) (l₂:= [_]),bJ,uu⟩
 |false=>
  rw[Bool.false_and]
  first|with_reducible refine ks [] (And.intro @bR (And.intro @hi (@hm))) ?_|refine kp (And.intro @bR (And.intro @hi (@hm))) ?_
  refine⟨_,(ke @bR), ?_⟩
  exact⟨(hE.perm (List.perm_append_comm (l₁:= [(bt,tkO t)]) (l₂:=D4))).keys rfl,rfl,D4,G',List.perm_append_comm (l₁:=D4) (l₂:= [_]),bJ,uu⟩
end Go.Proofs
end
section
open Go Go.Proofs Go.Sx Go.StP
namespace Go.Proofs
set_option maxRecDepth 10000
set_option maxHeartbeats 1000000
set_option linter.unusedSimpArgs false
def phF (n:Nat):FuncId:=match n with
 |0=>195
 |1=>196
 |2=>197
 |3=>198
 |4=>199
 |_=>200
def stV:List Value:= [.func (.func (phF 0)) #[] #[], .func (.func (phF 1)) #[] #[], .func (.func (phF 2)) #[] #[], .func (.func (phF 3)) #[] #[], .func (.func (phF 4)) #[] #[], .func (.func (phF 5)) #[] #[]]
def stO:Obj:= .cells stV.toArray 236 (0,0)
theorem Py (n m:Nat) (h:n<6):aF (some (false,m)) (some stO) n=some (.func (.func (phF n)) #[] #[]):=by
 rcases(by omega:n=0∨n=1∨n=2∨n=3∨n=4∨n=5) with rfl|rfl|rfl|rfl|rfl|rfl<;>rfl
theorem Ov (n:Nat) (h:n<6) (X:aA) (G:DkG) (S:DiskL) (N bt:Nat) (t:TkL) (w:World) (hX: ∀p,p∈X++ [(bt,tkO t)]→w.heap[p.1]? =some p.2) (hn: (keys (X++ [(bt,tkO t)])).Nodup) (hA:DkA X G S N) (hN:N<900000) (hB:TkB t):
  Rets Tryz.prog (phF n) #[vp bt 0,vp G.bd 0] w (XS w (X++ [(bt,tkO t)]) (PhS G bt (phT n t S) (N+1))):=by
 rcases(by omega:n=0∨n=1∨n=2∨n=3∨n=4∨n=5) with rfl|rfl|rfl|rfl|rfl|rfl
 ·exact IT X G S N bt t w hX hn hA hN hB
 ·exact YX X G S N bt t w hX hn hA hN hB
 ·exact Yb X G S N bt t w hX hn hA hN hB
 ·exact Hi X G S N bt t w hX hn hA hN hB
 ·exact YG X G S N bt t w hX hn hA hN hB
 ·exact YS X G S N bt t w hX hn hA hN hB
theorem Pn (n:Nat) (h:n<6): ∀a w,(callFunc (phF n) a).run Tryz.prog w= .ok (.enter (phF n) a) w:=by
 rcases(by omega:n=0∨n=1∨n=2∨n=3∨n=4∨n=5) with rfl|rfl|rfl|rfl|rfl|rfl
 ·exact Tryz.call195
 ·exact Tryz.call196
 ·exact Tryz.call197
 ·exact Tryz.call198
 ·exact Tryz.call199
 ·exact Tryz.call200
theorem YH (bt:Nat) (t:TkL) (w:World) (hX:w.heap[bt]? =some (tkO t)):Rets Tryz.prog 166 #[vp bt 0] w (fun v D=>v= .bool t.ended∧D= []):=by
 have cH:=RB bt 0
 refine Rets.enterV Tryz.func166 rfl (rs:= [.tmp 2]) Tryz.results166 Tryz.ntmps166 ?_
 refine kf ?_
 first|with_reducible refine ks [] (And.intro @hX @cH) ?_|refine kp (And.intro @hX @cH) ?_
 refine⟨_,(ke @Nat.add_zero),trivial, ?_⟩
 rfl
theorem Ml:fU (cX Tryz.prog 236) (al Tryz.prog 236) [(0, .func (.func (phF 0)) #[] #[]),(1, .func (.func (phF 1)) #[] #[]),(2, .func (.func (phF 2)) #[] #[]),(3, .func (.func (phF 3)) #[] #[]),(4, .func (.func (phF 4)) #[] #[]),(5, .func (.func (phF 5)) #[] #[])]=some (.agg stV.toArray):=by
 rw[show cX Tryz.prog 236=some [(0,1),(1,1),(2,1),(3,1),(4,1),(5,1)] from id (by kernel_rfl),Tryz.zr236];rfl
theorem CS:ac (some (true,6)) (some (.cells #[.nilFunc, .nilFunc, .nilFunc, .nilFunc, .nilFunc, .nilFunc] 236 (0,0))) 0 (.agg stV.toArray)=some stO:=(rfl)
theorem J6 (w:World):Rets Tryz.prog 167 #[] w (fun v D=>v= .agg stV.toArray∧D= []):=by
 refine Rets.enterV Tryz.func167 rfl (rs:= [.cell 0 236]) Tryz.results167 Tryz.ntmps167 ?_
 refine kf ?_
 first|with_reducible refine ks [] @Nat.add_zero ?_|refine kp @Nat.add_zero ?_
 refine Ow.alloc rfl rfl Tryz.zr236 fun b1 bE aJ=> ?_
 refine ko @Nat.add_zero ?_
 refine Ow.build (.agg stV.toArray) rfl Ml ?_
 refine ko @CS ?_
 first|with_reducible refine ks [] @CS ?_|refine kp @CS ?_
 refine⟨_,(ke @Nat.add_zero),⟨aJ,trivial⟩, ?_⟩
 rfl
set_option linter.defProp false
def bu:=And.intro (And.intro (And.intro (@ay) (@ax)) (And.intro (@yU) (And.intro (@xw) (@yO)))) (And.intro (And.intro (@xy) (And.intro (@yT) (@xx))) (And.intro (@xO) (And.intro (@Sx.tup2_0) (@Sx.tup2_1))))
theorem ibeq (n k:Nat): ((n:Int)==(k:Int))=(n==k):=by
 rw[Bool.eq_iff_iff,beq_iff_eq,beq_iff_eq]
 omega
structure SG where
 lab:Nat
 did:Bool
 e:Nat
 t:TkL
 S:DiskL
 G:DkG
 X:aA
 b8:Nat
 c:Nat
def SJ (w:World) (L0:aA) (n bd bt N:Nat) (R:StR) (g:SG):Prop:=
 Ext w L0 ((bt,tkO g.t):: (g.b8,stO)::g.X)∧(keys ((bt,tkO g.t):: (g.b8,stO)::g.X)).Nodup∧n≤g.b8∧g.G.bd=bd∧DkA g.X g.G g.S (N+g.c)∧TkB g.t∧
 ((g.lab=0∧g.c+ (6 - g.t.next)≤6∧g.t.next<6∧f4 (6 - g.t.next) g.t g.S=R)∨
 (g.lab=1∧g.c≤6∧ ∃r:PhR,g.t=nxT r∧g.S=r.S∧g.e=r.e∧gq r=R))
def SL (g:SG):Nat:=match g.lab with
 |0=>0
 |_=>1
theorem SL0 (a b c d e f g h):SL ⟨0,a,b,c,d,e,f,g,h⟩=0:=rfl
def SS (g:SG):List (Nat×Value):= [(6, .bool g.did),(7,vi (g.e:Nat)),(8,vp g.b8 0)]
def SH (bt:Nat) (g:SG):aA:=(bt,tkO g.t):: (g.b8,stO)::g.X
def StS (G:DkG) (bt:Nat) (R:StR) (N:Nat) (v:Value) (D:aA):Prop:=v= .tuple #[.bool R.done,vi (R.e:Nat)]∧ ∃X' G',(X'++ [(bt,tkO R.t)]).Perm D∧G'.bd=G.bd∧DkA X' G' R.S N
set_option maxHeartbeats 12000000 in
theorem Jc (X:aA) (G:DkG) (S:DiskL) (N bt:Nat) (t:TkL) (w:World) (hX: ∀p,p∈X++ [(bt,tkO t)]→w.heap[p.1]? =some p.2) (hn: (keys (X++ [(bt,tkO t)])).Nodup) (hA:DkA X G S N) (hN:N<800000) (hB:TkB t) (ad:t.ended=false→t.next<6):
  Rets Tryz.prog 129 #[vp bt 0,vp G.bd 0] w (XS w (X++ [(bt,tkO t)]) (StS G bt (fH t S) (N+7))):=by
 refine Rets.enterX Tryz.func129 rfl (rs:= [.tmp 4, .tmp 5]) Tryz.results129 Tryz.ntmps129 hX hn ?_
 refine kf ?_
 have kA:=(lZ hn).1
 have rdt:=(lZ hn).2 X (tkO t) kA w
 unfold fH
 first|with_reducible refine ks [] @bu ?_|refine kp @bu ?_
 refine Cw.scopeL (G:=SG) (fun g=>SL g) [9,10,4,5,6,7,11,8,13,14,15,16,17,18,19,20,21,12,22,23,24,25,26,27,28,29,30,31,32,33,34,35,36,37,38,39,40,41,42,43,44,45,46,47,48,49,50,51,52,53,54,55,56,57,58,59,60,61,62,63,64,65,66,67,68,69,70,71,72,73,74,75,76,77,78,79,80,81,82,83,84,85,86,87,88,89] (fun g=>SS g) (fun g=>SH bt g) (fun g=>SJ w (X++ [(bt,tkO t)]) w.heap.size G.bd bt N (if t.ended=true then⟨false,15,t,S⟩ else f4 (6 - t.next) t S) g) (fun g=>(if g.lab=0 then 6 - g.t.next+1 else 0)) ?_ ?_ ?_
 ·intro g
  unfold SL
  split<;>rfl
 ·intro g j hg
  obtain⟨lab,did,e,t1,S1,G1,X1,b8,c⟩:=g
  obtain⟨hE,av,rB,bJ,bv,dh,hg⟩:=hg
  simp only at hE av rB bJ bv dh hg
  rcases hg with⟨rfl,hc,bW,hR⟩ | ⟨rfl,hc,r,rfl,rfl,rfl,hR⟩
  ·simp only[SL,SS,SH]
   simp only[lm,hasL,Bool.or_false,Bool.false_or,Bool.or_true,Bool.true_or,Nat.reduceBEq,beq_self_eq_true, ↓reduceIte,Bool.false_eq_true]
   refine kv ?_
   try with_reducible refine Uv ?_
   have hk:=av
   simp only[keys,List.map_cons,List.nodup_cons,List.mem_cons,not_or] at hk
   have gM:bt≠b8:=hk.1.1
   have bE:bt∉keys X1:=hk.1.2
   have bG:b8∉keys X1:=hk.2.1
   have rd8: ∀o w,aM w ((bt,o):: (b8,stO)::X1) b8=some stO:=fun o w=>aL (by simp[Sx.look,gM])
   have Wl: ∀m,jX (.arr 6 m) (vp b8 0) (some (t1.next:Int))=some (vp b8 (t1.next*m.2)):=fun m=>by
    rw[W1 _ _ _ _ _ ⟨by omega,by omega⟩];simp
   have qJ: ∀m,aF (some (false,m)) (some stO) t1.next=some (.func (.func (phF t1.next)) #[] #[]):=fun m=>Py _ m bW
   first|with_reducible refine ks [] (And.intro @bu (And.intro @rd8 (And.intro @Wl (@qJ)))) ?_|refine kp (And.intro @bu (And.intro @rd8 (And.intro @Wl (@qJ)))) ?_
   refine Ow.permL (M:=(X1++ [(bt,tkO t1)])++ [(b8,stO)]) (by classical exact List.perm_iff_count.2 fun a=>by simp only[List.count_append,List.count_cons,List.count_nil]<;>omega) ?_
   refine Ow.callFnX2 (X:=X1++ [(bt,tkO t1)]) (Y:= [(b8,stO)]) (b:=vp bt 0) (b2:=vp G.bd 0) rfl rfl rfl rfl rfl rfl (Pn t1.next bW) (fun w' aB aQ aN=>by rw[←bJ];exact Ov t1.next bW X1 G1 S1 (N+c) bt t1 w' aQ aN bv (by omega) dh) (fun v4 D4 au aZ=> ?_)
   obtain⟨rfl,X2,G2,gQ,aX,ai⟩:=aZ
   obtain⟨rR,nt,lW,rU,Dk,ob⟩:=ph t1.next t1 S1
   have fh:TkB (phT t1.next t1 S1).t:=⟨by rw[nt];exact dh.name,by rw[lW];exact dh.data⟩
   have Rs:TkB (nxT (phT t1.next t1 S1)):=⟨fh.name,fh.data⟩
   have WK:TkB (gH (phT t1.next t1 S1)):=⟨fh.name,fh.data⟩
   obtain⟨q,hq⟩: ∃q,6 - t1.next=q+1:=⟨5 - t1.next,by omega⟩
   rw[hq] at hR
   replace hR: (if(phT t1.next t1 S1).e≠0 then gq (phT t1.next t1 S1)
    else if(phT t1.next t1 S1).did=false∧g7 (nxT (phT t1.next t1 S1))=false then f4 q (gH (phT t1.next t1 S1)) (phT t1.next t1 S1).S
    else⟨g7 (nxT (phT t1.next t1 S1)),0,gH (phT t1.next t1 S1),(phT t1.next t1 S1).S⟩)=_:=hR
   generalize phT t1.next t1 S1=r at*
   have Wt: ((bt,tkO r.t):: (b8,stO)::X2).Perm (D4++ [(b8,stO)]):=(by simpa using(List.perm_append_comm (l₁:= [(bt,tkO r.t),(b8,stO)]) (l₂:=X2)): ((bt,tkO r.t):: (b8,stO)::X2).Perm (X2++ [(bt,tkO r.t),(b8,stO)])).trans (by simpa using gQ.append_right [(b8,stO)])
   have bU:Ext w (X++ [(bt,tkO t)]) ((X1++ [(bt,tkO t1)])++ [(b8,stO)]):=hE.perm (by classical exact List.perm_iff_count.2 fun a=>by simp only[List.count_append,List.count_cons,List.count_nil]<;>omega)
   have aj:Ext w (X++ [(bt,tkO t)]) ((bt,tkO r.t):: (b8,stO)::X2):=(Ext.came bU au).perm Wt
   refine Ow.permL Wt ?_
   refine Ow.world fun w9 qa=> ?_
   have uB: (keys ((bt,tkO r.t):: (b8,stO)::X2)).Nodup:=qa.nodup
   have d7: ∀a,ac (some (a,1)) (some (tkO r.t)) 4 (vi ((r.t.next:Int)+1))=some (tkO (nxT r)):=fun a=>wW r.t (r.t.next+1) a
   have hnx2:r.t.next<6:=by omega
   have cv:DkA (X2++ [(b8,stO)]) G2 r.S (N+7):=⟨ai.P.mono (X':=X2++ [(b8,stO)]) fun b o h=>aq h,ai.H,ai.B.mono (by omega)⟩
   refine ko @bu ?_
   by_cases he:r.e=0
   ·have e0: ((r.e:Int) !=0)=false:=by rw[he];rfl
    rw[if_neg (fun h=>h he)] at hR
    have d8: ∀a,ac (some (a,1)) (some (tkO (nxT r))) 6 (.bool (g7 (nxT r)))=some (tkO (gH r)):=fun a=>F9 (nxT r) _ a
    have dq: (gH r).ended=g7 (nxT r):=rfl
    have mB:g7 (nxT r)=((nxT r).next==6|| ((nxT r).light&& (nxT r).next==5)):=rfl
    have i6: (((nxT r).next:Int)==6)=((nxT r).next==6):=ibeq _ 6
    have i5: (((nxT r).next:Int)==5)=((nxT r).next==5):=ibeq _ 5
    cases c6: ((nxT r).next==6) with
    |true=>
     have h9:g7 (nxT r)=true:=by rw[mB,c6];rfl
     rw[c6] at i6
     rw[h9] at d8 dq hR
     rw[if_neg (fun h=>by cases h.2)] at hR
     cases hd:r.did with
     |true=>
      first|with_reducible refine ks [] (And.intro @bu (And.intro @d7 (And.intro @e0 (And.intro @d8 (And.intro @i6 (@dq)))))) ?_|refine kp (And.intro @bu (And.intro @d7 (And.intro @e0 (And.intro @d8 (And.intro @i6 (@dq)))))) ?_
      refine⟨_,(ke @bu), ?_⟩
      rw[←hR]
      exact⟨aj.keys rfl,rfl,X2++ [(b8,stO)],G2,(by classical exact List.perm_iff_count.2 fun a=>by simp only[List.count_append,List.count_cons,List.count_nil]<;>omega),aX.trans bJ,cv⟩
     |false=>
      first|with_reducible refine ks [] (And.intro @bu (And.intro @d7 (And.intro @e0 (And.intro @d8 (And.intro @i6 (@dq)))))) ?_|refine kp (And.intro @bu (And.intro @d7 (And.intro @e0 (And.intro @d8 (And.intro @i6 (@dq)))))) ?_
      refine⟨_,(ke @bu), ?_⟩
      rw[←hR]
      exact⟨aj.keys rfl,rfl,X2++ [(b8,stO)],G2,(by classical exact List.perm_iff_count.2 fun a=>by simp only[List.count_append,List.count_cons,List.count_nil]<;>omega),aX.trans bJ,cv⟩
    |false=>
     have Dj:r.t.next+1≠6:=beq_eq_false_iff_ne.1 c6
     rw[c6] at i6
     cases cl: (nxT r).light with
     |false=>
      have h9:g7 (nxT r)=false:=by rw[mB,c6,cl];rfl
      rw[h9] at d8 dq hR
      cases hd:r.did with
      |true=>
       rw[hd,if_neg (fun h=>by cases h.1)] at hR
       first|with_reducible refine ks [] (And.intro @bu (And.intro @d7 (And.intro @e0 (And.intro @d8 (And.intro @i6 (And.intro @cl (@dq))))))) ?_|refine kp (And.intro @bu (And.intro @d7 (And.intro @e0 (And.intro @d8 (And.intro @i6 (And.intro @cl (@dq))))))) ?_
       refine⟨_,(ke @bu), ?_⟩
       rw[←hR]
       exact⟨aj.keys rfl,rfl,X2++ [(b8,stO)],G2,(by classical exact List.perm_iff_count.2 fun a=>by simp only[List.count_append,List.count_cons,List.count_nil]<;>omega),aX.trans bJ,cv⟩
      |false=>
       rw[hd,if_pos ⟨rfl,rfl⟩] at hR
       first|with_reducible refine ks [] (And.intro @bu (And.intro @d7 (And.intro @e0 (And.intro @d8 (And.intro @i6 (And.intro @cl (@dq))))))) ?_|refine kp (And.intro @bu (And.intro @d7 (And.intro @e0 (And.intro @d8 (And.intro @i6 (And.intro @cl (@dq))))))) ?_
       exact Jump.mk ⟨0,false,r.e,gH r,r.S,G2,X2,b8,c+1⟩ rfl (by show 6 - (r.t.next+1)+1<6 - t1.next+1;omega) ⟨aj.keys rfl,uB,rB,aX.trans bJ,ai,WK, .inl ⟨rfl,by show c+1+ (6 - (r.t.next+1))≤6;omega,by show r.t.next+1<6;omega,by show f4 (6 - (r.t.next+1)) _ _=_;rw[show 6 - (r.t.next+1)=q by omega];exact hR⟩⟩ rfl rfl
     |true=>
      cases c5: ((nxT r).next==5) with
      |true=>
       have h9:g7 (nxT r)=true:=by rw[mB,c6,cl,c5];rfl
       rw[c5] at i5
       rw[h9] at d8 dq hR
       rw[if_neg (fun h=>by cases h.2)] at hR
       cases hd:r.did with
       |true=>
        first|with_reducible refine ks [] (And.intro @bu (And.intro @d7 (And.intro @e0 (And.intro @d8 (And.intro @i6 (And.intro @i5 (And.intro @cl (@dq)))))))) ?_|refine kp (And.intro @bu (And.intro @d7 (And.intro @e0 (And.intro @d8 (And.intro @i6 (And.intro @i5 (And.intro @cl (@dq)))))))) ?_
        refine⟨_,(ke @bu), ?_⟩
        rw[←hR]
        exact⟨aj.keys rfl,rfl,X2++ [(b8,stO)],G2,(by classical exact List.perm_iff_count.2 fun a=>by simp only[List.count_append,List.count_cons,List.count_nil]<;>omega),aX.trans bJ,cv⟩
       |false=>
        first|with_reducible refine ks [] (And.intro @bu (And.intro @d7 (And.intro @e0 (And.intro @d8 (And.intro @i6 (And.intro @i5 (And.intro @cl (@dq)))))))) ?_|refine kp (And.intro @bu (And.intro @d7 (And.intro @e0 (And.intro @d8 (And.intro @i6 (And.intro @i5 (And.intro @cl (@dq)))))))) ?_
        refine⟨_,(ke @bu), ?_⟩
        rw[←hR]
        exact⟨aj.keys rfl,rfl,X2++ [(b8,stO)],G2,(by classical exact List.perm_iff_count.2 fun a=>by simp only[List.count_append,List.count_cons,List.count_nil]<;>omega),aX.trans bJ,cv⟩
      |false=>
       have h9:g7 (nxT r)=false:=by rw[mB,c6,cl,c5];rfl
       rw[c5] at i5
       rw[h9] at d8 dq hR
       cases hd:r.did with
       |true=>
        rw[hd,if_neg (fun h=>by cases h.1)] at hR
        first|with_reducible refine ks [] (And.intro @bu (And.intro @d7 (And.intro @e0 (And.intro @d8 (And.intro @i6 (And.intro @i5 (And.intro @cl (@dq)))))))) ?_|refine kp (And.intro @bu (And.intro @d7 (And.intro @e0 (And.intro @d8 (And.intro @i6 (And.intro @i5 (And.intro @cl (@dq)))))))) ?_
        refine⟨_,(ke @bu), ?_⟩
        rw[←hR]
        exact⟨aj.keys rfl,rfl,X2++ [(b8,stO)],G2,(by classical exact List.perm_iff_count.2 fun a=>by simp only[List.count_append,List.count_cons,List.count_nil]<;>omega),aX.trans bJ,cv⟩
       |false=>
        rw[hd,if_pos ⟨rfl,rfl⟩] at hR
        first|with_reducible refine ks [] (And.intro @bu (And.intro @d7 (And.intro @e0 (And.intro @d8 (And.intro @i6 (And.intro @i5 (And.intro @cl (@dq)))))))) ?_|refine kp (And.intro @bu (And.intro @d7 (And.intro @e0 (And.intro @d8 (And.intro @i6 (And.intro @i5 (And.intro @cl (@dq)))))))) ?_
        exact Jump.mk ⟨0,false,r.e,gH r,r.S,G2,X2,b8,c+1⟩ rfl (by show 6 - (r.t.next+1)+1<6 - t1.next+1;omega) ⟨aj.keys rfl,uB,rB,aX.trans bJ,ai,WK, .inl ⟨rfl,by show c+1+ (6 - (r.t.next+1))≤6;omega,by show r.t.next+1<6;omega,by show f4 (6 - (r.t.next+1)) _ _=_;rw[show 6 - (r.t.next+1)=q by omega];exact hR⟩⟩ rfl rfl
   ·have e0: ((r.e:Int) !=0)=true:=by
     rw[bne_iff_ne];omega
    rw[if_pos he] at hR
    first|with_reducible refine ks [] (And.intro @bu (And.intro @d7 (@e0))) ?_|refine kp (And.intro @bu (And.intro @d7 (@e0))) ?_
    exact Jump.mk ⟨1,r.did,r.e,nxT r,r.S,G2,X2,b8,c+1⟩ rfl (by show 0<6 - t1.next+1;omega) ⟨aj.keys rfl,uB,rB,aX.trans bJ,ai,Rs, .inr ⟨rfl,by show c+1≤6;omega,r,rfl,rfl,rfl,hR⟩⟩ rfl rfl
  ·simp only[SL,SS,SH]
   simp only[lm,hasL,Bool.or_false,Bool.false_or,Bool.or_true,Bool.true_or,Nat.reduceBEq,beq_self_eq_true, ↓reduceIte,Bool.false_eq_true]
   refine kv ?_
   try with_reducible refine Uv ?_
   have hk:=av
   simp only[keys,List.map_cons,List.nodup_cons,List.mem_cons,not_or] at hk
   have gM:bt≠b8:=hk.1.1
   have bE:bt∉keys X1:=hk.1.2
   have bG:b8∉keys X1:=hk.2.1
   have rd8: ∀o w,aM w ((bt,o):: (b8,stO)::X1) b8=some stO:=fun o w=>aL (by simp[Sx.look,gM])
   obtain⟨T1,vA⟩: ∃T1,T1=({nxT r with ended:=true}:TkL):=⟨_,rfl⟩
   have bQ: ∀a,ac (some (a,1)) (some (tkO (nxT r))) 6 (.bool true)=some (tkO T1):=fun a=>by rw[vA];exact F9 (nxT r) true a
   have d1:T1.dir=r.t.dir:=by rw[vA];rfl
   have d2:T1.name=r.t.name:=by rw[vA];rfl
   have d3:T1.made=(nxT r).made:=by rw[vA]
   have hnd1:T1.name.length≤900000:=by rw[d2];exact dh.name
   have hBT: (az T1.name).length≤900004:=by rw[d2];exact uV (t:=nxT r) dh
   have cv:DkA (X1++ [(b8,stO)]) G1 r.S (N+7):=⟨bv.P.mono (X':=X1++ [(b8,stO)]) fun b o h=>aq h,bv.H,bv.B.mono (by omega)⟩
   by_cases hm: (nxT r).made=true∧r.e≠9
   ·have m1:T1.made=true:=d3.trans hm.1
    have e9: ((r.e:Int) !=9)=true:=by
     rw[bne_iff_ne]
     have:=hm.2
     omega
    have hw:gq r=⟨false,r.e,T1,(dp r.S T1.dir (az T1.name)).1⟩:=by
     unfold gq
     rw[if_pos hm,d1,d2,vA]
    first|with_reducible refine ks [] (And.intro @bu (And.intro @bQ (And.intro @m1 (@e9)))) ?_|refine kp (And.intro @bu (And.intro @bQ (And.intro @m1 (@e9)))) ?_
    refine Cw.permL (M:=X1++ [(bt,tkO T1),(b8,stO)]) (by classical exact List.perm_iff_count.2 fun a=>by simp only[List.count_append,List.count_cons,List.count_nil]<;>omega) ?_
    have rdT:aM w (X1++ [(bt,tkO T1),(b8,stO)]) bt=some (tkO T1):=aL (by rw[iB bE];simp[Sx.look])
    have BW:=fun(w':World) (aQ: ∀p,p∈X1→w'.heap[p.1]? =some p.2) (aN: (keys X1).Nodup)=>UG X1 G1 r.S T1.dir (az T1.name) w' aQ aN bv.P (by omega) (bv.pend (by omega))
    simp only[bJ] at BW
    refine Cw.regionO [0,1,2,3,5,6,7,4,8,9,10] [10] rfl (by kernel_rfl) (by kernel_rfl) ?_
    simp only[ar, ↓ap, ↓ag, ↓an, ↓am,ah]
    refine kq (And.intro @bu @rdT) ?_
    refine Ow.callX (X:=X1) (Y:= [(bt,tkO T1),(b8,stO)]) rfl rfl rfl Tryz.call77 (fun w' aB aQ aN=>BW w' aQ aN) (fun v4 D4 au aZ=> ?_)
    obtain⟨rfl,G',SU,m7⟩:=aZ
    refine kq @bu ?_
    first|with_reducible refine ks [] @bu ?_|refine kp @bu ?_
    refine⟨_,(ke @bu), ?_⟩
    rw[←hR,hw]
    have jE:=bv.step m7 (UN r.S T1.dir (az T1.name) []) (by omega) (Nat.zero_le _)
    have bU:Ext w (X++ [(bt,tkO t)]) (X1++ [(bt,tkO T1),(b8,stO)]):=(hE.keys (D':=(bt,tkO T1):: (b8,stO)::X1) rfl).perm (by classical exact List.perm_iff_count.2 fun a=>by simp only[List.count_append,List.count_cons,List.count_nil]<;>omega)
    exact⟨bU.came au,rfl,D4++ [(b8,stO)],G',(by classical exact List.perm_iff_count.2 fun a=>by simp only[List.count_append,List.count_cons,List.count_nil]<;>omega),SU,jE.P.mono (X':=D4++ [(b8,stO)]) fun b o h=>aq h,jE.H,jE.B.mono (by omega)⟩
   ·have hw:gq r=⟨false,r.e,T1,r.S⟩:=by
     unfold gq
     rw[if_neg hm,vA]
    by_cases eO: (nxT r).made=true
    ·have h9:r.e=9:=Decidable.byContradiction fun h=>hm ⟨eO,h⟩
     have m1:T1.made=true:=d3.trans eO
     have e9: ((r.e:Int) !=9)=false:=by rw[h9];rfl
     first|with_reducible refine ks [] (And.intro @bu (And.intro @bQ (And.intro @m1 (@e9)))) ?_|refine kp (And.intro @bu (And.intro @bQ (And.intro @m1 (@e9)))) ?_
     refine⟨_,(ke @bu), ?_⟩
     rw[←hR,hw]
     exact⟨hE.keys rfl,rfl,X1++ [(b8,stO)],G1,(by classical exact List.perm_iff_count.2 fun a=>by simp only[List.count_append,List.count_cons,List.count_nil]<;>omega),bJ,cv⟩
    ·have m1:T1.made=false:=d3.trans (by simpa using eO)
     first|with_reducible refine ks [] (And.intro @bu (And.intro @bQ (@m1))) ?_|refine kp (And.intro @bu (And.intro @bQ (@m1))) ?_
     refine⟨_,(ke @bu), ?_⟩
     rw[←hR,hw]
     exact⟨hE.keys rfl,rfl,X1++ [(b8,stO)],G1,(by classical exact List.perm_iff_count.2 fun a=>by simp only[List.count_append,List.count_cons,List.count_nil]<;>omega),bJ,cv⟩
 ·intro key
  repeat ((try with_reducible refine Cw.go [999999] ?_);(simp(disch:=(first|assumption|omega| (simp only[fM,fL,UInt64.reduceToNat];try omega))) only[↓Sx.S0,Sx.S1,Tryz.fx,bu,Nat.reduceAdd,Nat.reducePow,Int.reducePow,Nat.reduceBEq, ↓reduceIte,UInt8.reduceToNat,UInt16.reduceToNat,UInt32.reduceToNat,UInt64.reduceToNat,Int.reduceToNat]))
  refine Ow.callFV rfl Tryz.call166 (fun w' aB=>YH bt t w' (aB.has _ _ (List.mem_append_right _ (List.mem_singleton.2 rfl)))) ?_
  have htf:t.ended=true∨t.ended=false:=by cases t.ended<;>simp
  rcases htf with rZ|rZ
  ·refine ko (And.intro @bu @rZ) ?_
   repeat ((try with_reducible refine Cw.go [999999] ?_);(simp(disch:=(first|assumption|omega| (simp only[fM,fL,UInt64.reduceToNat];try omega))) only[↓Sx.S0,Sx.S1,Tryz.fx,bu,Nat.reduceAdd,Nat.reducePow,Int.reducePow,Nat.reduceBEq, ↓reduceIte,UInt8.reduceToNat,UInt16.reduceToNat,UInt32.reduceToNat,UInt64.reduceToNat,Int.reduceToNat,rZ]))
   refine⟨_,(ke @bu), ?_⟩
   rw[if_pos rZ]
   exact⟨Ext.refl w _,rfl,X,G,List.Perm.refl _,rfl,hA.P,hA.H,hA.B.mono (by omega)⟩
  ·have oV: (if t.ended=true then(⟨false,15,t,S⟩:StR) else f4 (6 - t.next) t S)=f4 (6 - t.next) t S:=by rw[if_neg (by rw[rZ];simp)]
   refine ko (And.intro @bu @rZ) ?_
   repeat ((try with_reducible refine Cw.go [999999] ?_);(simp(disch:=(first|assumption|omega| (simp only[fM,fL,UInt64.reduceToNat];try omega))) only[↓Sx.S0,Sx.S1,Tryz.fx,bu,Nat.reduceAdd,Nat.reducePow,Int.reducePow,Nat.reduceBEq, ↓reduceIte,UInt8.reduceToNat,UInt16.reduceToNat,UInt32.reduceToNat,UInt64.reduceToNat,Int.reduceToNat,rZ]))
   refine Ow.callFV rfl Tryz.call167 (fun w' aB=>J6 w') ?_
   refine ko @bu ?_
   repeat ((try with_reducible refine Cw.go [999999] ?_);(simp(disch:=(first|assumption|omega| (simp only[fM,fL,UInt64.reduceToNat];try omega))) only[↓Sx.S0,Sx.S1,Tryz.fx,bu,Nat.reduceAdd,Nat.reducePow,Int.reducePow,Nat.reduceBEq, ↓reduceIte,UInt8.reduceToNat,UInt16.reduceToNat,UInt32.reduceToNat,UInt64.reduceToNat,Int.reduceToNat]))
   refine Ow.alloc rfl rfl Tryz.zr236 fun b8 rB Dr=> ?_
   rw[bL]
   refine Ow.permL (M:=(b8, .cells #[.nilFunc, .nilFunc, .nilFunc, .nilFunc, .nilFunc, .nilFunc] 236 (0,0)):: (X++ [(bt,tkO t)])) (by classical exact List.perm_iff_count.2 fun a=>by simp only[List.count_append,List.count_cons,List.count_nil]<;>omega) ?_
   refine ko (And.intro @bu @CS) ?_
   repeat ((try with_reducible refine Cw.go [999999] ?_);(simp(disch:=(first|assumption|omega| (simp only[fM,fL,UInt64.reduceToNat];try omega))) only[↓Sx.S0,Sx.S1,Tryz.fx,bu,Nat.reduceAdd,Nat.reducePow,Int.reducePow,Nat.reduceBEq, ↓reduceIte,UInt8.reduceToNat,UInt16.reduceToNat,UInt32.reduceToNat,UInt64.reduceToNat,Int.reduceToNat]))
   refine Cw.permL (M:=(bt,tkO t):: (b8,stO)::X) (by classical exact List.perm_iff_count.2 fun a=>by simp only[List.count_append,List.count_cons,List.count_nil]<;>omega) ?_
   refine Cw.world fun w9 qa=> ?_
   have TR:=qa.nodup
   have key0:=fun f'=>key (⟨0,false,0,t,S,G,X,b8,0⟩) f'
   simp only[lm,hasL,Bool.or_false,Bool.false_or,Bool.or_true,Bool.true_or,Nat.reduceBEq,beq_self_eq_true, ↓reduceIte,Bool.false_eq_true] at key0
   clear key
   simp only[SL0,lm,hasL,Bool.or_false,Bool.false_or,Bool.or_true,Bool.true_or,Nat.reduceBEq,beq_self_eq_true, ↓reduceIte,Bool.false_eq_true] at key0
   refine Cw.label ?_
   refine key0 _ ?_ ?_
   ·refine⟨(((Ext.refl w (X++ [(bt,tkO t)])).app (o:=stO) Dr).perm (by classical exact List.perm_iff_count.2 fun a=>by simp only[List.count_append,List.count_cons,List.count_nil]<;>omega)),TR,Dr,rfl,hA,hB, .inl ⟨rfl,by show 0+ (6 - t.next)≤6;omega,ad rZ,oV.symm⟩⟩
   ·rfl
end Go.Proofs
end
section
open Go Go.Proofs Go.Sx Go.StP
namespace Go.Proofs
set_option maxRecDepth 10000
set_option maxHeartbeats 1000000
set_option linter.unusedSimpArgs false
theorem sV: ∀ (f:Nat) (t:TkL) (S:DiskL),(f4 f t S).t.name=t.name∧(f4 f t S).t.data=t.data
 |0,_,_=>⟨rfl,rfl⟩
 |f+1,t,S=>by
  obtain⟨-,h2,h3,-⟩:=ph t.next t S
  have hw: (gq (phT t.next t S)).t.name=t.name∧(gq (phT t.next t S)).t.data=t.data:=by
   unfold gq
   split<;>exact⟨h2,h3⟩
  obtain⟨-,f2,f3,-⟩:=ym t.next t S
  have ih:=sV f (gH (phT t.next t S)) (phT t.next t S).S
  rw[f2,f3] at ih
  unfold f4
  split
  ·exact hw
  ·split
   ·exact ih
   ·exact⟨f2,f3⟩
theorem Pz {t:TkL} (h:TkB t) (S:DiskL):TkB (fH t S).t:=by
 unfold fH
 split
 ·exact h
 ·exact⟨by rw[(sV _ t S).1];exact h.name,by rw[(sV _ t S).2];exact h.data⟩
theorem Kw {t:TkL} {S:DiskL} (he:t.ended=false) (hn:t.next<6): ((fH t S).done=true∨(fH t S).e≠0)∨((fH t S).t.ended=false∧t.next< (fH t S).t.next∧(fH t S).t.next<6):=by
 have hs:fH t S=f4 (6 - t.next) t S:=by unfold fH;rw[if_neg (by rw[he];simp)]
 rw[hs]
 rcases sQ (6 - t.next) t S (by omega) (by omega) with⟨h1,-⟩ | ⟨-,h2,-⟩ | ⟨-,-,h3,h4,h5,-⟩
 ·exact .inl (.inr h1)
 ·exact .inl (.inl h2)
 ·exact .inr ⟨h3,h4,h5⟩
theorem Qg (f:Nat) (t:TkL) (S:DiskL):runG (f+1) t S=(if(fH t S).done=true∨(fH t S).e≠0 then((fH t S).e,(fH t S).t,(fH t S).S) else runG f (fH t S).t (fH t S).S):=rfl
set_option linter.defProp false
def lG:=And.intro (And.intro (@ay) (@ax)) (And.intro (@Sx.tup2_0) (@Sx.tup2_1))
structure RnG where
 f:Nat
 t:TkL
 S:DiskL
 G:DkG
 X:aA
def RnS (G:DkG) (bt:Nat) (R:Nat×TkL×DiskL) (N:Nat) (v:Value) (D:aA):Prop:=v=vi (R.1:Nat)∧ ∃X' G',(X'++ [(bt,tkO R.2.1)]).Perm D∧G'.bd=G.bd∧DkA X' G' R.2.2 N
theorem yQ (X:aA) (G:DkG) (S:DiskL) (N bt:Nat) (t:TkL) (w:World) (hX: ∀p,p∈X++ [(bt,tkO t)]→w.heap[p.1]? =some p.2) (hn: (keys (X++ [(bt,tkO t)])).Nodup) (hA:DkA X G S N) (hN:N<700000) (hB:TkB t) (he:t.ended=false) (ad:t.next<6):
  Rets Tryz.prog 94 #[vp G.bd 0,vp bt 0] w (XS w (X++ [(bt,tkO t)]) (RnS G bt (runG 6 t S) (N+42))):=by
 refine Rets.enterX Tryz.func94 rfl (rs:= [.tmp 4]) Tryz.results94 Tryz.ntmps94 hX hn ?_
 refine kf ?_
 first|with_reducible refine ks [] @lG ?_|refine kp @lG ?_
 refine Cw.loopG (G:=RnG) [8,9,10,7,11,12,5,6,13,14,15,16,17,18,4] (fun g=> []) (fun g=>g.X++ [(bt,tkO g.t)]) (fun g=>runG g.f g.t g.S=runG 6 t S∧6 - g.t.next≤g.f∧g.t.ended=false∧g.t.next<6∧g.G.bd=G.bd∧DkA g.X g.G g.S (N+7* (6 - g.f))∧TkB g.t∧g.f≤6∧Ext w (X++ [(bt,tkO t)]) (g.X++ [(bt,tkO g.t)])) (fun g=>g.f) ⟨6,t,S,G,X⟩ rfl rfl ?_ ?_
 ·exact⟨rfl,by show 6 - t.next≤6;omega,he,ad,rfl,hA,hB,Nat.le_refl 6,Ext.refl w _⟩
 ·intro g j hg
  refine kv ?_
  obtain⟨f,t1,S1,G1,X1⟩:=g
  obtain⟨hR,hf,mB,bW,bJ,bv,dh,hf6,hE⟩:=hg
  simp only at hR hf mB bW bJ bv dh hf6 hE
  obtain⟨f,rfl⟩: ∃q,f=q+1:=⟨f - 1,by omega⟩
  rw[Qg] at hR
  first|with_reducible refine ks [] @lG ?_|refine kp @lG ?_
  have BW:=fun(w':World) (aQ: ∀p,p∈X1++ [(bt,tkO t1)]→w'.heap[p.1]? =some p.2) (aN: (keys (X1++ [(bt,tkO t1)])).Nodup)=>Jc X1 G1 S1 (N+7* (6 - (f+1))) bt t1 w' aQ aN bv (by omega) dh (fun _=>bW)
  simp only[bJ] at BW
  refine Ow.callX (X:=X1++ [(bt,tkO t1)]) (Y:= []) (List.append_nil _).symm rfl rfl Tryz.call129 (fun w' aB aQ aN=>BW w' aQ aN) (fun v4 D4 au aZ=> ?_)
  obtain⟨rfl,X2,G2,gQ,aX,ai⟩:=aZ
  rw[List.append_nil]
  have aj:=(hE.came0 au).perm gQ
  have bQ:=Kw (S:=S1) mB bW
  have hsB:=Pz dh S1
  refine Ow.permL gQ ?_
  generalize fH t1 S1=r at*
  have cv:DkA X2 G2 r.S (N+42):=⟨ai.P,ai.H,ai.B.mono (by omega)⟩
  by_cases hd:r.done=true
  ·rw[if_pos (.inl hd)] at hR
   refine ko (And.intro @lG @hd) ?_
   first|with_reducible refine ks [] (And.intro @lG @hd) ?_|refine kp (And.intro @lG @hd) ?_
   refine⟨_,(ke @lG), ?_⟩
   rw[←hR]
   exact⟨aj,rfl,X2,G2,List.Perm.refl _,aX.trans bJ,cv⟩
  ·have fF:r.done=false:=by simpa using hd
   by_cases oT:r.e=0
   ·have e0: ((r.e:Int) !=0)=false:=by rw[oT];rfl
    rw[if_neg (fun h=>by rcases h with h|h;exact hd h;exact h oT)] at hR
    obtain⟨s1,s2,s3⟩:=bQ.resolve_left (fun h=>by rcases h with h|h;exact hd h;exact h oT)
    refine ko (And.intro @lG (And.intro @fF (@e0))) ?_
    first|with_reducible refine ks [] (And.intro @lG (And.intro @fF (@e0))) ?_|refine kp (And.intro @lG (And.intro @fF (@e0))) ?_
    exact Again.mk ⟨f,r.t,r.S,G2,X2⟩ (Nat.lt_succ_self f) ⟨hR,by show 6 - r.t.next≤f;omega,s1,s3,aX.trans bJ,⟨ai.P,ai.H,ai.B.mono (by show _≤N+7* (6 - f);omega)⟩,hsB,by show f≤6;omega,aj⟩ rfl rfl
   ·have e0: ((r.e:Int) !=0)=true:=by
     rw[bne_iff_ne];omega
    rw[if_pos (.inr oT)] at hR
    refine ko (And.intro @lG (And.intro @fF (@e0))) ?_
    first|with_reducible refine ks [] (And.intro @lG (And.intro @fF (@e0))) ?_|refine kp (And.intro @lG (And.intro @fF (@e0))) ?_
    refine⟨_,(ke @lG), ?_⟩
    rw[←hR]
    exact⟨aj,rfl,X2,G2,List.Perm.refl _,aX.trans bJ,cv⟩
end Go.Proofs
end
section
open Go Go.Proofs Go.Sx Go.StP
namespace Go.Proofs
set_option maxRecDepth 10000
set_option maxHeartbeats 400000
set_option linter.unusedSimpArgs false
theorem Ny (dir name data:List UInt8) (light:Bool):fU (cX Tryz.prog 193) (al Tryz.prog 193) [(0,vs dir),(1,vs name),(2,vs data),(3, .bool light)]=some (.agg #[vs dir,vs name,vs data, .bool light,vi 0, .bool false, .bool false]):=by
 rw[show cX Tryz.prog 193=some [(0,1),(1,1),(2,1),(3,1),(4,1),(5,1),(6,1)] from id (by kernel_rfl),Tryz.zr193];rfl
theorem Ul (dir name data:List UInt8) (light:Bool) (w:World):
  Rets Tryz.prog 95 #[vs dir,vs name,vs data, .bool light] w (fun v D=> ∃b,w.heap.size≤b∧v=vp b 0∧D= [(b,tkO (tk0 dir name data light))]):=by
 refine Rets.enter Tryz.func95 rfl (rs:= [.tmp 8]) Tryz.results95 Tryz.ntmps95 ?_
 refine kf ?_
 first|with_reducible refine ks [] @Nat.add_zero ?_|refine kp @Nat.add_zero ?_
 refine Ow.build (.agg #[vs dir,vs name,vs data, .bool light,vi 0, .bool false, .bool false]) rfl (Ny dir name data light) ?_
 refine Ow.box rfl rfl fun b1 bE aJ=> ?_
 refine ko @Nat.add_zero ?_
 first|with_reducible refine ks [] @Nat.add_zero ?_|refine kp @Nat.add_zero ?_
 exact⟨_,rfl,b1,aJ,rfl,rfl⟩
end Go.Proofs
end
section
open Go Go.Proofs Go.Sx Go.StP
namespace Go.Proofs
set_option maxRecDepth 10000
set_option maxHeartbeats 1000000
set_option linter.unusedSimpArgs false
def PubS (G:DkG) (R:Nat×DiskL) (N:Nat) (v:Value) (D:aA):Prop:=v=vi (R.1:Nat)∧ ∃G',G'.bd=G.bd∧DkA D G' R.2 N
theorem VL (X:aA) (G:DkG) (S:DiskL) (N:Nat) (dir name data:List UInt8) (w:World) (hX: ∀p,p∈X→w.heap[p.1]? =some p.2) (hn: (keys X).Nodup) (hA:DkA X G S N) (hN:N<700000) (eF:name.length≤900000) (lS:data.length≤1000000):
  Rets Tryz.prog 38 #[vp G.bd 0,vs dir,vs name,vs data] w (XS w X (PubS G (iT S dir name data false) (N+42))):=by
 have hB:TkB (tk0 dir name data false):=⟨eF,lS⟩
 refine Rets.enterX Tryz.func38 rfl (rs:= [.tmp 8]) Tryz.results38 Tryz.ntmps38 hX hn ?_
 refine kf ?_
 first|with_reducible refine ks [] @Nat.add_zero ?_|refine kp @Nat.add_zero ?_
 refine Ow.callF rfl rfl Tryz.call95 (S:=fun B v D=> ∃b',B≤b'∧v=vp b' 0∧D= [(b',tkO (tk0 dir name data false))]) (fun w' aB=>Ul dir name data false w') ?_
 rintro B v D jF pu ⟨b1,bE,rfl,rfl⟩
 refine⟨_,Mrg.fresh (by intro q hq;simp only[keys,List.map_cons,List.map_nil,List.mem_singleton] at hq;omega), ?_⟩
 refine Ow.callX (X:=X++ [(b1,tkO (tk0 dir name data false))]) (Y:= []) (List.append_nil _).symm rfl rfl Tryz.call94 (fun w' aB aQ aN=>yQ X G S N b1 (tk0 dir name data false) w' aQ aN hA hN hB rfl (Nat.succ_pos 5)) (fun v4 D4 au aZ=> ?_)
 obtain⟨rfl,X2,G2,gQ,aX,ai⟩:=aZ
 rw[List.append_nil]
 have aj:=(((Ext.refl w X).app (o:=tkO (tk0 dir name data false)) (by omega)).came0 au).perm gQ
 refine Ow.permL gQ ?_
 have hr:=yq S dir name data false
 rw[←hr]
 refine ko @Nat.add_zero ?_
 first|with_reducible refine ks [] @Nat.add_zero ?_|refine kp @Nat.add_zero ?_
 refine⟨_,(ke @Nat.add_zero), ?_⟩
 exact⟨aj,rfl,G2,aX,ai.P.mono fun b o h=>aq h,ai.H,ai.B⟩
theorem Uh (X:aA) (G:DkG) (S:DiskL) (N:Nat) (dir name data:List UInt8) (w:World) (hX: ∀p,p∈X→w.heap[p.1]? =some p.2) (hn: (keys X).Nodup) (hA:DkA X G S N) (hN:N<700000) (eF:name.length≤900000) (lS:data.length≤1000000):
  Rets Tryz.prog 39 #[vp G.bd 0,vs dir,vs name,vs data] w (XS w X (PubS G (iT S dir name data true) (N+42))):=by
 have hB:TkB (tk0 dir name data true):=⟨eF,lS⟩
 refine Rets.enterX Tryz.func39 rfl (rs:= [.tmp 8]) Tryz.results39 Tryz.ntmps39 hX hn ?_
 refine kf ?_
 first|with_reducible refine ks [] @Nat.add_zero ?_|refine kp @Nat.add_zero ?_
 refine Ow.callF rfl rfl Tryz.call95 (S:=fun B v D=> ∃b',B≤b'∧v=vp b' 0∧D= [(b',tkO (tk0 dir name data true))]) (fun w' aB=>Ul dir name data true w') ?_
 rintro B v D jF pu ⟨b1,bE,rfl,rfl⟩
 refine⟨_,Mrg.fresh (by intro q hq;simp only[keys,List.map_cons,List.map_nil,List.mem_singleton] at hq;omega), ?_⟩
 refine Ow.callX (X:=X++ [(b1,tkO (tk0 dir name data true))]) (Y:= []) (List.append_nil _).symm rfl rfl Tryz.call94 (fun w' aB aQ aN=>yQ X G S N b1 (tk0 dir name data true) w' aQ aN hA hN hB rfl (Nat.succ_pos 5)) (fun v4 D4 au aZ=> ?_)
 obtain⟨rfl,X2,G2,gQ,aX,ai⟩:=aZ
 rw[List.append_nil]
 have aj:=(((Ext.refl w X).app (o:=tkO (tk0 dir name data true)) (by omega)).came0 au).perm gQ
 refine Ow.permL gQ ?_
 have hr:=yq S dir name data true
 rw[←hr]
 refine ko @Nat.add_zero ?_
 first|with_reducible refine ks [] @Nat.add_zero ?_|refine kp @Nat.add_zero ?_
 refine⟨_,(ke @Nat.add_zero), ?_⟩
 exact⟨aj,rfl,G2,aX,ai.P.mono fun b o h=>aq h,ai.H,ai.B⟩
end Go.Proofs
end
section
open Go Go.Proofs Go.Sx Go.StP
namespace Go.Proofs
set_option maxRecDepth 10000
set_option maxHeartbeats 400000
set_option linter.unusedSimpArgs false
def mW (s:List UInt8):Bool:=decide (4≤s.length)&&s.drop (s.length - 4)== [46,116,109,112]
def fI (dir:List UInt8):List (List UInt8)→Nat→DiskL→Nat×Nat×DiskL
 | [],n,S=>(n,0,S)
 |s::l,n,S=>if mW s=true then(if(dp S dir s).2≠0 then(n,(dp S dir s).2,(dp S dir s).1) else fI dir l (n+1) (dp S dir s).1) else fI dir l n S
def kU (dir:List UInt8) (n:Nat) (S:DiskL):Nat×Nat×DiskL:=
 if(fI dir (dW S dir) n S).2.1≠0∨(fI dir (dW S dir) n S).1=n then fI dir (dW S dir) n S else((fI dir (dW S dir) n S).1,(fC (fI dir (dW S dir) n S).2.2 dir).2,(fC (fI dir (dW S dir) n S).2.2 dir).1)
def ul:Nat→Nat→Nat→DiskL→Nat×Nat×DiskL
 |0,_,n,S=>(n,0,S)
 |f+1,k,n,S=>if(kU (aH k) n S).2.1≠0 then kU (aH k) n S else ul f (k+1) (kU (aH k) n S).1 (kU (aH k) n S).2.2
def qx (S:DiskL):Nat×Nat×DiskL:=ul 3 0 0 S
theorem Vp {dir:List UInt8} {l:List (List UInt8)} {i:Nat} (h:i<l.length) (n:Nat) (S:DiskL):fI dir (l.drop i) n S=if mW (l.getD i [])=true then(if(dp S dir (l.getD i [])).2≠0 then(n,(dp S dir (l.getD i [])).2,(dp S dir (l.getD i [])).1) else fI dir (l.drop (i+1)) (n+1) (dp S dir (l.getD i [])).1) else fI dir (l.drop (i+1)) n S:=by
 rw[List.drop_eq_getElem_cons h,List.getD_eq_getElem?_getD,List.getElem?_eq_getElem h]
 rfl
theorem VS {dir:List UInt8} {l:List (List UInt8)} (n:Nat) (S:DiskL):fI dir (l.drop l.length) n S=(n,0,S):=by
 rw[List.drop_length];rfl
theorem y3 (f k n:Nat) (S:DiskL):ul (f+1) k n S=(if(kU (aH k) n S).2.1≠0 then kU (aH k) n S else ul f (k+1) (kU (aH k) n S).1 (kU (aH k) n S).2.2):=rfl
theorem zC {S:DiskL} (hB:DkB S) (dir:List UInt8): (dW S dir).length≤1000000∧ ∀s,s∈dW S dir→s.length≤1000000:=by
 unfold dW
 split
 ·exact⟨Nat.zero_le _,fun s hs=>by cases hs⟩
 ·rename_i h
  obtain⟨k,hk,-⟩:=DH (S:=S) (dir:=dir) (names:= []) (by omega)
  rw[hk]
  have aa:=(g5 hk).1
  refine⟨by rw[List.length_map];exact(hB k aa).1,fun s hs=> ?_⟩
  obtain⟨p,hp,rfl⟩:=List.mem_map.1 hs
  exact(hB k aa).2 p hp
set_option linter.defProp false
def jQ:=And.intro (@ay) (@ax)
theorem YY (s p:List UInt8) (w:World) (hs:s.length<1099511627776):Rets Tryz.prog 131 #[vs s,vs p] w (fun v D=>v= .bool (decide (p.length≤s.length)&& (s.drop (s.length - p.length)==p))∧D= []):=by
 refine Rets.enterV Tryz.func131 rfl (rs:= [.tmp 4]) Tryz.results131 Tryz.ntmps131 ?_
 refine kf ?_
 by_cases h:p.length≤s.length
 ·have e1:decide ((p.length:Int)≤ (s.length:Int))=true:=decide_eq_true (by omega)
  have e2: (s.length:Int) - (p.length:Int)=((s.length - p.length:Nat):Int):=by omega
  have e3:decide (((s.length - p.length:Nat):Int)≤ (s.length:Int)∧(s.length:Int)≤ (s.length:Int))=true:=decide_eq_true (by omega)
  first|with_reducible refine ks [] (And.intro @jQ (And.intro @e1 (And.intro @e2 (@e3)))) ?_|refine kp (And.intro @jQ (And.intro @e1 (And.intro @e2 (@e3)))) ?_
  refine⟨_,(ke @jQ),trivial, ?_⟩
  simp[ck,h]
 ·have e1:decide ((p.length:Int)≤ (s.length:Int))=false:=decide_eq_false (by omega)
  first|with_reducible refine ks [] (And.intro @jQ @e1) ?_|refine kp (And.intro @jQ @e1) ?_
  refine⟨_,(ke @jQ),trivial, ?_⟩
  simp[ck,h]
theorem FZ (s p:List UInt8) (w:World) (hs:s.length<1099511627776):Rets Tryz.prog 98 #[vs s,vs p] w (fun v D=>v= .bool (decide (p.length≤s.length)&& (s.drop (s.length - p.length)==p))∧D= []):=by
 refine Rets.enterV Tryz.func98 rfl (rs:= [.tmp 4]) Tryz.results98 Tryz.ntmps98 ?_
 refine kf ?_
 first|with_reducible refine ks [] @jQ ?_|refine kp @jQ ?_
 refine Ow.callFV rfl Tryz.call131 (fun w' aB=>YY s p w' hs) ?_
 refine ko @jQ ?_
 first|with_reducible refine ks [] @jQ ?_|refine kp @jQ ?_
 refine⟨_,(ke @jQ),trivial, ?_⟩
 rfl
theorem UQ (s:List UInt8) (w:World) (hs:s.length<1099511627776):Rets Tryz.prog 44 #[vs s] w (fun v D=>v= .bool (mW s)∧D= []):=by
 refine Rets.enterV Tryz.func44 rfl (rs:= [.tmp 2]) Tryz.results44 Tryz.ntmps44 ?_
 refine kf ?_
 first|with_reducible refine ks [] @jQ ?_|refine kp @jQ ?_
 refine Ow.callFV rfl Tryz.call98 (fun w' aB=>FZ s [46,116,109,112] w' hs) ?_
 refine ko @jQ ?_
 first|with_reducible refine ks [] @jQ ?_|refine kp @jQ ?_
 refine⟨_,(ke @jQ),trivial, ?_⟩
 rfl
theorem yx {S:DiskL} {N:Nat} (h:DkN N S) (dir:List UInt8): (dW S dir).length≤N:=by
 unfold dW
 split
 ·exact Nat.zero_le _
 ·rw[List.length_map]
  exact(h _).seen
theorem rl {A B:aA} (h: (keys (A++B)).Nodup) {b:Nat} {o:Obj} (hb:Sx.look B b=some o):Sx.look (A++B) b=some o:=by
 rw[bO,List.nodup_append] at h
 rw[iB fun hm=>h.2.2 b hm b (List.mem_map.2 ⟨_,bh hb,rfl⟩) rfl]
 exact hb
structure ClnG where
 k:Nat
 n:Nat
 S:DiskL
 G:DkG
 X:aA
 M:Nat
structure CliG where
 j:Nat
 n:Nat
 S:DiskL
 G:DkG
 X:aA
def ClnS (G:DkG) (R:Nat×Nat×DiskL) (N:Nat) (v:Value) (D:aA):Prop:=v= .tuple #[vi (R.1:Nat),vi (R.2.1:Nat)]∧ ∃G',G'.bd=G.bd∧DkA D G' R.2.2 N
structure ClnM (N k M:Nat):Prop where
 z:k=0→M≤N
 o:k≤1→M≤2*N
 t:k≤2→M≤4*N
 e:M≤8*N
theorem ClnM.next {N k M m:Nat} (h:ClnM N k M) (hk:k<3) (hm:m≤M):ClnM N (k+1) (M+m):=by
 obtain⟨a,b,c,d⟩:=h
 exact⟨by omega,by omega,by omega,by omega⟩
set_option linter.defProp false
def dU:=And.intro (And.intro (@ay) (@ax)) (And.intro (@Sx.tup2_0) (@Sx.tup2_1))
theorem V9 (X:aA) (G:DkG) (S:DiskL) (N:Nat) (w:World) (hX: ∀p,p∈X→w.heap[p.1]? =some p.2) (hn: (keys X).Nodup) (hA:DkA X G S N) (hN:N≤100000):
  Rets Tryz.prog 46 #[vp G.bd 0] w (XS w X (ClnS G (qx S) (8*N))):=by
 refine Rets.enterX Tryz.func46 rfl (rs:= [.tmp 2, .tmp 3]) Tryz.results46 Tryz.ntmps46 hX hn ?_
 refine kf ?_
 first|with_reducible refine ks [] @dU ?_|refine kp @dU ?_
 refine Ow.build (.agg #[vs fB,vs jV,vs jC]) rfl (by kernel_rfl) ?_
 refine ko @dU ?_
 first|with_reducible refine ks [] @dU ?_|refine kp @dU ?_
 refine Cw.loopG (G:=ClnG) [14,15,6,16,7,17,18,19,20,21,22,23,24,9,25,26,27,28,29,30,31,10,32,33,34,35,2,3,36,37,4,38,39,40,41,42,43,44,11,45,46,47,48,49,13] (fun g=> [(4,vi g.n),(13,vi g.k)]) (fun g=>g.X) (fun g=>g.k≤3∧ul (3 - g.k) g.k g.n g.S=qx S∧g.G.bd=G.bd∧DkA g.X g.G g.S g.M∧Ext w X g.X∧ClnM N g.k g.M∧g.n≤g.M) (fun g=>3 - g.k) ⟨0,0,S,G,X,N⟩ rfl rfl ?_ ?_
 ·exact⟨Nat.zero_le _,rfl,rfl,hA,Ext.refl w X,⟨fun _=>Nat.le_refl _,fun _=>by show N≤2*N;omega,fun _=>by show N≤4*N;omega,by show N≤8*N;omega⟩,Nat.zero_le _⟩
 intro g j hg
 refine kv ?_
 obtain⟨k,n,S1,G1,X1,M⟩:=g
 simp only at hg ⊢
 obtain⟨hk,hR,bJ,bv,hE,hM,Ax⟩:=hg
 have WP:=hM.e
 rw[←bJ]
 by_cases aC:k<3
 ·have d1:decide ((k:Int)<3)=true:=decide_eq_true (by omega)
  have ixk:=Bt aC
  have Zn:=hM.t (by omega)
  obtain⟨f,hf⟩: ∃f,3 - k=f+1:=⟨2 - k,by omega⟩
  rw[hf,y3] at hR
  have Ac:=bv.b (by omega)
  have u1:=(zC Ac (aH k)).2
  have l9:=yx bv.B (aH k)
  have g8:kU (aH k) n S1=if(fI (aH k) (dW S1 (aH k)) n S1).2.1≠0∨(fI (aH k) (dW S1 (aH k)) n S1).1=n then fI (aH k) (dW S1 (aH k)) n S1 else((fI (aH k) (dW S1 (aH k)) n S1).1,(fC (fI (aH k) (dW S1 (aH k)) n S1).2.2 (aH k)).2,(fC (fI (aH k) (dW S1 (aH k)) n S1).2.2 (aH k)).1):=rfl
  first|with_reducible refine ks [] (And.intro @dU (And.intro @d1 (@ixk))) ?_|refine kp (And.intro @dU (And.intro @d1 (@ixk))) ?_
  refine Ow.callC rfl rfl Tryz.call79 (fun w' aB=>EA w' G1 S1 (aH k) (bv.P.world aB) Ac) (fun B3 v3 D3 cv kg dY fE=> ?_)
  rw[←DB] at fE
  generalize dW S1 (aH k)=nms at*
  have dw:New w.heap.size D3:=dY.mono kg
  have ln3:=oG fE
  refine ko (And.intro @dU @ln3) ?_
  refine Cw.world fun w1 aJ=> ?_
  obtain⟨rb,off,arr,E,fz,lW,bP⟩:=fE.rowL (z:= []) rfl ((aJ.perm (M:=D3++X1) List.perm_append_comm).part) wE
  have rd3: ∀ (Y:aA),0<nms.length→aM w (D3++Y) rb=some (.cells arr E fz):=fun Y h0=>aL (aq (bP h0))
  clear aJ bP
  refine Cw.permL (M:=D3++X1) List.perm_append_comm ?_
  have iX:Ext w X (X1++D3):=⟨fun c hc=>by
   rw[bO] at hc
   rcases List.mem_append.1 hc with hc|hc
   ·exact hE.new c hc
   ·exact .inr (dw.le c hc),fun c hc=>by rw[bO];exact List.mem_append_left _ (hE.all c hc)⟩
  refine Cw.loopG (G:=CliG) [22,23,24,9,25,26,27,28,29,30,31,10,32,33,34,35,2,3,36,37,4,38,21] (fun g=> [(4,vi g.n),(21,vi g.j)]) (fun g=>D3++g.X) (fun g=>g.j≤nms.length∧fI (aH k) (nms.drop g.j) g.n g.S=fI (aH k) nms n S1∧g.G.bd=G1.bd∧DkA g.X g.G g.S (M+g.j)∧Ext w X (g.X++D3)∧g.n≤M+g.j) (fun g=>nms.length - g.j) ⟨0,n,S1,G1,X1⟩ rfl rfl ?_ ?_
  ·exact⟨Nat.zero_le _,rfl,rfl,bv,iX,Ax⟩
  intro g j hg
  refine kv ?_
  clear bv hE iX
  obtain⟨j,n2,S2,G2,X2⟩:=g
  simp only at hg ⊢
  obtain⟨hj,gL,aX,ai,aj,mm⟩:=hg
  rw[←aX]
  by_cases hjt:j<nms.length
  ·have d2:decide ((j:Int)< (nms.length:Int))=true:=decide_eq_true (by omega)
   have ix3:=lW.idx false j hjt
   have ld3:=fun n=>us lW hjt n
   have rdj:=rd3 X2 (by omega)
   have cT:=u1 _ (mq (z:= []) hjt)
   rw[Vp hjt] at gL
   generalize nms.getD j []=s at*
   first|with_reducible refine ks [10] (And.intro @dU (And.intro @d2 (And.intro @ln3 (And.intro @ix3 (And.intro @rdj (@ld3)))))) ?_|refine kp (And.intro @dU (And.intro @d2 (And.intro @ln3 (And.intro @ix3 (And.intro @rdj (@ld3)))))) ?_
   refine Ow.callFV rfl Tryz.call44 (fun w' aB=>UQ s w' (by omega)) ?_
   cases ht:mW s with
   |false=>
    rw[if_neg (by rw[ht];simp)] at gL
    refine ko @dU ?_
    first|with_reducible refine ks [] @dU ?_|refine kp @dU ?_
    exact Again.mk ⟨j+1,n2,S2,G2,X2⟩ (by show nms.length - (j+1)<nms.length - j;omega) ⟨hjt,gL,rfl,⟨ai.P,ai.H,ai.B.mono (by show M+j≤M+ (j+1);omega)⟩,aj,by show n2≤M+ (j+1);omega⟩ rfl rfl
   |true=>
    rw[if_pos ht] at gL
    refine ko @dU ?_
    refine Cw.permL (M:=X2++D3) List.perm_append_comm ?_
    first|with_reducible refine ks [] @dU ?_|refine kp @dU ?_
    refine Ow.callX (X:=X2) (Y:=D3) rfl rfl rfl Tryz.call77 (fun w' aB aQ aN=>UG X2 G2 S2 (aH k) s w' aQ aN ai.P (by omega) (ai.pend (by omega))) (fun v4 D4 au aZ=> ?_)
    obtain⟨rfl,G3,dz,dy⟩:=aZ
    have dR:=aj.came au
    have gK:DkA D4 G3 (dp S2 (aH k) s).1 (M+ (j+1)):=⟨dy,HD ai.H _ _,Ir ai.B _ (by omega)⟩
    generalize dp S2 (aH k) s=q at*
    obtain⟨S3,e⟩:=q
    simp only at gL gK ⊢
    by_cases h0:e≠0
    ·have e1:=jN h0
     rw[if_pos h0] at gL
     refine ko @dU ?_
     first|with_reducible refine ks [] (And.intro @dU @e1) ?_|refine kp (And.intro @dU @e1) ?_
     refine⟨_,(ke @dU), ?_⟩
     have fO:kU (aH k) n S1=(n2,e,S3):=by rw[g8,←gL];exact if_pos (.inl h0)
     rw[fO,if_pos h0] at hR
     rw[←hR]
     exact⟨dR,rfl,G3,(dz.trans aX).trans bJ,(⟨gK.P.mono fun b o h=>aq h,gK.H,gK.B.mono (by omega)⟩:DkA (D4++D3) G3 S3 (8*N))⟩
    ·have e1: ((e:Int) !=0)=false:=by rw[show e=0 by simpa using h0];rfl
     rw[if_neg h0] at gL
     refine Ow.permL (M:=D3++D4) List.perm_append_comm ?_
     refine ko @dU ?_
     first|with_reducible refine ks [] (And.intro @dU @e1) ?_|refine kp (And.intro @dU @e1) ?_
     exact Again.mk ⟨j+1,n2+1,S3,G3,D4⟩ (by show nms.length - (j+1)<nms.length - j;omega) ⟨hjt,gL,dz,gK,dR,by show n2+1≤M+ (j+1);omega⟩ rfl rfl
  ·obtain rfl:j=nms.length:=by omega
   have d2:decide ((nms.length:Int)< (nms.length:Int))=false:=decide_eq_false (by omega)
   rw[VS] at gL
   rw[←gL] at g8
   refine Cw.world fun wz eR=> ?_
   have di:DkP (D3++X2) G2 S2:=ai.P.mono fun b o h=>rl eR.nodup h
   have ki:=aj.perm (D':=D3++X2) List.perm_append_comm
   clear eR
   by_cases oY:n2=n
   ·have e1: ((n2:Int)==(n:Int))=true:=by rw[oY];exact beq_self_eq_true _
    have fO:kU (aH k) n S1=(n2,0,S2):=by rw[g8];exact if_pos (.inr oY)
    rw[fO,if_neg (by simp)] at hR
    first|with_reducible refine ks [] (And.intro @dU (And.intro @d2 (And.intro @ln3 (@e1)))) ?_|refine kp (And.intro @dU (And.intro @d2 (And.intro @ln3 (@e1)))) ?_
    exact Again.mk ⟨k+1,n2,S2,G2,D3++X2,M+nms.length⟩ (by show 3 - (k+1)<3 - k;omega) ⟨aC,by rw[show 3 - (k+1)=f by omega];exact hR,rfl,⟨di,ai.H,ai.B⟩,ki,hM.next aC l9,mm⟩ rfl rfl
   ·have e1: ((n2:Int)==(n:Int))=false:=beq_eq_false_iff_ne.2 (by omega)
    have fO:kU (aH k) n S1=(n2,(fC S2 (aH k)).2,(fC S2 (aH k)).1):=by rw[g8];exact if_neg (fun h=>by rcases h with h|h;exact h rfl;exact oY h)
    rw[fO] at hR
    clear g8 fO
    first|with_reducible refine ks [] (And.intro @dU (And.intro @d2 (And.intro @ln3 (@e1)))) ?_|refine kp (And.intro @dU (And.intro @d2 (And.intro @ln3 (@e1)))) ?_
    refine Ow.callX (X:=D3++X2) (Y:= []) (List.append_nil _).symm rfl rfl Tryz.call21 (fun w' aB aQ aN=>W2 (D3++X2) G2 S2 (aH k) w' aQ aN di) (fun v5 D5 Za SE=> ?_)
    rw[List.append_nil]
    obtain⟨rfl,G3,dz,dy⟩:=SE
    have dR:=ki.came0 Za
    have gK:DkA D5 G3 (fC S2 (aH k)).1 (M+nms.length):=⟨dy,Fs ai.H _,GT ai.B _⟩
    generalize fC S2 (aH k)=q at*
    obtain⟨S3,e⟩:=q
    simp only at hR gK ⊢
    by_cases h0:e≠0
    ·have e2:=jN h0
     rw[if_pos h0] at hR
     refine ko @dU ?_
     first|with_reducible refine ks [] (And.intro @dU @e2) ?_|refine kp (And.intro @dU @e2) ?_
     refine⟨_,(ke @dU), ?_⟩
     rw[←hR]
     exact⟨dR,rfl,G3,(dz.trans aX).trans bJ,(⟨gK.P,gK.H,gK.B.mono (hM.next aC l9).e⟩:DkA D5 G3 S3 (8*N))⟩
    ·have e2: ((e:Int) !=0)=false:=by rw[show e=0 by simpa using h0];rfl
     rw[if_neg h0] at hR
     refine ko @dU ?_
     first|with_reducible refine ks [] (And.intro @dU @e2) ?_|refine kp (And.intro @dU @e2) ?_
     exact Again.mk ⟨k+1,n2,S3,G3,D5,M+nms.length⟩ (by show 3 - (k+1)<3 - k;omega) ⟨aC,by rw[show 3 - (k+1)=f by omega];exact hR,dz,gK,dR,hM.next aC l9,mm⟩ rfl rfl
 ·obtain rfl:k=3:=by omega
  have d1:decide (((3:Nat):Int)<3)=false:=rfl
  first|with_reducible refine ks [] (And.intro @dU @d1) ?_|refine kp (And.intro @dU @d1) ?_
  refine⟨_,(ke @dU), ?_⟩
  rw[←hR]
  exact⟨hE,rfl,G1,bJ,(⟨bv.P,bv.H,bv.B.mono WP⟩:DkA X1 G1 S1 (8*N))⟩
end Go.Proofs
end
section
open Go Go.Proofs Go.Sx Go.StP Go.Flo
namespace Go.Proofs
set_option maxRecDepth 10000
set_option maxHeartbeats 400000
set_option linter.unusedSimpArgs false
def bl0:DiskL:=eV 100
def bl1:DiskL:=(iT bl0 fB [97] [120] false).2
def bl2:DiskL:=(iT bl1 fB [98] [121] true).2
def bl3:DiskL:=sB bl2 []
def bl4:DiskL:=(qx bl3).2.2
theorem Rg: (((iT bl0 fB [97] [120] false).1:Nat):Int)=0:=by rfl
theorem R5: (((iT bl1 fB [98] [121] true).1:Nat):Int)=0:=by rfl
theorem RH: (gG bl3 fB [97]).1= [120]:=by rfl
theorem RL: (((gG bl3 fB [97]).2:Nat):Int)=0:=by rfl
theorem Re: (((qx bl3).1:Nat):Int)=0:=by rfl
theorem RI: (((qx bl3).2.1:Nat):Int)=0:=by rfl
theorem bl_l: (((dW bl4 fB).length:Nat):Int)=1:=by rfl
set_option linter.defProp false
def gT:=And.intro (And.intro (@ay) (@ax)) (And.intro (@Sx.tup2_0) (@Sx.tup2_1))
theorem UH (w:World) (hG:mX w):Rets Tryz.prog 35 #[] w (fun v D=>v= .bool true∧D= []):=by
 refine Rets.enterV Tryz.func35 rfl (rs:= [.tmp 0]) Tryz.results35 Tryz.ntmps35 ?_
 refine kf ?_
 first|with_reducible refine ks [] @gT ?_|refine kp @gT ?_
 refine Ow.callC rfl rfl Tryz.call28 (fun w' aB=>wb 100 w' (by decide) (qb hG aB trivial)) (fun B0 v0 D0 A5 pu k8 SD=> ?_)
 obtain⟨G0,rfl,kl⟩:=SD
 rw[List.nil_append]
 have k7:Ext w [] D0:=Ext.of_new (k8.mono pu)
 have A5:DkA D0 G0 bl0 0:=⟨kl,Nl 100,yg 100⟩
 refine ko @gT ?_
 first|with_reducible refine ks [] @gT ?_|refine kp @gT ?_
 refine Ow.callX (X:=D0) (Y:= []) (List.append_nil _).symm rfl rfl Tryz.call38 (fun w' aB aQ aN=>VL D0 G0 bl0 0 fB [97] [120] w' aQ aN A5 (by omega) (by decide) (by decide)) (fun v1 D1 Ru cz=> ?_)
 rw[List.append_nil]
 obtain⟨rfl,G1,bE,bv⟩:=cz
 have bU:=k7.came0 Ru
 have Rq:DkA D1 G1 bl1 (0+42):=bv
 rw[Rg,←bE]
 refine ko @gT ?_
 first|with_reducible refine ks [] @gT ?_|refine kp @gT ?_
 refine Ow.callX (X:=D1) (Y:= []) (List.append_nil _).symm rfl rfl Tryz.call39 (fun w' aB aQ aN=>Uh D1 G1 bl1 (0+42) fB [98] [121] w' aQ aN Rq (by omega) (by decide) (by decide)) (fun v2 D2 nS bl=> ?_)
 rw[List.append_nil]
 obtain⟨rfl,G2,bG,ai⟩:=bl
 have aj:=bU.came0 nS
 have m5:DkA D2 G2 bl2 84:=ai
 rw[R5,←bG]
 refine ko @gT ?_
 first|with_reducible refine ks [] @gT ?_|refine kp @gT ?_
 refine Ow.callX (X:=D2) (Y:= []) (List.append_nil _).symm rfl rfl Tryz.call22 (fun w' aB aQ aN=>GZ D2 G2 bl2 (.slice none 0 0) [] w' aQ aN m5.P (qb hG aB aj.new0) (yX hG aj.new0) ((FM (q:=(bl2,[])) m5.B 3).b (by omega)) (.inl (SlV.nil w')) (fun h=>absurd rfl h) (by decide) (fun k hk=>⟨(m5.H k).2,m5.pend (by omega) k hk⟩)) (fun v3 D3 tQ fE=> ?_)
 rw[List.append_nil]
 obtain⟨G3,gM,dy⟩:=fE
 have iX:=aj.came0 tQ
 have cv:DkA D3 G3 bl3 84:=⟨dy,JR m5.H _,Kg m5.B _⟩
 rw[←gM]
 refine ko @gT ?_
 first|with_reducible refine ks [] @gT ?_|refine kp @gT ?_
 refine Ow.callFV rfl Tryz.call23 (fun w' aB=>Ui w' G3 bl3 fB [97] (cv.P.world aB) (by decide)) ?_
 rw[RH,RL]
 refine ko @gT ?_
 first|with_reducible refine ks [] @gT ?_|refine kp @gT ?_
 refine Ow.callX (X:=D3) (Y:= []) (List.append_nil _).symm rfl rfl Tryz.call46 (fun w' aB aQ aN=>V9 D3 G3 bl3 84 w' aQ aN cv (by omega)) (fun v4 D4 au aZ=> ?_)
 rw[List.append_nil]
 obtain⟨rfl,G4,mi,jE⟩:=aZ
 have dR:=iX.came0 au
 have A6:DkA D4 G4 bl4 672:=jE
 rw[Re,RI,←mi]
 refine ko @gT ?_
 have z0: ((0:Int)==0)=true:=rfl
 have z1: ((1:Int)==1)=true:=rfl
 have z2: (([120]:List UInt8)== [120])=true:=rfl
 first|with_reducible refine ks [] (And.intro @gT (And.intro @z0 (@z2))) ?_|refine kp (And.intro @gT (And.intro @z0 (@z2))) ?_
 refine Ow.callC rfl rfl Tryz.call79 (fun w' aB=>EA w' G4 bl4 fB (A6.P.world aB) (A6.b (by omega))) (fun B5 v5 D5 oP kh fD SE=> ?_)
 have S4:New w.heap.size (D4++D5):=dR.new0.app (fD.mono kh)
 have ln5:=oG SE
 rw[bl_l] at ln5
 refine ko (And.intro @gT (And.intro @ln5 (And.intro @z0 (And.intro @z1 (@z2))))) ?_
 refine Ow.callFV rfl Tryz.call44 (fun w' aB=>UQ [97,46,116,109,112] w' (by decide)) ?_
 refine ko @gT ?_
 refine⟨_,(ke @gT),S4, ?_⟩
 rfl
structure JbL where
 dir:List UInt8
 name:List UInt8
 data:List UInt8
 light:Bool
def jbC (r:JbL):List Value:= [vs r.dir]++ ([vs r.name]++ ([vs r.data]++ ([Value.bool r.light])))
def jb0:JbL:=⟨[],[],[],false⟩
theorem w8 (r:JbL): (jbC r).length=4:=by simp[jbC]
theorem xV (r:JbL):Value.cells (.agg (jbC r).toArray)=(jbC r).toArray:=bL _
theorem Ox (r:JbL): (jbC r).all Value.oneCell'=true:=by
 unfold jbC
 simp only[List.all_append,List.all_cons,List.all_nil,oy,Bool.and_true,Bool.true_and]
 rfl
theorem zrJb:al Tryz.prog 66=some (.agg (jbC jb0).toArray):=id (by kernel_rfl)
theorem QK (r:JbL):jbC r=([]:List Value)++ (([vs r.dir])++ ([vs r.name]++ ([vs r.data]++ ([Value.bool r.light])))):=by
 unfold jbC;simp only[List.append_assoc,List.nil_append,List.append_nil]
theorem xS (r:JbL) (n:Nat) (E:TypeId) (fz:Nat×Nat):aF (some (false,n)) (some (.cells (jbC r).toArray E fz)) 0=some (vs r.dir):=by
 rw[QK];exact jO _ _ _ n E fz (by simp)
theorem QX (r:JbL):jbC r=(([vs r.dir]))++ (([vs r.name])++ ([vs r.data]++ ([Value.bool r.light]))):=by
 unfold jbC;simp only[List.append_assoc,List.nil_append,List.append_nil]
theorem yL (r:JbL) (n:Nat) (E:TypeId) (fz:Nat×Nat):aF (some (false,n)) (some (.cells (jbC r).toArray E fz)) 1=some (vs r.name):=by
 rw[QX];exact jO _ _ _ n E fz (by simp)
theorem Qm (r:JbL):jbC r=(([vs r.dir])++ ([vs r.name]))++ (([vs r.data])++ ([Value.bool r.light])):=by
 unfold jbC;simp only[List.append_assoc,List.nil_append,List.append_nil]
theorem xT (r:JbL) (n:Nat) (E:TypeId) (fz:Nat×Nat):aF (some (false,n)) (some (.cells (jbC r).toArray E fz)) 2=some (vs r.data):=by
 rw[Qm];exact jO _ _ _ n E fz (by simp)
theorem Ql (r:JbL):jbC r=(([vs r.dir])++ ([vs r.name])++ ([vs r.data]))++ (([Value.bool r.light])++ (([]:List Value))):=by
 unfold jbC;simp only[List.append_assoc,List.nil_append,List.append_nil]
theorem xP (r:JbL) (n:Nat) (E:TypeId) (fz:Nat×Nat):aF (some (false,n)) (some (.cells (jbC r).toArray E fz)) 3=some (Value.bool r.light):=by
 rw[Ql];exact jO _ _ _ n E fz (by simp)
theorem yf (r:JbL) (E:TypeId) (fz:Nat×Nat):aF (some (true,4)) (some (.cells (jbC r).toArray E fz)) 0=some (.agg (jbC r).toArray):=p6 _ E fz 4 (by rw[List.size_toArray,w8])
theorem N7 (old:Array Value) (r:JbL) (a:Bool) (E:TypeId) (h:old.size=4):ac (some (a,4)) (some (.cells old E (0,0))) 0 (.agg (jbC r).toArray)=some (.cells (jbC r).toArray E (0,0)):=ro _ a old E (w8 r) (Ox r) h
theorem MC (r r':JbL) (a:Bool) (E:TypeId):ac (some (a,4)) (some (.cells (jbC r').toArray E (0,0))) 0 (.agg (jbC r).toArray)=some (.cells (jbC r).toArray E (0,0)):=N7 _ r a E (by rw[List.size_toArray,w8])
theorem QO {w:World} {v:Value} {l:List JbL} {b off:Nat} {arr:Array Value} {E:TypeId} {fz:Nat×Nat} (h:RowS 4 jbC jb0 w v l b off arr E fz) {k:Nat} (hk:k<l.length):aF (some (true,4)) (some (.cells arr E fz)) (off+k*4)=some (.agg (jbC (l.getD k jb0)).toArray):=RowS.load h w8 (by omega) hk
def w7 (a:JbL):Bool:=decide (200<a.name.length) ||decide (2000<a.data.length) ||decide (50<a.dir.length)
theorem Ls {a:JbL} (h:w7 a=false):a.name.length≤200∧a.data.length≤2000∧a.dir.length≤50:=by
 unfold w7 at h
 simp only[Bool.or_eq_false_iff,decide_eq_false_iff_not] at h
 omega
set_option linter.defProp false
def mZ:=And.intro (And.intro (And.intro (@ay) (@ax)) (And.intro (@yf) (@xS))) (And.intro (And.intro (@yL) (@xT)) (And.intro (@xP) (@xV)))
theorem HJ (a:JbL) (w:World):Rets Tryz.prog 36 #[.agg (jbC a).toArray] w (fun v D=>v= .bool (w7 a)∧D= []):=by
 refine Rets.enterV Tryz.func36 rfl (rs:= [.tmp 2]) Tryz.results36 Tryz.ntmps36 ?_
 refine kf ?_
 first|with_reducible refine ks [1] @mZ ?_|refine kp @mZ ?_
 refine Ow.box rfl rfl fun b1 bE aJ=> ?_
 simp only[eU,eT,ed,bL,List.nil_append,List.cons_append]
 refine Ow.go rfl ?_
 simp(disch:=(first|assumption|omega| (simp only[fM,fL,UInt64.reduceToNat];try omega))) only[↓Sx.S0,Sx.S1,Tryz.fx,mZ,Nat.reduceAdd,Nat.reducePow,Int.reducePow,Nat.reduceBEq, ↓reduceIte,UInt8.reduceToNat,UInt16.reduceToNat,UInt32.reduceToNat,UInt64.reduceToNat,Int.reduceToNat]
 unfold w7
 cases h1:decide ((200:Int)< (a.name.length:Int)) with
 |true=>
  first|with_reducible refine ks [] (And.intro @mZ @h1) ?_|refine kp (And.intro @mZ @h1) ?_
  refine⟨_,(ke @mZ),⟨aJ,trivial⟩, ?_⟩
  (rw[decide_eq_true (show 200<a.name.length by have:=of_decide_eq_true h1;omega)];rfl)
 |false=>
  have g1:decide (200<a.name.length)=false:=decide_eq_false (by have:=of_decide_eq_false h1;omega)
  cases h2:decide ((2000:Int)< (a.data.length:Int)) with
  |true=>
   first|with_reducible refine ks [] (And.intro @mZ (And.intro @h1 (@h2))) ?_|refine kp (And.intro @mZ (And.intro @h1 (@h2))) ?_
   refine⟨_,(ke @mZ),⟨aJ,trivial⟩, ?_⟩
   (rw[decide_eq_true (show 2000<a.data.length by have:=of_decide_eq_true h2;omega),g1];rfl)
  |false=>
   have g2:decide (2000<a.data.length)=false:=decide_eq_false (by have:=of_decide_eq_false h2;omega)
   have g4:decide (50<a.dir.length)=decide ((50:Int)< (a.dir.length:Int)):=by
    congr 1
    rw[eq_iff_iff];omega
   first|with_reducible refine ks [] (And.intro @mZ (And.intro @h1 (@h2))) ?_|refine kp (And.intro @mZ (And.intro @h1 (@h2))) ?_
   refine⟨_,(ke @mZ),⟨aJ,trivial⟩, ?_⟩
   (rw[g1,g2,g4];rfl)
set_option linter.defProp false
end Go.Proofs
end
section
open Go Go.Proofs Go.Sx Go.StP
namespace Go.Proofs
set_option maxRecDepth 10000
set_option maxHeartbeats 1000000
set_option linter.unusedSimpArgs false
set_option linter.defProp false
def cN:=And.intro (And.intro (@ay) (@ax)) (And.intro (@Sx.tup2_0) (@Sx.tup2_1))
theorem VH (s:List UInt8) (w:World) (hs:s.length<1099511627776):Rets Tryz.prog 45 #[vs s] w (fun v D=>v= .bool (mW s)∧D= []):=by
 refine Rets.enterV Tryz.func45 rfl (rs:= [.tmp 2]) Tryz.results45 Tryz.ntmps45 ?_
 refine kf ?_
 by_cases h:4≤s.length
 ·have e1:decide ((4:Int)≤ (s.length:Int))=true:=decide_eq_true (by omega)
  have e2: (s.length:Int) - 4=((s.length - 4:Nat):Int):=by omega
  have e3:decide (((s.length - 4:Nat):Int)≤ (s.length:Int)∧(s.length:Int)≤ (s.length:Int))=true:=decide_eq_true (by omega)
  first|with_reducible refine ks [] (And.intro @cN (And.intro @e1 (And.intro @e2 (@e3)))) ?_|refine kp (And.intro @cN (And.intro @e1 (And.intro @e2 (@e3)))) ?_
  refine⟨_,(ke @cN),trivial, ?_⟩
  simp[mW,ck,h]
 ·have e1:decide ((4:Int)≤ (s.length:Int))=false:=decide_eq_false (by omega)
  first|with_reducible refine ks [] (And.intro @cN @e1) ?_|refine kp (And.intro @cN @e1) ?_
  refine⟨_,(ke @cN),trivial, ?_⟩
  simp[mW,ck,h]
structure ClkM (N k M:Nat):Prop where
 z:k=0→M≤N
 o:k≤1→M≤2*N+1
 t:k≤2→M≤4*N+3
 e:M≤8*N+7
theorem ClkM.next {N k M m:Nat} (h:ClkM N k M) (hk:k<3) (hm:m≤M):ClkM N (k+1) (M+m+1):=by
 obtain⟨a,b,c,d⟩:=h
 exact⟨by omega,by omega,by omega,by omega⟩
structure ClkG where
 k:Nat
 n:Nat
 S:DiskL
 C:DcG
 X:aA
 M:Nat
structure ClkI where
 j:Nat
 n:Nat
 any:Bool
 S:DiskL
 C:DcG
 X:aA
def ClkS (C:DcG) (R:Nat×Nat×DiskL) (v:Value) (D:aA):Prop:=v= .tuple #[vi (R.1:Nat),vi (R.2.1:Nat)]∧ ∃C',C'.bd=C.bd∧DcP D C' R.2.2
theorem ID (X:aA) (C:DcG) (S:DiskL) (N:Nat) (w:World) (hX: ∀p,p∈X→w.heap[p.1]? =some p.2) (hn: (keys X).Nodup) (hP:DcP X C S) (hA:DsA S N) (hN:N≤100000):
  Rets Tryz.prog 47 #[vp C.bd 0] w (XS w X (ClkS C (qx S))):=by
 refine Rets.enterX Tryz.func47 rfl (rs:= [.tmp 2, .tmp 3]) Tryz.results47 Tryz.ntmps47 hX hn ?_
 refine kf ?_
 first|with_reducible refine ks [] @cN ?_|refine kp @cN ?_
 refine Ow.callC rfl rfl Tryz.call87 (fun w' aB=>FE w') (fun B1 v1 D1 bv dh bX cz=> ?_)
 obtain⟨b5,rfl,rfl⟩:=cz
 have vT:w.heap.size≤b5:=(bX.mono dh).1
 refine Ow.permL (M:=(b5,cV)::X) (by classical exact List.perm_iff_count.2 fun a=>by simp only[List.count_append,List.count_cons,List.count_nil]<;>omega) ?_
 refine ko @cN ?_
 first|with_reducible refine ks [] @cN ?_|refine kp @cN ?_
 refine Cw.loopG (G:=ClkG) [13,14,7,17,18,19,20,21,22,8,9,23,24,25,26,29,30,31,32,33,34,35,36,37,38,39,40,41,42,43,44,10,45,46,47,48,2,3,49,50,4,27,28,51,52,53,54,55,56,57,11,58,59,60,61,15,16,6] (fun g=> [(4,vi g.n),(6,vi g.k)]) (fun g=>(b5,cV)::g.X) (fun g=>g.k≤3∧ul (3 - g.k) g.k g.n g.S=qx S∧g.C.bd=C.bd∧DcP g.X g.C g.S∧DsA g.S g.M∧Ext w X ((b5,cV)::g.X)∧ClkM N g.k g.M∧g.n≤g.M) (fun g=>3 - g.k) ⟨0,0,S,C,X,N⟩ rfl rfl ?_ ?_
 ·exact⟨Nat.zero_le _,rfl,rfl,hP,hA,((Ext.refl w X).app vT).perm (List.perm_append_singleton _ _).symm,⟨fun _=>Nat.le_refl _,fun _=>by show N≤2*N+1;omega,fun _=>by show N≤4*N+3;omega,by show N≤8*N+7;omega⟩,Nat.zero_le _⟩
 intro g j hg
 refine kv ?_
 clear hP hA
 obtain⟨k,n,S1,C1,X1,M⟩:=g
 simp only at hg ⊢
 obtain⟨hk,hR,bJ,aS,bv,hE,hM,Ax⟩:=hg
 have WP:=hM.e
 rw[←bJ]
 by_cases aC:k<3
 ·have d1:decide ((k:Int)<3)=true:=decide_eq_true (by omega)
  have ix:=Eh b5 aC
  have ld:=fun n=>FB aC n
  have Zn:=hM.t (by omega)
  obtain⟨f,hf⟩: ∃f,3 - k=f+1:=⟨2 - k,by omega⟩
  rw[hf,y3] at hR
  have Ac:DkB S1:=bv.B.b (by omega)
  have u1:=(zC Ac (aH k)).2
  have l9:=yx bv.B (aH k)
  have g8:kU (aH k) n S1=if(fI (aH k) (dW S1 (aH k)) n S1).2.1≠0∨(fI (aH k) (dW S1 (aH k)) n S1).1=n then fI (aH k) (dW S1 (aH k)) n S1 else((fI (aH k) (dW S1 (aH k)) n S1).1,(fC (fI (aH k) (dW S1 (aH k)) n S1).2.2 (aH k)).2,(fC (fI (aH k) (dW S1 (aH k)) n S1).2.2 (aH k)).1):=rfl
  first|with_reducible refine ks [18] (And.intro @cN (And.intro @d1 (And.intro @ix (@ld)))) ?_|refine kp (And.intro @cN (And.intro @d1 (And.intro @ix (@ld)))) ?_
  refine Ow.callC rfl rfl Tryz.call89 (fun w' aB=>If w' C1 S1 (aH k) (aS.worldM aB (fun p hp=>by simp[hp])) Ac) (fun B3 v3 D3 cv kg dY fE=> ?_)
  rw[←DB] at fE
  generalize dW S1 (aH k)=nms at*
  have dw:New w.heap.size D3:=dY.mono kg
  have WE:b5∉keys D3:=dY.not (cY cv (by simp[keys]))
  have ln3:=oG fE
  refine ko (And.intro @cN @ln3) ?_
  refine Cw.world fun w1 aJ=> ?_
  obtain⟨rb,off,arr,E,fz,lW,bP⟩:=fE.rowL (z:= []) rfl ((aJ.perm (M:=D3++ ((b5,cV)::X1)) List.perm_append_comm).part) wE
  have rd3: ∀ (Y:aA),0<nms.length→aM w ((b5,cV):: (D3++Y)) rb=some (.cells arr E fz):=fun Y h0=>aL (by
   have h:=bP h0
   have ad:b5≠rb:=fun e=>WE (by rw[e];exact List.mem_map.2 ⟨_,bh h,rfl⟩)
   simp only[Sx.look,ad, ↓reduceIte]
   exact aq h)
  have lk3:0<nms.length→Sx.look ((b5,cV)::D3) rb=some (.cells arr E fz):=fun h0=>by
   have h:=bP h0
   have ad:b5≠rb:=fun e=>WE (by rw[e];exact List.mem_map.2 ⟨_,bh h,rfl⟩)
   simp only[Sx.look,ad, ↓reduceIte]
   exact h
  clear aJ bP
  refine Cw.permL (M:=(b5,cV):: (D3++X1)) (by classical exact List.perm_iff_count.2 fun a=>by simp only[List.count_append,List.count_cons,List.count_nil]<;>omega) ?_
  have iX:Ext w X ((b5,cV):: (D3++X1)):=by
   refine Ext.perm (D:=D3++ ((b5,cV)::X1)) ?_ (by classical exact List.perm_iff_count.2 fun a=>by simp only[List.count_append,List.count_cons,List.count_nil]<;>omega)
   exact⟨fun c hc=>by
    rw[bO] at hc
    rcases List.mem_append.1 hc with hc|hc
    ·exact .inr (dw.le c hc)
    ·exact hE.new c hc,fun c hc=>by rw[bO];exact List.mem_append_right _ (hE.all c hc)⟩
  first|with_reducible refine ks [] @cN ?_|refine kp @cN ?_
  refine Cw.loopG (G:=ClkI) [23,24,25,26,29,30,31,32,33,34,7,35,36,37,38,39,40,41,42,43,44,10,45,46,47,48,2,3,49,50,4,27,28,9] (fun g=> [(4,vi g.n),(7, .bool g.any),(9,vi g.j)]) (fun g=>(b5,cV):: (D3++g.X)) (fun g=>g.j≤nms.length∧fI (aH k) (nms.drop g.j) g.n g.S=fI (aH k) nms n S1∧g.any=(g.n !=n)∧n≤g.n∧g.C.bd=C1.bd∧DcP g.X g.C g.S∧DsA g.S (M+g.j)∧Ext w X ((b5,cV):: (D3++g.X))∧g.n≤M+g.j) (fun g=>nms.length - g.j) ⟨0,n,false,S1,C1,X1⟩ rfl rfl ?_ ?_
  ·exact⟨Nat.zero_le _,rfl,by simp,Nat.le_refl _,rfl,aS,bv,iX,Ax⟩
  intro g j hg
  refine kv ?_
  clear bv aS hE iX
  obtain⟨j,n2,any,S2,C2,X2⟩:=g
  simp only at hg ⊢
  obtain⟨hj,gL,SO,Aw,aX,aw,ai,aj,mm⟩:=hg
  rw[←aX]
  by_cases hjt:j<nms.length
  ·have d2:decide ((j:Int)< (nms.length:Int))=true:=decide_eq_true (by omega)
   have ix3:=fun a=>lW.idx a j hjt
   have ld3:=fun n=>us lW hjt n
   have rdj:=rd3 X2 (by omega)
   have lkj:=lk3 (by omega)
   have cT:=u1 _ (mq (z:= []) hjt)
   rw[Vp hjt] at gL
   generalize nms.getD j []=s at*
   first|with_reducible refine ks [13,14] (And.intro @cN (And.intro @d2 (And.intro @ln3 (And.intro @ix3 (And.intro @rdj (@ld3)))))) ?_|refine kp (And.intro @cN (And.intro @d2 (And.intro @ln3 (And.intro @ix3 (And.intro @rdj (@ld3)))))) ?_
   refine Ow.callFV rfl Tryz.call45 (fun w' aB=>VH s w' (by omega)) ?_
   cases ht:mW s with
   |false=>
    rw[if_neg (by rw[ht];simp)] at gL
    refine ko @cN ?_
    first|with_reducible refine ks [] @cN ?_|refine kp @cN ?_
    exact Again.mk ⟨j+1,n2,any,S2,C2,X2⟩ (by show nms.length - (j+1)<nms.length - j;omega) ⟨hjt,gL,SO,Aw,rfl,aw,ai.mono (by show M+j≤M+ (j+1);omega),aj,by show n2≤M+ (j+1);omega⟩ rfl rfl
   |true=>
    rw[if_pos ht] at gL
    refine ko @cN ?_
    first|with_reducible refine ks [13,14] @cN ?_|refine kp @cN ?_
    refine Cw.permL (M:=X2++ ((b5,cV)::D3)) (by classical exact List.perm_iff_count.2 fun a=>by simp only[List.count_append,List.count_cons,List.count_nil]<;>omega) ?_
    refine Cw.world fun wz eR=> ?_
    have rd5:aM w (X2++ ((b5,cV)::D3)) b5=some cV:=aL (rl eR.nodup (by simp[Sx.look]))
    have rdr:aM w (X2++ ((b5,cV)::D3)) rb=some (.cells arr E fz):=aL (rl eR.nodup lkj)
    have ki:Ext w X (X2++ ((b5,cV)::D3)):=aj.perm (by classical exact List.perm_iff_count.2 fun a=>by simp only[List.count_append,List.count_cons,List.count_nil]<;>omega)
    clear eR
    refine Cw.regionO [0,1,2,3,5,6,7,4,8,9,10] [9] rfl (by kernel_rfl) (by kernel_rfl) ?_
    simp only[ar, ↓ap, ↓ag, ↓an, ↓am,ah]
    refine kq (And.intro @cN (And.intro @rd5 (And.intro @ix (And.intro @ld (And.intro @rdr (And.intro @ix3 (@ld3))))))) ?_
    refine Ow.callX (X:=X2) (Y:=(b5,cV)::D3) rfl rfl rfl Tryz.call32 (fun w' aB aQ aN=>qp X2 C2 S2 (M+j) 5 (aH k) s [] w' aQ aN aw ai (by omega) ⟨by decide,by decide⟩ (by omega) (Nat.zero_le _)) (fun v4 D4 au aZ=> ?_)
    obtain⟨rfl,C3,dz,dy⟩:=aZ
    have dR:Ext w X ((b5,cV):: (D3++D4)):=(ki.came au).perm (by classical exact List.perm_iff_count.2 fun a=>by simp only[List.count_append,List.count_cons,List.count_nil]<;>omega)
    have A9:=ki.came au
    have cv:=ai.do (by omega) 5 (aH k) s [] (by omega) (Nat.zero_le _)
    rw[show doV S2 5 (aH k) s []=dp S2 (aH k) s from rfl] at cv dy ⊢
    generalize dp S2 (aH k) s=q at*
    obtain⟨S3,e⟩:=q
    simp only at gL cv dy ⊢
    refine kq @cN ?_
    by_cases h0:e≠0
    ·have e1:=jN h0
     rw[if_pos h0] at gL
     have di:DcP (D4++ ((b5,cV)::D3)) C3 S3:=dy.mono fun b o h=>aq h
     first|with_reducible refine ks [] (And.intro @cN @e1) ?_|refine kp (And.intro @cN @e1) ?_
     refine⟨_,(ke @cN), ?_⟩
     have fO:kU (aH k) n S1=(n2,e,S3):=by rw[g8,←gL];exact if_pos (.inl h0)
     rw[fO,if_pos h0] at hR
     rw[←hR]
     exact⟨A9,rfl,C3,(dz.trans aX).trans bJ,di⟩
    ·have e1: ((e:Int) !=0)=false:=by rw[show e=0 by simpa using h0];rfl
     rw[if_neg h0] at gL
     refine Cw.permL (M:=(b5,cV):: (D3++D4)) (by classical exact List.perm_iff_count.2 fun a=>by simp only[List.count_append,List.count_cons,List.count_nil]<;>omega) ?_
     first|with_reducible refine ks [] (And.intro @cN @e1) ?_|refine kp (And.intro @cN @e1) ?_
     exact Again.mk ⟨j+1,n2+1,true,S3,C3,D4⟩ (by show nms.length - (j+1)<nms.length - j;omega) ⟨hjt,gL,by symm;rw[bne_iff_ne];show n2+1≠n;omega,by show n≤n2+1;omega,dz,dy,cv,dR,by show n2+1≤M+ (j+1);omega⟩ rfl rfl
  ·obtain rfl:j=nms.length:=by omega
   have d2:decide ((nms.length:Int)< (nms.length:Int))=false:=decide_eq_false (by omega)
   rw[VS] at gL
   rw[←gL] at g8
   have WR:=hM.next aC l9
   by_cases oY:n2=n
   ·have ha:any=false:=by rw[SO,oY];simp
    have fO:kU (aH k) n S1=(n2,0,S2):=by rw[g8];exact if_pos (.inr oY)
    rw[fO,if_neg (by simp)] at hR
    refine Cw.world fun wz eR=> ?_
    have di:DcP (D3++X2) C2 S2:=aw.mono fun b o h=>rl (A:=D3) (by have:=eR.nodup;rw[keys,List.map_cons,List.nodup_cons] at this;exact this.2) h
    clear eR
    subst ha
    first|with_reducible refine ks [] (And.intro @cN (And.intro @d2 (@ln3))) ?_|refine kp (And.intro @cN (And.intro @d2 (@ln3))) ?_
    exact Again.mk ⟨k+1,n2,S2,C2,D3++X2,M+nms.length+1⟩ (by show 3 - (k+1)<3 - k;omega) ⟨aC,by rw[show 3 - (k+1)=f by omega];exact hR,rfl,di,ai.mono (by show M+nms.length≤M+nms.length+1;omega),aj,WR,by show n2≤M+nms.length+1;omega⟩ rfl rfl
   ·have ha:any=true:=by rw[SO,bne_iff_ne];exact oY
    have fO:kU (aH k) n S1=(n2,(fC S2 (aH k)).2,(fC S2 (aH k)).1):=by rw[g8];exact if_neg (fun h=>by rcases h with h|h;exact h rfl;exact oY h)
    rw[fO] at hR
    clear g8 fO
    subst ha
    first|with_reducible refine ks [] (And.intro @cN (And.intro @d2 (@ln3))) ?_|refine kp (And.intro @cN (And.intro @d2 (@ln3))) ?_
    refine Cw.permL (M:=X2++ ((b5,cV)::D3)) (by classical exact List.perm_iff_count.2 fun a=>by simp only[List.count_append,List.count_cons,List.count_nil]<;>omega) ?_
    refine Cw.world fun wz eR=> ?_
    have rd5:aM w (X2++ ((b5,cV)::D3)) b5=some cV:=aL (rl eR.nodup (by simp[Sx.look]))
    have ki:Ext w X (X2++ ((b5,cV)::D3)):=aj.perm (by classical exact List.perm_iff_count.2 fun a=>by simp only[List.count_append,List.count_cons,List.count_nil]<;>omega)
    clear eR
    first|with_reducible refine ks [] (And.intro @cN (And.intro @rd5 (And.intro @ix (@ld)))) ?_|refine kp (And.intro @cN (And.intro @rd5 (And.intro @ix (@ld)))) ?_
    refine Ow.callX (X:=X2) (Y:=(b5,cV)::D3) rfl rfl rfl Tryz.call32 (fun w' aB aQ aN=>qp X2 C2 S2 (M+nms.length) 3 (aH k) [] [] w' aQ aN aw ai (by omega) ⟨by decide,by decide⟩ (Nat.zero_le _) (Nat.zero_le _)) (fun v4 D4 au aZ=> ?_)
    obtain⟨rfl,C3,dz,dy⟩:=aZ
    have A9:=ki.came au
    have cv:=ai.do (by omega) 3 (aH k) [] [] (Nat.zero_le _) (Nat.zero_le _)
    rw[show doV S2 3 (aH k) [] []=fC S2 (aH k) from rfl] at cv dy ⊢
    generalize fC S2 (aH k)=q at*
    obtain⟨S3,e⟩:=q
    simp only at hR cv dy ⊢
    have r8:Ext w X ((b5,cV):: (D3++D4)):=A9.perm (by classical exact List.perm_iff_count.2 fun a=>by simp only[List.count_append,List.count_cons,List.count_nil]<;>omega)
    refine Ow.permL (M:=(b5,cV):: (D3++D4)) (by classical exact List.perm_iff_count.2 fun a=>by simp only[List.count_append,List.count_cons,List.count_nil]<;>omega) ?_
    refine Ow.world fun wz eR=> ?_
    have BD:=eR.nodup
    rw[keys,List.map_cons,List.nodup_cons] at BD
    have di:DcP (D3++D4) C3 S3:=dy.mono fun b o h=>rl (A:=D3) BD.2 h
    clear BD
    by_cases h0:e≠0
    ·have e2:=jN h0
     rw[if_pos h0] at hR
     have mh:DcP ((b5,cV):: (D3++D4)) C3 S3:=di.mono fun b o h=>rl (A:= [(b5,cV)]) eR.nodup h
     refine ko @cN ?_
     first|with_reducible refine ks [] (And.intro @cN @e2) ?_|refine kp (And.intro @cN @e2) ?_
     refine⟨_,(ke @cN), ?_⟩
     rw[←hR]
     exact⟨r8,rfl,C3,(dz.trans aX).trans bJ,mh⟩
    ·have e2: ((e:Int) !=0)=false:=by rw[show e=0 by simpa using h0];rfl
     rw[if_neg h0] at hR
     clear eR
     refine ko @cN ?_
     first|with_reducible refine ks [] (And.intro @cN @e2) ?_|refine kp (And.intro @cN @e2) ?_
     exact Again.mk ⟨k+1,n2,S3,C3,D3++D4,M+nms.length+1⟩ (by show 3 - (k+1)<3 - k;omega) ⟨aC,by rw[show 3 - (k+1)=f by omega];exact hR,dz,di,cv,r8,WR,by show n2≤M+nms.length+1;omega⟩ rfl rfl
 ·obtain rfl:k=3:=by omega
  have d1:decide (((3:Nat):Int)<3)=false:=rfl
  refine Cw.world fun w1 aJ=> ?_
  first|with_reducible refine ks [] (And.intro @cN @d1) ?_|refine kp (And.intro @cN @d1) ?_
  refine⟨_,(ke @cN), ?_⟩
  rw[←hR]
  exact⟨hE,rfl,C1,bJ,aS.mono fun b o h=>rl (A:= [(b5,cV)]) aJ.nodup h⟩
end Go.Proofs
end
section
open Go Go.Proofs Go.Sx Go.StP Go.Flo
namespace Go.Proofs
set_option maxRecDepth 10000
set_option maxHeartbeats 1000000
set_option linter.unusedSimpArgs false
set_option linter.defProp false
def oK:=And.intro (And.intro (@ay) (And.intro (@ax) (@uP))) (And.intro (@uR) (And.intro (@uT) (@uW)))
theorem Vl (w:World) (G:DkG) (G':DcG) (S:DiskL) (hD:DkW w G S) (hC:DcW w G' S) (hG:mX w) (ok:DkOk S) {N:Nat} (hN:DkN N S) (tS:N<900000) (hu:gV S<4611686018427387904):
  Rets Tryz.prog 43 #[vp G.bd 0,vp G'.bd 0] w (fun v D=>v= .bool true∧D= []):=by
 have hB:DkB S:=hN.b (by omega)
 have eN: (pG S).length≤3000000:=E3 hB 3 (Nat.le_refl _)
 have U4: ((gV S:Int)==(gV S:Int))=true:=beq_self_eq_true _
 have vN:bA Tryz.prog .eql 4 (.bool S.off) (.bool S.off)=some (.bool true):=by
  show some (Value.bool (S.off==S.off))=_
  rw[beq_self_eq_true]
 refine Rets.enterV Tryz.func43 rfl (rs:= [.tmp 4]) Tryz.results43 Tryz.ntmps43 ?_
 refine kf ?_
 first|with_reducible refine ks [1] @oK ?_|refine kp @oK ?_
 have k8:New w.heap.size ([]:aA):=trivial
 refine Cw.regionS [G'.bd] [0,2,1,3,4,5,6,8,9,10,11,7,12,13,14,15,17,16,18,19,20,21] [] (by kernel_rfl) (by kernel_rfl) (by kernel_rfl) ?_
 simp only[ar, ↓ap, ↓ag, ↓an, ↓am,ah]
 refine kq @oK ?_
 refine Ow.soft rfl rfl rfl ?_
 refine Ow.callC rfl rfl Tryz.call19 (fun w' aB=>HO w' G S (hD.old aB k8) (qb hG aB k8) hB) (fun B2 v2 D2 ai fh bw bl=> ?_)
 rw[List.nil_append]
 have pw:New w.heap.size D2:=bw.mono fh
 obtain⟨X,hX,hP⟩:=id hC
 have hd:=hX _ _ hP.disk
 have hR: ∀ {Y Z:aA},New w.heap.size Y→New w.heap.size Z→ ∀r,r∈ [G'.bd]→aM w Y r=aM w Z r:=fun h1 h2 r hr=>by
  rw[List.mem_singleton] at hr
  subst hr
  exact(lL hd h1).trans (lL hd h2).symm
 with_reducible refine Ow.nil ?_
 refine⟨hR pw k8, ?_⟩
 refine kq @oK ?_
 refine Ow.soft rfl rfl rfl ?_
 refine Ow.callC rfl rfl Tryz.call71 (fun w' aB=>M8 w' G' S (hC.old aB pw) ok hB) (fun B3 v3 D3 cv kg dY fE=> ?_)
 have dw:New w.heap.size (D2++D3):=pw.app (dY.mono kg)
 with_reducible refine Ow.nil ?_
 refine⟨hR dw pw, ?_⟩
 refine kq @oK ?_
 refine Ow.soft rfl rfl rfl ?_
 refine Ow.callFV rfl Tryz.call25 (fun w' aB=>Xo v2 v3 (pG S) (pG S) w' ((bl.mono (fun q hq=>by simp[hq])).slV (z:=fi0) aB rfl rfl lX) ((fE.mono (fun q hq=>by simp[hq])).slV (z:=fi0) aB rfl rfl lX) (by omega)) ?_
 with_reducible refine Ow.nil ?_
 refine⟨by intro b hb;simp only[List.mem_cons,List.not_mem_nil,or_false] at hb;(try subst hb);rfl, ?_⟩
 have rdf:=lL hd dw
 refine kq (And.intro @oK (And.intro @decide_true (@rdf))) ?_
 refine Ow.soft rfl rfl rfl ?_
 refine Ow.callFV rfl Tryz.call34 (fun w' aB=>LV w' G S (hD.old aB dw)) ?_
 with_reducible refine Ow.nil ?_
 refine⟨by intro b hb;simp only[List.mem_cons,List.not_mem_nil,or_false] at hb;(try subst hb);rfl, ?_⟩
 refine kq (And.intro @oK @vN) ?_
 refine Ow.soft rfl rfl rfl ?_
 refine Ow.callFV rfl Tryz.call24 (fun w' aB=>EY w' G S (hD.old aB dw) hu) ?_
 with_reducible refine Ow.nil ?_
 refine⟨by intro b hb;simp only[List.mem_cons,List.not_mem_nil,or_false] at hb;(try subst hb);rfl, ?_⟩
 refine kq @oK ?_
 refine Ow.soft rfl rfl rfl ?_
 refine Ow.callFV rfl Tryz.call90 (fun w' aB=>VV w' G' S (hC.old aB dw) ok hB hu) ?_
 with_reducible refine Ow.nil ?_
 refine⟨by intro b hb;simp only[List.mem_cons,List.not_mem_nil,or_false] at hb;(try subst hb);rfl, ?_⟩
 refine kq (And.intro @oK @U4) ?_
 refine⟨_,(ke @oK),dw, ?_⟩
 rfl
end Go.Proofs
end
section
open Go Go.Proofs Go.Sx Go.StP Go.Flo
namespace Go.Proofs
set_option maxRecDepth 10000
set_option maxHeartbeats 1000000
set_option linter.unusedSimpArgs false
set_option linter.defProp false
end Go.Proofs
end
section
open Go Go.Proofs Go.Sx Go.StP Go.Flo
namespace Go.Proofs
set_option maxRecDepth 10000
set_option maxHeartbeats 1000000
set_option linter.unusedSimpArgs false
set_option linter.defProp false
end Go.Proofs
end
section
open Go Go.Proofs Go.Sx Go.StP Go.Flo
namespace Go.Proofs
set_option maxRecDepth 10000
set_option maxHeartbeats 1000000
set_option linter.unusedSimpArgs false
set_option linter.defProp false
end Go.Proofs
end
namespace Go.Sx
open Go Go.ChangeShapes Go.WideShapes Go.RowKit
theorem Hp.same0 {W W':World} (h:Hp W [] W') {b:Nat} (hb:b<W.heap.size):W'.heap[b]? =W.heap[b]? :=h.old b hb (fun hm=>by cases hm)
theorem Hp.kept {W W':World} (h:Hp W [] W') (may:MemPlace→Prop):W.keptBut W' may:=by
 refine⟨h.os,h.output,fun i hi=> ?_⟩
 rw[h.same0 hi]
 cases ho:W.heap[i]? with
 |none=>rfl
 |some o=>
  cases o<;>first
   |exact⟨rfl,rfl,rfl,fun _ _=>rfl⟩
   |exact .inr ⟨rfl,rfl⟩
   |rfl
theorem Hp.sameAt {W W':World} (h:Hp W [] W') {p:MemPlace} (hp:p.block<W.heap.size):W.sameAt W' p:=by
 cases p with
 |cell b off=>
  have:=h.same0 (b:=b) hp
  simp only[World.sameAt,World.cell?,this]
 |map b=>exact h.same0 hp
theorem Hp.frozen {W W':World} (h:Hp W [] W') {a:Addr} (ha:a.block<W.heap.size):W'.frozen? a=W.frozen? a:=by
 simp only[World.frozen?,h.same0 ha]
section
variable {H:Type} {enc:TypeId×Value→H} {P:Program}
theorem Vw (hl:laidOutB P=true) {W W':World} {sp:Nat→Bool} (hp:Hp W [] W'): ∀ {ts:List TypeId} {vs:List Value} {ds:List (DataW H)} {ps:List MemPlace},
  (∀t∈ts,P.readableRec t=true∧t<P.types.size)→(∀p∈ps,p.block<W.heap.size)→(∀p∈ps,sp p.block=true)→
  DataW.TrodAll enc P W 0 (fun _=>true) true ts vs ds ps→DataW.TrodAll enc P W' 0 sp true ts vs ds ps
 | [],_,_,_,_,_,_,h=>by
  obtain⟨rfl,rfl,rfl⟩:=trodAll_nil h
  exact trodAll_mk0
 |t::ts,_,_,_,ht,aC,hs,h=>by
  obtain⟨v,vs,d,ds,p,q,rfl,rfl,rfl,h1,h2⟩:=trodAll_cons h
  have TK: ∀x∈p,x.block<W.heap.size:=fun x hx=>aC x (List.mem_append_left _ hx)
  exact trodAll_cons_mk (WideElems.Trod_stays hl (ht t List.mem_cons_self).1 (ht t List.mem_cons_self).2 h1 (fun x hx=>hp.sameAt (TK x hx)) (fun x hx=>hs x (List.mem_append_left _ hx)))
   (Vw hl hp (fun u hu=>ht u (List.mem_cons_of_mem _ hu)) (fun x hx=>aC x (List.mem_append_right _ hx)) (fun x hx=>hs x (List.mem_append_right _ hx)) h2)
theorem LM {f:Func} {s:ChangeSpec} {W W':World} {args:Array Value} {ds gs:List (DataW H)} {before:List MemPlace} {tb:TypeId} (hl:laidOutB P=true)
  (hW:DataW.Whole enc P f.params.toList s.vars false W args.toList ds gs before) (hv:s.vars= []) (Td: ∀t∈f.params.toList,P.readableRec t=true∧t<P.types.size)
  (hr:f.resultTypes= #[tb]) (X5:P.underlying tb=some .bool) (eu:s.fn H ds={results:= [.lit (.bool true)],args:=ds}) (hp:Hp W [] W'):
  s.post enc P f false true false false W args (.bool true) W':=by
 have aC:=hW.lt
 have WW:=hW
 obtain⟨p,q,hA,hV,rfl,hz,hn⟩:=hW
 rw[hv] at hV
 obtain⟨rfl,rfl⟩:=trodVars_none hV
 rw[List.append_nil] at WW aC hz
 have nV: ∀sp:Nat→Bool,(∀x∈p,sp x.block=true)→DataW.TrodAll enc P W' 0 sp true f.params.toList args.toList (s.fn H (ds++ [])).args p:=fun sp hs=>by
  rw[List.append_nil,eu]
  exact Vw hl hp Td aC hs hA
 have re: ∀sp:Nat→Bool,DataW.TrodVars enc P W' sp s.vars (s.fn H (ds++ [])).vars []:=fun sp=>by
  rw[List.append_nil,eu,hv];rfl
 have BP: ∀ (b:Nat) (sp:Nat→Bool) (hd:Bool),DataW.TrodAll enc P W' b sp hd f.resultTypes.toList ((Value.bool true).resultList f.resultTypes.size) (s.fn H (ds++ [])).results []:=fun b sp hd=>by
  rw[List.append_nil,eu,hr]
  exact trodAll_cons_mk (shut_bool X5 true) trodAll_mk0
 have io: ∀x∈p,(fun b=>decide (b<W.heap.size)) x.block=true:=fun x hx=>by simpa using aC x hx
 refine⟨ds,[],p,[],p,[],WW,BP _ _ _,nV _ io,re _,hp.kept _,fun _=> ?_⟩
 refine⟨ok_one hr rfl (okWide_bool_mk X5 true),_,_,([]++p)++ [],⟨[]++p,[],trodAll_append (nV _ (fun _ _=>rfl)) (BP _ _ _),re _,rfl, ?_,fun h=>by cases h⟩, ?_⟩
 ·intro b off hx
  have XD:MemPlace.cell b off∈p:=by simpa using hx
  rw[hp.frozen (aC _ XD)]
  exact hz b off XD
 ·intro x hx _
  simpa using hx
end
section
variable {P:Program} {W:World} {name:String} {k:IntKind} {zs:List Int}
end
section
variable {H:Type} {enc:TypeId×Value→H} {P:Program}
end
end Go.Sx
namespace Go.Sx
open Go
section
variable {P:Program}
theorem Mj {fits:TypeId→Bool} {d:Nat} {e:TypeId} {count off n:Nat} (h:rowAt P fits d e count off n=true):off≤count*P.cellsOf e:=by
 cases d with
 |zero=>simp[rowAt] at h
 |succ d=>
  unfold rowAt at h
  simp only at h
  split at h
  ·cases h
  ·rename_i hs
   have rW:0<P.cellsOf e:=Nat.pos_of_ne_zero hs
   have hd:=Nat.div_add_mod off (P.cellsOf e)
   have hm:=Nat.mod_lt off rW
   rw[Bool.or_eq_true] at h
   rcases h with h|h
   ·simp only[Bool.and_eq_true,beq_iff_eq,decide_eq_true_eq] at h
    have:off / P.cellsOf e*P.cellsOf e≤count*P.cellsOf e:=Nat.mul_le_mul_right _ (by omega)
    rw[Nat.mul_comm (P.cellsOf e)] at hd
    omega
   ·simp only[Bool.and_eq_true,decide_eq_true_eq] at h
    have: (off / P.cellsOf e+1)*P.cellsOf e≤count*P.cellsOf e:=Nat.mul_le_mul_right _ (by omega)
    rw[Nat.add_mul,Nat.one_mul] at this
    rw[Nat.mul_comm (P.cellsOf e)] at hd
    omega
theorem wv {e:TypeId} {count off:Nat}: ∀ {d:Nat} {u:TypeId} {n:Nat},liesAt P d e count off u n=true→off≤count*P.cellsOf e
 |0,u,n,h=>by simp[liesAt] at h
 |d+1,u,n,h=>by
  unfold liesAt at h
  rw[Bool.or_eq_true] at h
  rcases h with h|h
  ·exact Mj h
  ·split at h
   ·exact wv h
   ·cases h
theorem Qz {W:World} {r:Reach} {base:Nat} {a:Addr} {e:TypeId} {n:Nat} (h:W.has P r base a e n):a.spot=none∧ ∃arr E fz,W.heap[a.block]? =some (.cells arr E fz)∧a.off≤arr.size:=by
 obtain⟨-,hs,row,cells,jn,hl⟩:=h
 refine⟨hs, ?_⟩
 unfold World.shape? at jn
 split at jn
 ·rename_i c el fz hh
  cases jn
  refine⟨c,_,fz,hh,Nat.le_trans (wv hl) ?_⟩
  exact Nat.div_mul_le_self _ _
 ·cases jn
theorem LZ {W:World} {r:Reach} {base:Nat} {t e:TypeId} {v:Value} (ht:P.underlying t=some (.slice e)) (h:Value.okWide P W r base t v):
  v= .slice none 0 0∨ ∃b off len cap arr E fz,v=vsl b off len cap∧len≤cap∧W.heap[b]? =some (.cells arr E fz)∧off≤arr.size:=by
 obtain⟨a,len,cap,rfl⟩:=Go.WideShapes.okWide_slice ht h
 unfold Value.okWide at h
 rw[ht] at h
 unfold Cell.okWide at h
 rw[ht] at h
 simp only at h
 unfold Cell.ok at h
 rw[ht] at h
 cases a with
 |none=>
  left
  simp only at h
  split at h
  all_goals first| (cases h;done) |simp_all
 |some a=>
  right
  simp only at h
  obtain⟨eW,-,hh⟩:=h
  obtain⟨hs,arr,E,fz,hb,ho⟩:=Qz hh
  obtain⟨b,off,sp⟩:=a
  simp only at hs
  subst hs
  exact⟨b,off,len,cap,arr,E,fz,rfl,eW,hb,ho⟩
theorem Ra {α:Type} {enc:α→List Value} {z:α} {m:Nat} {W:World} {base b off c:Nat} {l:List α} {arr:Array Value} {E:TypeId} {fz:Nat×Nat} (Dh:0<m) (hm: ∀x,(enc x).length=m)
  (tg: ∀i,i<l.length→W.cells? base ((Addr.mk b off none).add (i*m)) m=some (enc (l.getD i z))) (rJ:W.heap[b]? =some (.cells arr E fz)) (hoff:off≤arr.size) (hc:l.length≤c):SlV m enc z W (vsl b off l.length c) l:=by
 have get: ∀k,k<l.length→ ∀j,j<m→arr[off+k*m+j]? =(enc (l.getD k z))[j]? :=by
  intro k hk j hj
  obtain⟨-,hl,hg⟩:=World.cells?_some (tg k hk)
  have:=hg j (by omega)
  rw[lb,lb] at this
  simp only[World.cell?,rJ,Option.isSome_none,Bool.false_eq_true,if_false] at this
  exact this
 refine SlV.sl rJ get hc ?_
 by_cases h0:l.length=0
 ·rw[h0];omega
 ·have h1:=get (l.length - 1) (by omega) (m - 1) (by omega)
  rw[List.getElem?_eq_getElem (by rw[hm];omega)] at h1
  have h2:=(Array.getElem?_eq_some_iff.1 h1).1
  have h3: (l.length - 1)*m+m=l.length*m:=by
   rw[←Nat.succ_mul];congr 1;omega
  omega
end
end Go.Sx
section
open Go Go.Proofs Go.Sx Go.StP Go.Flo
open Go.ChangeShapes Go.WideShapes Go.ChangeAt Go.RowKit Go.ChangeMaps
namespace Go.Proofs
set_option maxRecDepth 10000
set_option maxHeartbeats 1000000
set_option linter.unusedSimpArgs false
theorem Er {H:Type} {tell:TypeId×Value→H} {α:Type} {enc:α→List Value} {z:α} {m:Nat} {W:World} {r:Reach} {base b0:Nat} {sp:Nat→Bool} {dT:Bool} {fuel:Nat} {t e:TypeId} {v:Value} {x:DataW H×List MemPlace} {R:α→DataW H→Prop}
  (ht: (Tryz.prog).underlying t=some (.slice e)) (he: (Tryz.prog).cellsOf e=m) (Dh:0<m) (hm: ∀x,(enc x).length=m) (dH:Value.okWide Tryz.prog W r b0 t v)
  (Sf: ∀n cs y,DataW.trod tell Tryz.prog W base sp dT n e cs=some y→ ∃a,cs=enc a∧R a y.1) (hd:DataW.trod tell Tryz.prog W base sp dT fuel t [v]=some x):
  ∃l,SlV m enc z W v l∧(l= []∨ ∃es sp',x.1= .slice es sp'∧ ∀i,i<l.length→ ∃d,d∈es∧R (l.getD i z) d):=by
 rcases DataW.trod_slice ht hd with⟨dL,-⟩ | ⟨a,len,cap,elems,rest,n,-,dL,hx,-,hl,-,aP,lT,-,-⟩
 ·simp only[List.cons.injEq,and_true] at dL
  subst dL
  exact⟨[],SlV.nil W, .inl rfl⟩
 ·simp only[List.cons.injEq,and_true] at dL
  subst dL
  rcases LZ ht dH with h0| ⟨b,off,len',cap',arr,E,fz,h1,-,hb,ho⟩
  ·cases h0
  ·unfold vsl at h1
   cases h1
   rw[he] at lT
   have Wd: ∀i,i<len→ ∃q,W.cells? base ((Addr.mk b off none).add (i*m)) m=some (enc q)∧ ∃d,d∈elems.map (·.1)∧R q d:=by
    intro i hi
    have h2:=lT i hi
    rw[List.getElem?_eq_getElem (by omega)] at h2
    cases hc:W.cells? base ((Addr.mk b off none).add (i*m)) m with
    |none=>rw[hc] at h2;cases h2
    |some cs=>
     rw[hc] at h2
     obtain⟨q,rfl,hR⟩:=Sf _ _ _ h2
     exact⟨q,rfl,_,List.mem_map_of_mem (List.getElem_mem (by omega)),hR⟩
   obtain⟨f,hf⟩: ∃f:Nat→α,∀i,i<len→W.cells? base ((Addr.mk b off none).add (i*m)) m=some (enc (f i))∧ ∃d,d∈elems.map (·.1)∧R (f i) d:=by
    classical
    refine⟨fun i=>if h:i<len then Classical.choose (Wd i h) else z,fun i hi=> ?_⟩
    simp only[dif_pos hi]
    exact Classical.choose_spec (Wd i hi)
   have qK: ((List.range len).map f).length=len:=by simp
   have Aj: ∀i,i<len→((List.range len).map f).getD i z=f i:=fun i hi=>by
    rw[List.getD_eq_getElem?_getD,List.getElem?_map,List.getElem?_range hi];rfl
   refine⟨(List.range len).map f, ?_, .inr ⟨_,_,by rw[hx],fun i hi=> ?_⟩⟩
   ·have:=Ra (W:=W) (base:=base) (b:=b) (off:=off) (c:=cap) (l:=(List.range len).map f) (z:=z) Dh hm (fun i hi=>by
     rw[qK] at hi
     rw[(hf i hi).1,Aj i hi]) hb ho (by rw[qK];exact hl)
    rw[qK] at this
    exact this
   ·rw[qK] at hi
    rw[Aj i hi]
    exact(hf i hi).2
theorem Pi {H:Type} {tell:TypeId×Value→H} {W:World} {base:Nat} {sp:Nat→Bool} {dT:Bool} (n:Nat) (cs:List Value) (y:DataW H×List MemPlace)
  (h:DataW.trod tell Tryz.prog W base sp dT n 36 cs=some y): ∃a:FiL,cs=fiC a∧y.1= .agg [.lit (.string a.dir), .lit (.string a.name), .lit (.string a.data)]:=by
 obtain⟨y0,y1,y2,n',hy,aP,h0,h1,h2⟩:=Deep.trod_struct3 Tryz.underlying36 h
 have hc: (Tryz.prog).cellsOf 36=3:=by kernel_rfl
 have oR: (Tryz.prog).cellsOf 9=1:=by kernel_rfl
 simp only at h0 h1 h2
 rw[oR,List.drop_zero] at h0
 rw[oR] at h1 h2
 rw[hc] at aP
 obtain⟨s,hs,UB,-⟩:=DataW.trod_string Tryz.underlying9 h0
 obtain⟨u,hu,hyu,-⟩:=DataW.trod_string Tryz.underlying9 h1
 obtain⟨x,hx,hyx,-⟩:=DataW.trod_string Tryz.underlying9 h2
 refine⟨⟨s.data.toList,u.data.toList,x.data.toList⟩, ?_,by rw[hy,UB,hyu,hyx]⟩
 have hd:cs=cs.take 1++ ((cs.drop 1).take 1++ (cs.drop 2).take 1):=by
  rw[show(cs.drop 2).take 1=cs.drop 2 from List.take_of_length_le (by rw[List.length_drop];omega),show cs.drop 2=(cs.drop 1).drop 1 by rw[List.drop_drop],List.take_append_drop,List.take_append_drop]
 rw[hd,hs,hu,hx]
 rfl
theorem Hl {H:Type} {enc:TypeId×Value→H} {W:World} {r:Reach} {b0 base:Nat} {sp:Nat→Bool} {dT:Bool} {v:Value} {d:DataW H} {p:List MemPlace}
  (dH:Value.okWide Tryz.prog W r b0 22 v) (hd:DataW.Trod enc Tryz.prog W base sp dT 22 v d p):
  ∃l,FiSl W v l∧(l= []∨ ∃es sp',d= .slice es sp'∧ ∀i,i<l.length→ ∃e,e∈es∧e= .agg [.lit (.string (l.getD i fi0).dir), .lit (.string (l.getD i fi0).name), .lit (.string (l.getD i fi0).data)]):=by
 obtain⟨a0,len,cap,rfl⟩:=WideShapes.okWide_slice Tryz.underlying22 dH
 obtain⟨fu,hf⟩:=hd
 exact Er (z:=fi0) (R:=fun a e=>e= .agg [.lit (.string a.dir), .lit (.string a.name), .lit (.string a.data)]) Tryz.underlying22 (by kernel_rfl) (by decide) lX dH Pi hf
end Go.Proofs
end
section
open Go Go.Proofs Go.Sx Go.StP Go.Flo
namespace Go.Proofs
set_option maxRecDepth 10000
set_option maxHeartbeats 1000000
set_option linter.unusedSimpArgs false
def Em:DataW Unit:= .agg [.lit (.string fB), .lit (.string jV), .lit (.string jC)]
theorem Y8 {W:World} {base:Nat} {sp:Nat→Bool} {dT:Bool} {fuel:Nat} {cs:List Value} {p:List MemPlace}
  (hd:DataW.trod (fun _=>()) Tryz.prog W base sp dT fuel 131 cs=some (Em,p)):cs= [vs fB,vs jV,vs jC]:=by
 obtain⟨xs,m,-,hx,aP,jL,lT⟩:=DataW.trod_array Tryz.underlying131 hd
 have hc: (Tryz.prog).cellsOf 131=3:=by kernel_rfl
 have h1: (Tryz.prog).cellsOf 9=1:=by kernel_rfl
 rw[hc] at aP
 rw[h1] at lT
 have hm:xs.map (·.1)= [.lit (.string fB), .lit (.string jV), .lit (.string jC)]:=by
  have:=congrArg Prod.fst hx
  unfold Em at this
  simp only[DataW.agg.injEq] at this
  exact this.symm
 have h0:=lT 0 (by omega)
 have h2:=lT 1 (by omega)
 have h3:=lT 2 (by omega)
 rw[List.getElem?_eq_getElem (by omega)] at h0 h2 h3
 obtain⟨s0,Wz,Du,-⟩:=DataW.trod_string Tryz.underlying9 h0
 obtain⟨s1,mK,Dv,-⟩:=DataW.trod_string Tryz.underlying9 h2
 obtain⟨s2,eQ,vV,-⟩:=DataW.trod_string Tryz.underlying9 h3
 match xs,jL,hm,Du,Dv,vV with
 | [x0,x1,x2],_,hm,Du,Dv,vV=>
  simp only[List.map_cons,List.map_nil,List.cons.injEq,and_true] at hm
  simp only[List.getElem_cons_zero,List.getElem_cons_succ] at Du Dv vV
  obtain⟨m0,m1,m2⟩:=hm
  rw[Du] at m0
  rw[Dv] at m1
  rw[vV] at m2
  simp only[DataW.lit.injEq,Lit.string.injEq] at m0 m1 m2
  match cs,aP with
  | [c0,c1,c2],_=>
   simp only[Nat.zero_mul,List.drop_zero,List.take_succ_cons,List.take_zero,List.cons.injEq,and_true,Nat.one_mul,List.drop_succ_cons,Nat.reduceMul] at Wz mK eQ
   rw[Wz,mK,eQ,←m0,←m1,←m2]
   rfl
theorem W0 {W:World}: ∀ {laid:List (String×DataW Unit)} {ps:List MemPlace},DataW.LaidVars Tryz.prog W laid ps→("sediment/disk.order",Em)∈laid→mX W
 | [],_,_,hm=>by cases hm
 | (n',d')::rest,ps,h,hm=>by
  obtain⟨g',t',cs,fuel,p,q,Sn,Dn,qX,hd,hr,-⟩:=h
  rcases List.mem_cons.1 hm with hm|hm
  ·cases hm
   have hg: (Tryz.prog).globalNamed "sediment/disk.order" =some 0:=by kernel_rfl
   have hty: ((Tryz.prog).globals[(0:Nat)]?).map (·.type)=some 131:=by kernel_rfl
   obtain rfl:=Option.some.inj (hg.symm.trans Sn)
   obtain rfl:=Option.some.inj (hty.symm.trans Dn)
   have dL:=Y8 hd
   simp only[World.var?,hg,Option.bind_some] at qX
   split at qX
   ·rename_i cs' e f hb
    cases qX
    refine⟨e,f, ?_⟩
    rw[hb]
    congr 2
    apply Array.ext'
    rw[dL]
   ·cases qX
  ·exact W0 hr hm
end Go.Proofs
end
section
open Go Go.Proofs Go.Sx Go.StP Go.Flo
open Go.ChangeShapes Go.WideShapes Go.ChangeAt Go.RowKit Go.ChangeMaps
namespace Go.Proofs
set_option maxRecDepth 10000
set_option maxHeartbeats 1000000
set_option linter.unusedSimpArgs false
end Go.Proofs
end
section
open Go Go.Proofs Go.Sx Go.StP Go.Flo
namespace Go.Proofs
set_option maxRecDepth 10000
set_option maxHeartbeats 1000000
set_option linter.unusedSimpArgs false
abbrev JbSl (w:World) (v:Value) (l:List JbL):Prop:=SlV 4 jbC jb0 w v l
abbrev NmSl (w:World) (v:Value) (l:List (List UInt8)):Prop:=SlV 1 strC [] w v l
structure RunG14 where
 i:Nat
 S:DiskL
 G:DkG
 X:aA
 C:DcG
 Y:aA
 DG:aA
structure RunH14 where
 G:DkG
 X:aA
 C:DcG
 Y:aA
structure RunI14 where
 i:Nat
set_option linter.defProp false
def aY:=And.intro (And.intro (And.intro (@ay) (@ax)) (And.intro (@Sx.tup2_0) (And.intro (@Sx.tup2_1) (@yf)))) (And.intro (And.intro (@xS) (And.intro (@yL) (@xT))) (And.intro (@xP) (And.intro (@xV) (@MC))))
theorem YA (quota:Int) (v1:Value) (l:List FiL) (fuse:Int) (v3 v4:Value) (jobs:List JbL) (names:List (List UInt8)) (w:World) (hG:mX w) (hq: -9223372036854775808≤quota∧quota<9223372036854775808) (hv:FiSl w v1 l) (hb:FiB l) (hf: -9223372036854775808≤fuse∧fuse<9223372036854775808) (Dq:JbSl w v3 jobs) (vS:NmSl w v4 names) (oX: ∀s,s∈names→s.length<1099511627776):
  Rets Tryz.prog 8 #[vi quota,v1,vi fuse,v3,v4] w (fun v D=>v= .bool true∧D= []):=by
 have lnj:=Dq.len
 have lnn:=vS.len
 obtain⟨rb,off,arr,E,fz,hr⟩:=Dq.row
 obtain⟨rn,offn,arrn,En,fzn,nv⟩:=vS.row
 have uy:New w.heap.size ([]:aA):=trivial
 refine Rets.enterV Tryz.func8 rfl (rs:= [.tmp 10]) Tryz.results8 Tryz.ntmps8 ?_
 refine kf ?_
 first|with_reducible refine ks [1000008,1000021,26] @aY ?_|refine kp @aY ?_
 refine Ow.callFV rfl Tryz.call35 (fun w' aB=>UH w' (qb hG aB uy)) ?_
 refine ko @aY ?_
 first|with_reducible refine ks [] @aY ?_|refine kp @aY ?_
 refine Ow.callFV rfl Tryz.call15 (fun w' aB=>FQ v1 (.slice none 0 0) l [] w' (hv.oldN aB uy) hb (SlV.nil w') (by simp)) ?_
 cases Wi:sG l [] with
 |true=>
  refine ko @aY ?_
  first|with_reducible refine ks [] @aY ?_|refine kp @aY ?_
  refine Ow.callFV rfl Tryz.call35 (fun w' aB=>UH w' (qb hG aB uy)) ?_
  refine ko @aY ?_
  first|with_reducible refine ks [] @aY ?_|refine kp @aY ?_
  refine⟨_,(ke @aY),uy, ?_⟩
  rfl
 |false=>
  obtain⟨qK,-,u1⟩:=Lm Wi
  refine ko @aY ?_
  first|with_reducible refine ks [] @aY ?_|refine kp @aY ?_
  refine Ow.callC rfl rfl Tryz.call16 (fun w' aB=>Mr quota v1 l w' hq (qb hG aB uy) (hv.oldN aB uy) (by omega) hb) (fun B0 v0 D0 A5 pu k8 SD=> ?_)
  obtain⟨G0,rfl,kl⟩:=SD
  rw[List.nil_append]
  have AC:New w.heap.size D0:=k8.mono pu
  have DP:DkA D0 G0 (ofD quota l) l.length:=⟨kl,O6 quota l,QL quota l fun f hf=>by have:=(u1 f hf).1;omega⟩
  refine ko @aY ?_
  refine Ow.callC rfl rfl Tryz.call26 (fun w' aB=>Mg quota v1 l w' hq (hv.oldN aB AC) (by omega) hb) (fun B1 v1' E0 bv dh bX cz=> ?_)
  obtain⟨C0,rfl,Rt⟩:=cz
  have cy:New w.heap.size E0:=bX.mono dh
  have Sl:=Q6 quota l
  generalize Zx:ofD quota l=S0 at*
  refine ko @aY ?_
  first|with_reducible refine ks [] @aY ?_|refine kp @aY ?_
  refine Ow.callX (X:=D0) (Y:=E0) rfl rfl rfl Tryz.call37 (fun w' aB aQ aN=>J4 D0 G0 S0 fuse w' aQ aN kl hf) (fun v48 X1 Ru cz=> ?_)
  obtain⟨-,G1,SV,aS⟩:=cz
  have lQ:New w.heap.size X1:=qd Ru AC
  rw[←SV]
  refine ko @aY ?_
  first|with_reducible refine ks [] @aY ?_|refine kp @aY ?_
  refine Ow.permL (M:=E0++X1) (by classical exact List.perm_iff_count.2 fun a=>by simp only[List.count_append,List.count_cons,List.count_nil]<;>omega) ?_
  refine Ow.callX (X:=E0) (Y:=X1) rfl rfl rfl Tryz.call30 (fun w' aB aQ aN=>IE E0 C0 S0 fuse w' aQ aN Rt hf) (fun v49 Y1 nS bl=> ?_)
  obtain⟨-,C1,Sc,SC⟩:=bl
  have SK:New w.heap.size Y1:=qd nS cy
  rw[←Sc]
  generalize tU: ({S0 with fuse:=fuse,fused:=decide (0≤fuse)}:DiskL)=S1 at*
  have bv:DkA X1 G1 S1 l.length:=⟨aS,uU DP.H (by rw[←tU]),s5 DP.B (by rw[←tU])⟩
  have tk:S1.files.length≤l.length:=by rw[←tU];exact Sl
  refine ko @aY ?_
  refine Cw.permL (M:=X1++ (Y1++ [])) (by classical exact List.perm_iff_count.2 fun a=>by simp only[List.count_append,List.count_cons,List.count_nil]<;>omega) ?_
  refine Cw.cutO (G:=RunG14) [10,13,14,15,16,39,40,41,42,43,44,45,46,47,48,49,50,51,52,53,54,55,56,57,58,59,60,61,62,63,64,65,66,67,68,69,70,71,72,73,74,75,76,77,78,79,80,81,82,83,84,85,86,87,88,89,90,91,92,93,94,95,96,97] (fun g=> []) (fun g=>g.X++ (g.Y++g.DG)) (fun g=>g.i≤20∧DkA g.X g.G g.S (l.length+42*g.i)∧DcP g.Y g.C g.S∧g.S.files.length≤l.length+42*g.i∧g.G.bd=G1.bd∧g.C.bd=C1.bd∧New w.heap.size g.X∧New w.heap.size g.Y∧New w.heap.size g.DG) ?_ ?_
  ·first|with_reducible refine ks [] @aY ?_|refine kp @aY ?_
   refine Cw.loopG (G:=RunG14) [39,40,41,42,43,44,45,46,49,50,51,52,14,53,54,15,16,55,56,57,58,59,60,61,62,63,64,65,66,67,68,69,70,71,72,73,74,75,76,77,78,79,80,81,82,83,84,85,86,87,88,89,90,91,92,93,94,95,96,97,10,47,48,13] (fun g=> [(13,vi g.i)]) (fun g=>g.X++ (g.Y++g.DG)) (fun g=>g.i≤jobs.length∧g.i≤20∧DkA g.X g.G g.S (l.length+42*g.i)∧DcP g.Y g.C g.S∧g.S.files.length≤l.length+42*g.i∧g.G.bd=G1.bd∧g.C.bd=C1.bd∧New w.heap.size g.X∧New w.heap.size g.Y∧New w.heap.size g.DG) (fun g=>jobs.length - g.i) ⟨0,S1,G1,X1,C1,Y1,[]⟩ rfl rfl ?_ ?_
   ·exact⟨Nat.zero_le _,Nat.zero_le _,bv,SC,tk,rfl,rfl,lQ,SK,trivial⟩
   intro g j hg
   refine kv ?_
   clear bv SC tk lQ SK DP kl Rt
   obtain⟨i,S,G,X,C,Y,DG⟩:=g
   simp only at hg ⊢
   obtain⟨hi,oU,hA,hC,eN,bJ,g8,hN,m6,bD⟩:=hg
   rw[←bJ,←g8]
   have cr:New w.heap.size (X++ (Y++DG)):=hN.app (m6.app bD)
   have hD:DsA S (l.length+42*i):=⟨hA.P.ok,hA.B,eN⟩
   by_cases aC:i<jobs.length∧i<20
   ·have d1:decide ((i:Int)< (jobs.length:Int))=true:=decide_eq_true (by omega)
    have d2:decide ((i:Int)<20)=true:=decide_eq_true (by omega)
    have ix:=hr.idx true i aC.1
    have rda:aM w (X++ (Y++DG)) rb=some (.cells arr E fz):=by rw[j7 (cr.not (hr.lt (by omega)))];exact hr.has (by omega)
    have lda:=QO hr aC.1
    generalize jobs.getD i jb0=jb at*
    first|with_reducible refine ks [1000014,10,12] (And.intro @aY (And.intro @lnj (And.intro @d1 (And.intro @d2 (And.intro @ix (And.intro @rda (@lda))))))) ?_|refine kp (And.intro @aY (And.intro @lnj (And.intro @d1 (And.intro @d2 (And.intro @ix (And.intro @rda (@lda))))))) ?_
    refine Ow.alloc rfl rfl zrJb fun b9 ST qa=> ?_
    simp only[bL,List.nil_append,List.cons_append]
    refine Ow.permL (M:=(b9, .cells (jbC jb0).toArray 66 (0,0)):: (X++ (Y++DG))) (by classical exact List.perm_iff_count.2 fun a=>by simp only[List.count_append,List.count_cons,List.count_nil]<;>omega) ?_
    refine ko @aY ?_
    first|with_reducible refine ks [1000014,10] @aY ?_|refine kp @aY ?_
    refine Ow.callFV rfl Tryz.call36 (fun w' aB=>HJ jb w') ?_
    cases hgj:w7 jb with
    |true=>
     refine ko @aY ?_
     refine Cw.permL (M:=X++ (Y++ ((b9, .cells (jbC jb).toArray 66 (0,0))::DG))) (by classical exact List.perm_iff_count.2 fun a=>by simp only[List.count_append,List.count_cons,List.count_nil]<;>omega) ?_
     first|with_reducible refine ks [] @aY ?_|refine kp @aY ?_
     exact Again.mk ⟨i+1,S,G,X,C,Y,(b9, .cells (jbC jb).toArray 66 (0,0))::DG⟩ (by show jobs.length - (i+1)<jobs.length - i;omega) ⟨aC.1,aC.2,⟨hA.P,hA.H,hA.B.mono (by show l.length+42*i≤l.length+42* (i+1);omega)⟩,hC,by show S.files.length≤l.length+42* (i+1);omega,rfl,rfl,hN,m6,⟨qa,bD⟩⟩ rfl rfl
    |false=>
    obtain⟨j1,j2,j3⟩:=Ls hgj
    have DN:b9∉keys X:=fun hm=>by have:=cY ST (b:=b9) (by rw[bO];exact List.mem_append_left _ hm);omega
    have DO:b9∉keys Y:=fun hm=>by have:=cY ST (b:=b9) (by rw[bO,bO];exact List.mem_append_right _ (List.mem_append_left _ hm));omega
    refine ko @aY ?_
    refine Cw.permL (M:=X++ (Y++ ((b9, .cells (jbC jb).toArray 66 (0,0))::DG))) (by classical exact List.perm_iff_count.2 fun a=>by simp only[List.count_append,List.count_cons,List.count_nil]<;>omega) ?_
    have rd9:=t8 w (.cells (jbC jb).toArray 66 (0,0)) DG DN DO
    first|with_reducible refine ks [1000014,10] @aY ?_|refine kp @aY ?_
    refine Cw.cutO (G:=RunH14) [15,16,55,56,57,58,59,60,61,62,63,64,65,66,67,68,69,70,71,72,73,74,75,76,77,78,79,80,81,82,83,84,85,86,87,88] (fun g=> [(15,vi ((iT S jb.dir jb.name jb.data jb.light).1:Nat)),(16,vi ((iT S jb.dir jb.name jb.data jb.light).1:Nat))]) (fun g=>g.X++ (g.Y++ ((b9, .cells (jbC jb).toArray 66 (0,0))::DG))) (fun g=>DkA g.X g.G (iT S jb.dir jb.name jb.data jb.light).2 (l.length+42*i+42)∧DcP g.Y g.C (iT S jb.dir jb.name jb.data jb.light).2∧(iT S jb.dir jb.name jb.data jb.light).2.files.length≤l.length+42*i+20∧g.G.bd=G.bd∧g.C.bd=C.bd∧New w.heap.size g.X∧New w.heap.size g.Y) ?_ ?_
    ·cases Aq:jb.light with
     |true=>
     have hl:jb.light=true:=Aq
     first|with_reducible refine ks [] (And.intro @aY (And.intro @rd9 (@hl))) ?_|refine kp (And.intro @aY (And.intro @rd9 (@hl))) ?_
     refine Ow.callX (X:=X) (Y:=Y++ ((b9, .cells (jbC jb).toArray 66 (0,0))::DG)) rfl rfl rfl Tryz.call39 (fun w' aB aQ aN=>Uh X G S (l.length+42*i) jb.dir jb.name jb.data w' aQ aN hA (by omega) (by omega) (by omega)) (fun v15 X2 nS bl=> ?_)
     obtain⟨rfl,G2,aX,ai⟩:=bl
     have bw:New w.heap.size X2:=qd nS hN
     have tO:b9∉keys X2:=li nS DN (by simp[keys])
     refine Ow.permL (M:=Y++ (X2++ ((b9, .cells (jbC jb).toArray 66 (0,0))::DG))) (by classical exact List.perm_iff_count.2 fun a=>by simp only[List.count_append,List.count_cons,List.count_nil]<;>omega) ?_
     have rdY:=t8 w (.cells (jbC jb).toArray 66 (0,0)) DG DO tO
     refine ko @aY ?_
     first|with_reducible refine ks [] (And.intro @aY @rdY) ?_|refine kp (And.intro @aY @rdY) ?_
     refine Ow.callX (X:=Y) (Y:=X2++ ((b9, .cells (jbC jb).toArray 66 (0,0))::DG)) rfl rfl rfl Tryz.call41 (fun w' aB aQ aN=>Fi Y C S (l.length+42*i) jb.dir jb.name jb.data w' aQ aN hC hD (by omega) (by omega) (by omega)) (fun v16 Y2 tQ fE=> ?_)
     obtain⟨rfl,C2,ku,uz,Rv⟩:=fE
     have nT:New w.heap.size Y2:=qd tQ m6
     refine Ow.permL (M:=X2++ (Y2++ ((b9, .cells (jbC jb).toArray 66 (0,0))::DG))) (by classical exact List.perm_iff_count.2 fun a=>by simp only[List.count_append,List.count_cons,List.count_nil]<;>omega) ?_
     refine ko @aY ?_
     exact CutO.mk ⟨G2,X2,C2,Y2⟩ ⟨ai,uz,Rv.fl,aX,ku,bw,nT⟩ rfl rfl
     |false=>
     have hl:jb.light=false:=Aq
     first|with_reducible refine ks [] (And.intro @aY (And.intro @rd9 (@hl))) ?_|refine kp (And.intro @aY (And.intro @rd9 (@hl))) ?_
     refine Ow.callX (X:=X) (Y:=Y++ ((b9, .cells (jbC jb).toArray 66 (0,0))::DG)) rfl rfl rfl Tryz.call38 (fun w' aB aQ aN=>VL X G S (l.length+42*i) jb.dir jb.name jb.data w' aQ aN hA (by omega) (by omega) (by omega)) (fun v15 X2 nS bl=> ?_)
     obtain⟨rfl,G2,aX,ai⟩:=bl
     have bw:New w.heap.size X2:=qd nS hN
     have tO:b9∉keys X2:=li nS DN (by simp[keys])
     refine Ow.permL (M:=Y++ (X2++ ((b9, .cells (jbC jb).toArray 66 (0,0))::DG))) (by classical exact List.perm_iff_count.2 fun a=>by simp only[List.count_append,List.count_cons,List.count_nil]<;>omega) ?_
     have rdY:=t8 w (.cells (jbC jb).toArray 66 (0,0)) DG DO tO
     refine ko @aY ?_
     first|with_reducible refine ks [] (And.intro @aY @rdY) ?_|refine kp (And.intro @aY @rdY) ?_
     refine Ow.callX (X:=Y) (Y:=X2++ ((b9, .cells (jbC jb).toArray 66 (0,0))::DG)) rfl rfl rfl Tryz.call42 (fun w' aB aQ aN=>Gl Y C S (l.length+42*i) jb.dir jb.name jb.data w' aQ aN hC hD (by omega) (by omega) (by omega)) (fun v16 Y2 tQ fE=> ?_)
     obtain⟨rfl,C2,ku,uz,Rv⟩:=fE
     have nT:New w.heap.size Y2:=qd tQ m6
     refine Ow.permL (M:=X2++ (Y2++ ((b9, .cells (jbC jb).toArray 66 (0,0))::DG))) (by classical exact List.perm_iff_count.2 fun a=>by simp only[List.count_append,List.count_cons,List.count_nil]<;>omega) ?_
     refine ko @aY ?_
     exact CutO.mk ⟨G2,X2,C2,Y2⟩ ⟨ai,uz,Rv.fl,aX,ku,bw,nT⟩ rfl rfl
    ·intro g j hg
     refine kv ?_
     clear hA hC hD eN hN m6 DN DO rd9
     obtain⟨G2,X2,C2,Y2⟩:=g
     simp only at hg ⊢
     obtain⟨hA,hC,eN,aX,ku,hN,m6⟩:=hg
     rw[←aX,←ku]
     generalize iT S jb.dir jb.name jb.data jb.light=q at*
     obtain⟨e,S'⟩:=q
     simp only at hA hC eN ⊢
     have z1: ((e:Int) !=(e:Int))=false:=bne_self_eq_false _
     have AI:New w.heap.size (X2++ (Y2++ ((b9,Obj.cells (jbC jb).toArray 66 (0,0))::DG))):=hN.app (m6.app (show New w.heap.size ((b9,_)::DG) from⟨qa,bD⟩))
     first|with_reducible refine ks [10] (And.intro @aY @z1) ?_|refine kp (And.intro @aY @z1) ?_
     refine Ow.callFV rfl Tryz.call43 (fun w' aB=>Vl w' G2 C2 S' (hA.P.worldM aB (fun p hp=>by simp[hp])) (hC.worldM aB (fun p hp=>by simp[hp])) (qb hG aB AI) hA.P.ok hA.B (by omega) (hA.used (by omega))) ?_
     refine ko (And.intro @aY @z1) ?_
     first|with_reducible refine ks [] @aY ?_|refine kp @aY ?_
     exact Again.mk ⟨i+1,S',G2,X2,C2,Y2,(b9, .cells (jbC jb).toArray 66 (0,0))::DG⟩ (by show jobs.length - (i+1)<jobs.length - i;omega) ⟨aC.1,aC.2,⟨hA.P,hA.H,hA.B.mono (by show l.length+42*i+42≤l.length+42* (i+1);omega)⟩,hC,by show S'.files.length≤l.length+42* (i+1);omega,rfl,rfl,hN,m6,⟨qa,bD⟩⟩ rfl rfl
   ·have d1: (decide ((i:Int)< (jobs.length:Int))=true∧decide ((i:Int)<20)=false)∨decide ((i:Int)< (jobs.length:Int))=false:=by
     by_cases h1:i<jobs.length
     ·exact .inl ⟨decide_eq_true (by omega),decide_eq_false (by omega)⟩
     ·exact .inr (decide_eq_false (by omega))
    rcases d1 with⟨d1,d2⟩ |d1
    ·first|with_reducible refine ks [] (And.intro @aY (And.intro @lnj (And.intro @d1 (@d2)))) ?_|refine kp (And.intro @aY (And.intro @lnj (And.intro @d1 (@d2)))) ?_
     exact CutO.mk ⟨i,S,G,X,C,Y,DG⟩ ⟨oU,hA,hC,eN,rfl,rfl,hN,m6,bD⟩ rfl rfl
    ·first|with_reducible refine ks [] (And.intro @aY (And.intro @lnj (@d1))) ?_|refine kp (And.intro @aY (And.intro @lnj (@d1))) ?_
     exact CutO.mk ⟨i,S,G,X,C,Y,DG⟩ ⟨oU,hA,hC,eN,rfl,rfl,hN,m6,bD⟩ rfl rfl
  ·intro g j hg
   refine kv ?_
   clear bv SC tk lQ SK DP kl Rt
   obtain⟨i,S,G,X,C,Y,DG⟩:=g
   simp only at hg ⊢
   obtain⟨oU,hA,hC,eN,bJ,g8,hN,m6,bD⟩:=hg
   rw[←bJ,←g8]
   have cr:New w.heap.size (X++ (Y++DG)):=hN.app (m6.app bD)
   generalize hM:l.length+42*i=M at*
   have WQ:M≤100000:=by omega
   have hD:DsA S M:=⟨hA.P.ok,hA.B,eN⟩
   first|with_reducible refine ks [1000021] @aY ?_|refine kp @aY ?_
   refine Cw.cutO (G:=Unit) [10,17,98,99,100,101,102,103,104,105,106,107,108,109,110,111,112,113,114,115,116,117,118] (fun g=> []) (fun g=>X++ (Y++DG)) (fun g=>True) ?_ ?_
   ·first|with_reducible refine ks [] @aY ?_|refine kp @aY ?_
    refine Cw.loopG (G:=RunI14) [98,99,100,101,102,103,104,105,108,109,110,111,112,113,114,115,116,117,118,10,106,107,17] (fun g=> [(17,vi g.i)]) (fun g=>X++ (Y++DG)) (fun g=>g.i≤names.length) (fun g=>names.length - g.i) ⟨0⟩ rfl rfl ?_ ?_
    ·exact Nat.zero_le _
    intro g j hg
    refine kv ?_
    obtain⟨j⟩:=g
    simp only at hg ⊢
    by_cases aC:j<names.length∧j<20
    ·have d1:decide ((j:Int)< (names.length:Int))=true:=decide_eq_true (by omega)
     have d2:decide ((j:Int)<20)=true:=decide_eq_true (by omega)
     have ix:=fun a=>nv.idx a j aC.1
     have ld:=fun n=>us nv aC.1 n
     have rda:aM w (X++ (Y++DG)) rn=some (.cells arrn En fzn):=by rw[j7 (cr.not (nv.lt (by omega)))];exact nv.has (by omega)
     have cT:=oX _ (mq (z:= []) aC.1)
     generalize names.getD j []=s at*
     have eA:bA Tryz.prog .neq 4 (.bool (mW s)) (.bool (mW s))=some (.bool false):=by
      show some (Value.bool (mW s !=mW s))=_
      rw[bne_self_eq_false]
     first|with_reducible refine ks [24] (And.intro @aY (And.intro @lnn (And.intro @d1 (@d2)))) ?_|refine kp (And.intro @aY (And.intro @lnn (And.intro @d1 (@d2)))) ?_
     refine Cw.regionS [rn] [0,1,2,5,6,7,3,8,4,9,10] [] (by kernel_rfl) (by kernel_rfl) (by kernel_rfl) ?_
     simp only[ar, ↓ap, ↓ag, ↓an, ↓am,ah]
     refine kq (And.intro @aY (And.intro @ix (And.intro @ld (@rda)))) ?_
     refine Ow.soft rfl rfl rfl ?_
     refine Ow.callFV rfl Tryz.call44 (fun w' aB=>UQ s w' cT) ?_
     with_reducible refine Ow.nil ?_
     refine⟨by intro b hb;simp only[List.mem_cons,List.not_mem_nil,or_false] at hb;(try subst hb);rfl, ?_⟩
     refine kq (And.intro @aY (And.intro @ix (And.intro @ld (@rda)))) ?_
     refine Ow.soft rfl rfl rfl ?_
     refine Ow.callFV rfl Tryz.call45 (fun w' aB=>VH s w' cT) ?_
     with_reducible refine Ow.nil ?_
     refine⟨by intro b hb;simp only[List.mem_cons,List.not_mem_nil,or_false] at hb;(try subst hb);rfl, ?_⟩
     refine kq (And.intro @aY @eA) ?_
     first|with_reducible refine ks [] @aY ?_|refine kp @aY ?_
     exact Again.mk ⟨j+1⟩ (by show names.length - (j+1)<names.length - j;omega) aC.1 rfl rfl
    ·have d1: (decide ((j:Int)< (names.length:Int))=true∧decide ((j:Int)<20)=false)∨decide ((j:Int)< (names.length:Int))=false:=by
      by_cases h1:j<names.length
      ·exact .inl ⟨decide_eq_true (by omega),decide_eq_false (by omega)⟩
      ·exact .inr (decide_eq_false (by omega))
     rcases d1 with⟨d1,d2⟩ |d1
     ·first|with_reducible refine ks [] (And.intro @aY (And.intro @lnn (And.intro @d1 (@d2)))) ?_|refine kp (And.intro @aY (And.intro @lnn (And.intro @d1 (@d2)))) ?_
      exact CutO.mk () trivial rfl rfl
     ·first|with_reducible refine ks [] (And.intro @aY (And.intro @lnn (@d1))) ?_|refine kp (And.intro @aY (And.intro @lnn (@d1))) ?_
      exact CutO.mk () trivial rfl rfl
   ·intro g j hg
    refine kv ?_
    first|with_reducible refine ks [] @aY ?_|refine kp @aY ?_
    refine Ow.callX (X:=X) (Y:=Y++DG) rfl rfl rfl Tryz.call46 (fun w' aB aQ aN=>V9 X G S M w' aQ aN hA WQ) (fun v15 X2 nS bl=> ?_)
    obtain⟨rfl,G2,aX,ai⟩:=bl
    have bw:New w.heap.size X2:=qd nS hN
    rw[←aX]
    refine Ow.permL (M:=Y++ (X2++DG)) (by classical exact List.perm_iff_count.2 fun a=>by simp only[List.count_append,List.count_cons,List.count_nil]<;>omega) ?_
    refine ko @aY ?_
    first|with_reducible refine ks [] @aY ?_|refine kp @aY ?_
    refine Ow.callX (X:=Y) (Y:=X2++DG) rfl rfl rfl Tryz.call47 (fun w' aB aQ aN=>ID Y C S M w' aQ aN hC hD WQ) (fun v16 Y2 tQ fE=> ?_)
    obtain⟨rfl,C2,ku,uz⟩:=fE
    have nT:New w.heap.size Y2:=qd tQ m6
    rw[←ku]
    generalize qx S=q at*
    obtain⟨n,e,S'⟩:=q
    simp only at ai uz ⊢
    have AI:New w.heap.size (Y2++ (X2++DG)):=nT.app (bw.app bD)
    have z1: ((n:Int)==(n:Int))=true:=beq_self_eq_true _
    have z2: ((e:Int)==(e:Int))=true:=beq_self_eq_true _
    refine ko @aY ?_
    first|with_reducible refine ks [] @aY ?_|refine kp @aY ?_
    refine Ow.callFV rfl Tryz.call35 (fun w' aB=>UH w' (qb hG aB AI)) ?_
    refine ko (And.intro @aY (And.intro @z1 (@z2))) ?_
    refine Ow.callFV rfl Tryz.call43 (fun w' aB=>Vl w' G2 C2 S' (ai.P.worldM aB (fun p hp=>by simp[hp])) (uz.worldM aB (fun p hp=>by simp[hp])) (qb hG aB AI) ai.P.ok ai.B (by omega) (ai.used (by omega))) ?_
    refine ko (And.intro @aY (And.intro @z1 (@z2))) ?_
    first|with_reducible refine ks [] @aY ?_|refine kp @aY ?_
    refine⟨_,(ke @aY),AI, ?_⟩
    rfl
end Go.Proofs
end
section
open Go Go.Proofs Go.Sx Go.StP
namespace Go.Proofs
set_option maxRecDepth 10000
set_option maxHeartbeats 400000
set_option linter.unusedSimpArgs false
end Go.Proofs
end
section
open Go Go.Proofs Go.Sx Go.StP
namespace Go.Proofs
set_option maxRecDepth 10000
set_option maxHeartbeats 400000
set_option linter.unusedSimpArgs false
section
variable {S0 S:DiskL} {k:Nat} {nm dir data:List UInt8} {m:Nat}
end
end Go.Proofs
end
section
open Go Go.Proofs Go.Sx Go.StP
namespace Go.Proofs
set_option maxRecDepth 10000
set_option maxHeartbeats 400000
set_option linter.unusedSimpArgs false
end Go.Proofs
end
section
open Go Go.Proofs Go.Sx Go.StP Go.Flo
namespace Go.Proofs
set_option maxRecDepth 10000
set_option maxHeartbeats 1000000
set_option linter.unusedSimpArgs false
set_option linter.defProp false
end Go.Proofs
end
