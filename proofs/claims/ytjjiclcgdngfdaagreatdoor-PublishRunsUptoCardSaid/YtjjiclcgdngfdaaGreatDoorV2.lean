/-
  Part 2 of the walk: contracts of the functions that the law reaches, and the calculus they stand on.
  No conditions.
-/
import Derived.Test.YtjjiclcgdngfdaaGreatDoorV1
import GoSem.Core.Float
import Derived.Laws.MakeOwn
import Derived.Shelf.SlIter.Nil
import Derived.Shelf.SortM.Plain
import Derived.Shelf.SortM.SortNone
import Derived.Ground.GgzProg
import Derived.Ground.SlgmProg
section
open Go Go.Proofs Go.Sx Go.StP
namespace Go.Proofs
set_option maxRecDepth 10000
set_option maxHeartbeats 400000
set_option linter.unusedSimpArgs false
def fkC (c:UInt8):Int:=if c=98 then 1 else if c=116 then 2 else if c=99 then 3 else 0
def lfT (r:List UInt8):List UInt8×Nat×Int:=bN r 0 0 4096
def lfK (s:List UInt8):Int:=match s with| []=>0|c::_=>fkC c
def lfOk (s:List UInt8):Bool:=lfK s !=0&&du (s.drop 1) (lfT (s.drop 1)).2.1 (lfT (s.drop 1)).2.2==0&&lM (lfK s) (lfT (s.drop 1)).1
def zf (s:List UInt8) (v:Value):Prop:=v= .tuple #[obV (if lfOk s then lfK s else 0) (if lfOk s then(lfT (s.drop 1)).1 else []), .bool (lfOk s)]
theorem M3 (k k':Int) (t:List UInt8) (a:Bool) (E:TypeId):ac (some (a,1)) (some (.cells #[vi k',vs t] E (0,0))) 0 (vi k)=some (.cells #[vi k,vs t] E (0,0)):=(rfl)
theorem M0 (k:Int) (t t':List UInt8) (a:Bool) (E:TypeId):ac (some (a,1)) (some (.cells #[vi k,vs t'] E (0,0))) 1 (vs t)=some (.cells #[vi k,vs t] E (0,0)):=(rfl)
set_option linter.defProp false
def cM:=And.intro (And.intro (And.intro (@uh) (@vh)) (And.intro (@vq) (And.intro (@vk) (@M3)))) (And.intro (And.intro (@M0) (@Sx.tup2_0)) (And.intro (@Sx.tup2_1) (And.intro (@ay) (@ax))))
theorem V8 (s:List UInt8) (w:World) (hs:s.length<1099511627776):Rets Tryz.prog 106 #[vs s] w (fun v D=>zf s v∧D= []):=by
 refine Rets.enterV Tryz.func106 rfl (rs:= [.cell 2 82, .tmp 3]) Tryz.results106 Tryz.ntmps106 ?_
 refine kf ?_
 first|with_reducible refine ks [1000004] @cM ?_|refine kp @cM ?_
 refine Ow.alloc rfl rfl zrOb fun b2 bG cU=> ?_
 simp only[bL,List.nil_append,List.cons_append]
 refine ko @cM ?_
 by_cases hl:s.length=0
 ·obtain rfl:s= []:=List.eq_nil_of_length_eq_zero hl
  have d1: (((([]:List UInt8).length:Nat):Int)==0)=true:=rfl
  first|with_reducible refine ks [] (And.intro @cM @d1) ?_|refine kp (And.intro @cM @d1) ?_
  refine Ow.build (obV 0 []) rfl Bp ?_
  refine ko @cM ?_
  first|with_reducible refine ks [] @cM ?_|refine kp @cM ?_
  refine⟨_,(ke @cM),⟨cU,trivial⟩, ?_⟩
  rfl
 ·have d1: ((s.length:Int)==0)=false:=beq_eq_false_iff_ne.2 (by omega)
  obtain⟨c,r,rfl⟩: ∃c r,s=c::r:=by cases s with|nil=>exact absurd rfl hl|cons c r=>exact⟨c,r,rfl⟩
  have AZ: (c::r).drop 1=r:=rfl
  have g0: (c::r).getD 0 0=c:=rfl
  have aP: (c::r).length=r.length+1:=rfl
  have rV:r.length<1099511627775:=by omega
  first|with_reducible refine ks [] (And.intro @cM @d1) ?_|refine kp (And.intro @cM @d1) ?_
  refine Ow.build (obV 0 []) rfl Bp ?_
  refine ko @cM ?_
  refine Ow.alloc rfl rfl zrOb fun b4 mi o0=> ?_
  simp only[bL,List.nil_append,List.cons_append]
  have Ro:b2<b4:=cY mi (by simp[keys])
  have ht:=uS (s:=r) (a:=0) (e:=0) (most:=4096) (Nat.zero_le _)
  have Zm:lfT r=bN r 0 0 4096:=rfl
  have hO:lfOk (c::r)=(fkC c !=0&&du r (lfT r).2.1 (lfT r).2.2==0&&lM (fkC c) (lfT r).1):=rfl
  have hK:lfK (c::r)=fkC c:=rfl
  unfold zf
  rw[hK,AZ]
  have X6: (bN r 0 0 4096).1.length≤r.length:=EJ _ _ _ _
  have DZ:fkC c=0∨fkC c=1∨fkC c=2∨fkC c=3:=by
   unfold fkC;split<;>(try split)<;>(try split)<;>simp
  refine ko @cM ?_
  first|with_reducible refine ks [1000004] (And.intro @cM @g0) ?_|refine kp (And.intro @cM @g0) ?_
  refine Cw.cut (G:=Int) 40 (fun g=> [(0,vs (c::r)),(2,vp b2 0),(3, .bool false),(4,vp b4 0)]) (fun g=> [(b2,Obj.cells #[vi 0,vs []] 82 (0,0)),(b4,Obj.cells #[vi g,vs []] 82 (0,0))]) (fun g=>g=fkC c∧g≠0) ?_ ?_
  ·by_cases c1:c=98
   ·subst c1
    first|with_reducible refine ks [] (And.intro @cM @g0) ?_|refine kp (And.intro @cM @g0) ?_
    exact CutM.mk 1 ⟨rfl,by decide⟩ rfl rfl
   ·have e1: (c==98)=false:=by simpa using c1
    by_cases c2:c=116
    ·subst c2
     first|with_reducible refine ks [] (And.intro @cM (And.intro @e1 (@g0))) ?_|refine kp (And.intro @cM (And.intro @e1 (@g0))) ?_
     exact CutM.mk 2 ⟨rfl,by decide⟩ rfl rfl
    ·have e2: (c==116)=false:=by simpa using c2
     by_cases c3:c=99
     ·subst c3
      first|with_reducible refine ks [] (And.intro @cM (And.intro @e1 (And.intro @e2 (@g0)))) ?_|refine kp (And.intro @cM (And.intro @e1 (And.intro @e2 (@g0)))) ?_
      exact CutM.mk 3 ⟨rfl,by decide⟩ rfl rfl
     ·have e3: (c==99)=false:=by simpa using c3
      have hk:fkC c=0:=by unfold fkC;rw[if_neg c1,if_neg c2,if_neg c3]
      rw[hk] at hO ⊢
      rw[hO]
      first|with_reducible refine ks [] (And.intro @cM (And.intro @e1 (And.intro @e2 (And.intro @e3 (@g0))))) ?_|refine kp (And.intro @cM (And.intro @e1 (And.intro @e2 (And.intro @e3 (@g0))))) ?_
      refine Ow.build (obV 0 []) rfl Bp ?_
      refine ko @cM ?_
      first|with_reducible refine ks [] @cM ?_|refine kp @cM ?_
      refine⟨_,(ke @cM),⟨cU,o0,trivial⟩, ?_⟩
      rfl
  ·intro g j hg
   simp only[Qc,QR,pin,my,mz,Nat.reduceAdd]
   obtain⟨rfl,jg⟩:=hg
   have d0: (fkC c !=0)=true:=by simpa using jg
   rw[d0,Bool.true_and] at hO
   generalize fkC c=k at hO ⊢
   first|with_reducible refine ks [] (And.intro @cM @AZ) ?_|refine kp (And.intro @cM @AZ) ?_
   refine Ow.build (.agg #[vs r,vi 0,vi 0]) rfl (Kq r) ?_
   refine ko @cM ?_
   refine Ow.box rfl rfl fun br lR kH=> ?_
   have ZV:b2<br:=cY lR (by simp[keys])
   have h4r:b4<br:=cY lR (by simp[keys])
   simp only[eU,eT,ed,bL,List.nil_append,List.cons_append]
   refine ko @cM ?_
   refine Ow.callM rfl rfl Tryz.call144 (by simp[keys]) (fun w' aB=>Dy br r 0 0 4096 w' (Nat.zero_le _) (by omega) (aB.has _ _ (by simp))) ?_
   rw[←Zm] at ht X6 ⊢
   generalize lfT r=q at*
   obtain⟨tt,a2,e2⟩:=q
   simp only at hO ht X6 ⊢
   refine kn ?_
   refine ko @cM ?_
   refine Ow.callFV rfl Tryz.call145 (fun w' aB=>Uz br r a2 e2 w' (aB.has _ _ (by simp))) ?_
   by_cases he:du r a2 e2=0
   ·have d5: (du r a2 e2 !=0)=false:=by simp[he]
    have d6: (du r a2 e2==0)=true:=by simp[he]
    rw[d6,Bool.true_and] at hO
    rw[hO]
    refine ko (And.intro @cM @d5) ?_
    refine Ow.callFV rfl Tryz.call54 (fun w' aB=>Ub k tt w') ?_
    cases hr:lM k tt
    ·refine ko @cM ?_
     refine Ow.build (obV 0 []) rfl Bp ?_
     refine ko @cM ?_
     first|with_reducible refine ks [] @cM ?_|refine kp @cM ?_
     refine⟨_,(ke @cM),⟨cU,o0,kH,trivial⟩, ?_⟩
     rfl
    ·refine ko @cM ?_
     first|with_reducible refine ks [] @cM ?_|refine kp @cM ?_
     refine⟨_,(ke @cM),⟨cU,o0,kH,trivial⟩, ?_⟩
     rfl
   ·have d5: (du r a2 e2 !=0)=true:=by simpa using he
    have d6: (du r a2 e2==0)=false:=by simpa using he
    rw[d6,Bool.false_and] at hO
    rw[hO]
    refine ko (And.intro @cM @d5) ?_
    refine Ow.build (obV 0 []) rfl Bp ?_
    refine ko @cM ?_
    first|with_reducible refine ks [] @cM ?_|refine kp @cM ?_
    refine⟨_,(ke @cM),⟨cU,o0,kH,trivial⟩, ?_⟩
    rfl
end Go.Proofs
end
namespace Go.Flo
open Go Ieee
abbrev F (n:Int):Nat:=FloatKind.f64.nearest n
def dat (n:Int):Datum:= .number (decide (n<0)) (n.natAbs*2^ (52 - n.natAbs.log2)) ((n.natAbs.log2:Int) - 52)
theorem zY {a:Nat} (h:a<8192):a.log2<13∨a=0:=by
 by_cases h0:a=0
 ·exact .inr h0
 ·exact .inl ((Nat.log2_lt h0).2 h)
theorem dec0:FloatKind.f64.decode (F 0)= .number false 0 (-1074):=by kernel_rfl
theorem Ns (neg:Bool) (n:Nat):Toward.even.cut neg n 0=n:=by
 simp[Toward.cut,Nat.mod_one]
theorem dec {n:Int} (h0:n≠0) (h:n.natAbs<8192):FloatKind.f64.decode (F n)=dat n:=by
 have ha:n.natAbs≠0:=by omega
 generalize hm:n.natAbs=a at*
 have hl:a.log2<13:=(Nat.log2_lt ha).2 h
 have mF:2^a.log2≤a:=Nat.log2_self_le ha
 have hhi:a<2^ (a.log2+1):=Nat.lt_log2_self
 generalize hk:a.log2=k at*
 have hp:2^ (52 - k)*2^k=2^52:=by rw[←Nat.pow_add];congr 1;omega
 have mH:2^ (k+1)=2*2^k:=by rw[Nat.pow_succ];omega
 have e1:2^52≤a*2^ (52 - k):=by
  rw[←hp,Nat.mul_comm];exact Nat.mul_le_mul_right _ mF
 have e2:a*2^ (52 - k)<2*2^52:=by
  have h1:=Nat.mul_lt_mul_of_pos_right hhi (show 0<2^ (52 - k) from Nat.pow_pos (by omega))
  rw[mH,Nat.mul_assoc,Nat.mul_comm (2^k),hp] at h1
  exact h1
 have hw:F n=Ieee.double.word (decide (n<0)) ((k+1022)*2^52+a*2^ (52 - k)):=by
  show Ieee.double.nearest (decide (n<0)) n.natAbs 0=_
  rw[hm]
  unfold Format.nearest
  rw[if_neg ha,hk]
  have Ap:max ((0:Int)+ (k:Int) - (Ieee.double.fractionBits:Int)) Ieee.double.leastPlace=(k:Int) - 52:=by
   have e3:Ieee.double.leastPlace= -1074:=by decide
   have e4: (Ieee.double.fractionBits:Int)=52:=rfl
   rw[e3,e4];omega
  rw[Ap]
  have e5: ((k:Int) - 52 - 0).toNat=0:=by omega
  have e6: ((0:Int) - ((k:Int) - 52)).toNat=52 - k:=by omega
  simp only[e5,e6,Ns,Nat.shiftLeft_eq]
  have e7: ((k:Int) - 52 - Ieee.double.leastPlace).toNat=k+1022:=by
   have e3:Ieee.double.leastPlace= -1074:=by decide
   rw[e3];omega
  have e8:Ieee.double.binade=2^52:=rfl
  have e9:Ieee.double.infRung=2047*2^52:=rfl
  rw[e7,e8,e9,Nat.min_eq_left (by omega)]
 show Ieee.double.read (F n)=_
 rw[hw]
 generalize hX:a*2^ (52 - k)=X at*
 have e8:Ieee.double.binade=2^52:=rfl
 have e9:Ieee.double.infRung=2047*2^52:=rfl
 have e10:Ieee.double.signWeight=2^63:=rfl
 have e3:Ieee.double.leastPlace= -1074:=by decide
 have Az: (Ieee.double.word (decide (n<0)) ((k+1022)*2^52+X) / 2^63%2==1)=decide (n<0)∧Ieee.double.word (decide (n<0)) ((k+1022)*2^52+X)%2^63=(k+1022)*2^52+X:=by
  unfold Format.word
  rw[e10]
  by_cases hn:n<0
  ·rw[decide_eq_true hn,if_pos rfl]
   refine⟨?_,by omega⟩
   rw[beq_iff_eq];omega
  ·rw[decide_eq_false hn,if_neg (by simp)]
   refine⟨?_,by omega⟩
   rw[beq_eq_false_iff_ne];omega
 unfold Format.read
 simp only[e10,Az.1,Az.2,e8,e9,e3]
 rw[if_neg (by omega),if_pos (by omega)]
 unfold dat
 rw[hm,hk,hX]
 congr 1
 ·omega
 ·omega
theorem sgn (n:Int) (u:Nat):signed (decide (n<0)) (n.natAbs*2^u) 0=n*2^u:=by
 unfold signed
 rw[Nat.shiftLeft_eq,Nat.pow_zero,Nat.mul_one]
 by_cases h:n<0
 ·rw[decide_eq_true h,if_pos rfl]
  rw[Int.natCast_mul,←Int.neg_mul]
  congr 1
  ·omega
 ·rw[decide_eq_false h,if_neg (by simp),Int.natCast_mul]
  congr 1
  omega
def plc (n:Int):Int:=if n=0 then -1074 else(n.natAbs.log2:Int) - 52
def mag (n:Int):Nat:=if n=0 then 0 else n.natAbs*2^ (52 - n.natAbs.log2)
theorem decA {n:Int} (h:n.natAbs<8192):FloatKind.f64.decode (F n)= .number (decide (n<0)) (mag n) (plc n):=by
 by_cases h0:n=0
 ·subst h0;rw[dec0];rfl
 ·rw[dec h0 h];unfold dat mag plc;rw[if_neg h0,if_neg h0]
theorem sgnU {n base:Int} (h:n.natAbs<8192) (hb:base≤plc n):signed (decide (n<0)) (mag n) (plc n - base).toNat=n*2^ (-base).toNat:=by
 by_cases h0:n=0
 ·subst h0;simp[signed,mag]
 ·have hl:n.natAbs.log2<13:=by rcases zY h with h1|h1;exact h1;omega
  have hu:52 - n.natAbs.log2+ (plc n - base).toNat=(-base).toNat:=by
   unfold plc at hb ⊢
   rw[if_neg h0] at hb ⊢
   omega
  have e:signed (decide (n<0)) (mag n) (plc n - base).toNat=signed (decide (n<0)) (n.natAbs*2^ (-base).toNat) 0:=by
   unfold signed mag
   rw[if_neg h0,←hu,Nat.pow_add]
   simp only[Nat.shiftLeft_eq,Nat.pow_zero,Nat.mul_one,Nat.mul_assoc]
  rw[e,sgn]
theorem OF {a b k:Int} (hk:0<k):compare (a*k) (b*k)=compare a b:=by
 simp only[compare,compareOfLessAndEq]
 have h1:a*k<b*k↔a<b:=Int.mul_lt_mul_right hk
 have h2:a*k=b*k↔a=b:=Int.mul_eq_mul_right_iff (by omega)
 simp only[h1,h2]
theorem ord {a b:Int} (ha:a.natAbs<8192) (hb:b.natAbs<8192):FloatKind.f64.format.order (F a) (F b)=some (compare a b):=by
 have h1:FloatKind.f64.format.read (F a)=_:=decA ha
 have h2:FloatKind.f64.format.read (F b)=_:=decA hb
 unfold Format.order
 rw[h1,h2]
 unfold Datum.order
 simp only
 have p1:min (plc a) (plc b)≤plc a:=Int.min_le_left ..
 have p2:min (plc a) (plc b)≤plc b:=Int.min_le_right ..
 rw[sgnU ha p1,sgnU hb p2,OF]
 exact Int.pow_pos (by omega)
theorem intF {a:Int} (h:a.natAbs<8192): (FloatKind.f64.decode (F a)).toInt .zero=some a:=by
 rw[decA h]
 by_cases h0:a=0
 ·subst h0;rfl
 ·have hl:a.natAbs.log2<13:=by rcases zY h with h1|h1;exact h1;omega
  unfold Datum.toInt Datum.integral
  simp only
  have hp:plc a=(a.natAbs.log2:Int) - 52:=by unfold plc;rw[if_neg h0]
  have hm:mag a=a.natAbs*2^ (52 - a.natAbs.log2):=by unfold mag;rw[if_neg h0]
  rw[hp,hm]
  have e1: ((a.natAbs.log2:Int) - 52).toNat=0:=by omega
  have e2: (-((a.natAbs.log2:Int) - 52)).toNat=52 - a.natAbs.log2:=by omega
  rw[e1,e2,Nat.shiftLeft_zero]
  have TG: (a.natAbs*2^ (52 - a.natAbs.log2)).log2+2≥52 - a.natAbs.log2:=by
   have:2^ (52 - a.natAbs.log2)≤a.natAbs*2^ (52 - a.natAbs.log2):=Nat.le_mul_of_pos_left _ (by omega)
   have h3:=(Nat.le_log2 (n:=a.natAbs*2^ (52 - a.natAbs.log2)) (k:=52 - a.natAbs.log2) (by have:=Nat.pow_pos (a:=2) (n:=52 - a.natAbs.log2) (by omega);omega)).2 this
   omega
  unfold Toward.cut
  simp only
  rw[Nat.min_eq_left TG,Nat.shiftLeft_eq,Nat.one_mul,Nat.mul_div_cancel _ (Nat.pow_pos (by omega))]
  have:=sgn a 0
  rw[Nat.pow_zero,Nat.mul_one] at this
  simp only[Bool.toNat_false,Nat.add_zero]
  rw[this];simp
end Go.Flo
namespace Go.Sx
open Go Go.Flo
def fl (n:Int):Value:= .float .f64 (F n)
def cx (a b:Int):Value:= .complex .f64 (F a) (F b)
section
variable {P:Program} {w0:World} {f:Fr} {L:aA} {N:Fr→aA→Prop} {ops:Array Oper} {rest:List Oper} {md:Md}
 {d:Option Tmp} {ty:TypeId} {ps:String} {af:Array Edge} {g:Option (Nat×Bool)}
theorem Ow.convIF {s dt:TypeId} {x:Operand} {n:Int} {md':Md} (he:md.turn=some md') (rX:bM ops f ⟨d, .convert s dt x,ty,ps,af,g⟩=false)
  (Sd:cvT P s dt= .no) (hs:P.underlying s=some (.int .i64)) (hd:P.underlying dt=some (.float .f64)) (hx:ev f x=vi n)
  (hn:Ow P w0 ops md' rest (aW f d (fl n)) L N):Ow P w0 ops md (⟨d, .convert s dt x,ty,ps,af,g⟩::rest) f L N:=by
 refine Ow.step he (by simp[fy,Sd]) rX fun w hw=> .inl ⟨fl n,w,L, ?_,hw,hn⟩
 have hc: (convert s dt (vi n)).run P w= .ok (fl n) w:=by
  unfold convert
  simp only[vi,Sem.run_bind,run_underlying hs w,run_underlying hd w,Result.andThen_ok]
  rfl
 simp only[execOp,Sem.run_bind,hx,hc]
 rfl
theorem Ow.convFI {s dt:TypeId} {x:Operand} {n:Int} {md':Md} (he:md.turn=some md') (rX:bM ops f ⟨d, .convert s dt x,ty,ps,af,g⟩=false)
  (Sd:cvT P s dt= .no) (hs:P.underlying s=some (.float .f64)) (hd:P.underlying dt=some (.int .i64)) (hx:ev f x=fl n) (hn8:n.natAbs<8192)
  (hn:Ow P w0 ops md' rest (aW f d (vi n)) L N):Ow P w0 ops md (⟨d, .convert s dt x,ty,ps,af,g⟩::rest) f L N:=by
 refine Ow.step he (by simp[fy,Sd]) rX fun w hw=> .inl ⟨vi n,w,L, ?_,hw,hn⟩
 have hc: (convert s dt (fl n)).run P w= .ok (vi n) w:=by
  unfold convert
  simp only[fl,Sem.run_bind,run_underlying hs w,run_underlying hd w,Result.andThen_ok]
  show(Conv.floatToInt .f64 (F n) .i64).run P w=_
  unfold Conv.floatToInt
  simp only[intF hn8]
  have e1:IntKind.i64.min= -9223372036854775808:=rfl
  have e2:IntKind.i64.max=9223372036854775807:=rfl
  rw[if_pos (by rw[e1,e2];omega)]
  rfl
 simp only[execOp,Sem.run_bind,hx,hc]
 rfl
theorem Pm (a b:Int): (some (compare a b)==some Ordering.lt||some (compare a b)==some Ordering.eq)=decide (a≤b):=by
 simp only[compare,compareOfLessAndEq]
 by_cases h1:a<b
 ·rw[if_pos h1,decide_eq_true (by omega)];rfl
 ·by_cases h2:a=b
  ·rw[if_neg h1,if_pos h2,decide_eq_true (by omega)];rfl
  ·rw[if_neg h1,if_neg h2,decide_eq_false (by omega)];rfl
theorem Q2 (a b:Int): (some (compare a b)==some Ordering.gt||some (compare a b)==some Ordering.eq)=decide (b≤a):=by
 simp only[compare,compareOfLessAndEq]
 by_cases h1:a<b
 ·rw[if_pos h1,decide_eq_false (by omega)];rfl
 ·by_cases h2:a=b
  ·rw[if_neg h1,if_pos h2,decide_eq_true (by omega)];rfl
  ·rw[if_neg h1,if_neg h2,decide_eq_true (by omega)];rfl
theorem OB (a b:Int): (some (compare a b)==some Ordering.eq)=(a==b):=by
 simp only[compare,compareOfLessAndEq]
 by_cases h1:a<b
 ·have: (a==b)=false:=by rw[beq_eq_false_iff_ne];omega
  rw[if_pos h1,this];rfl
 ·by_cases h2:a=b
  ·rw[if_neg h1,if_pos h2,h2];simp
  ·have: (a==b)=false:=by rw[beq_eq_false_iff_ne];exact h2
   rw[if_neg h1,if_neg h2,this];rfl
theorem Ow.fleq {t t':TypeId} {x y:Operand} {a b:Int} (hs:bM ops f ⟨d, .binOp .leq t x y t',ty,ps,af,g⟩=false) (hx:ev f x=fl a) (hy:ev f y=fl b) (ha:a.natAbs<8192) (hb:b.natAbs<8192)
  (hn:Ow P w0 ops md.next rest (aW f d (.bool (decide (a≤b)))) L N):Ow P w0 ops md (⟨d, .binOp .leq t x y t',ty,ps,af,g⟩::rest) f L N:=by
 refine Ow.pureV rfl hs (fun w=> ?_) hn
 simp only[execOp,Sem.run_bind,hx,hy]
 have hg: (eqGuard .leq t x y (fl a) (fl b)).run P w= .ok () w:=rfl
 have hc: (binOp .leq t (fl a) (fl b)).run P w= .ok (.bool (decide (a≤b))) w:=by
  show Result.ok (Value.bool (FloatKind.f64.format.order (F a) (F b)==some .lt||FloatKind.f64.format.order (F a) (F b)==some .eq)) w=_
  rw[ord ha hb,Pm]
 rw[hg,Result.andThen_ok,hc]
 rfl
theorem Ow.fgeq {t t':TypeId} {x y:Operand} {a b:Int} (hs:bM ops f ⟨d, .binOp .geq t x y t',ty,ps,af,g⟩=false) (hx:ev f x=fl a) (hy:ev f y=fl b) (ha:a.natAbs<8192) (hb:b.natAbs<8192)
  (hn:Ow P w0 ops md.next rest (aW f d (.bool (decide (b≤a)))) L N):Ow P w0 ops md (⟨d, .binOp .geq t x y t',ty,ps,af,g⟩::rest) f L N:=by
 refine Ow.pureV rfl hs (fun w=> ?_) hn
 simp only[execOp,Sem.run_bind,hx,hy]
 have hg: (eqGuard .geq t x y (fl a) (fl b)).run P w= .ok () w:=rfl
 have hc: (binOp .geq t (fl a) (fl b)).run P w= .ok (.bool (decide (b≤a))) w:=by
  show Result.ok (Value.bool (FloatKind.f64.format.order (F a) (F b)==some .gt||FloatKind.f64.format.order (F a) (F b)==some .eq)) w=_
  rw[ord ha hb,Q2]
 rw[hg,Result.andThen_ok,hc]
 rfl
theorem Ow.feql {t t':TypeId} {x y:Operand} {a b:Int} (hs:bM ops f ⟨d, .binOp .eql t x y t',ty,ps,af,g⟩=false) (hx:ev f x=fl a) (hy:ev f y=fl b) (ha:a.natAbs<8192) (hb:b.natAbs<8192)
  (hn:Ow P w0 ops md.next rest (aW f d (.bool (a==b))) L N):Ow P w0 ops md (⟨d, .binOp .eql t x y t',ty,ps,af,g⟩::rest) f L N:=by
 refine Ow.pureV rfl hs (fun w=> ?_) hn
 simp only[execOp,Sem.run_bind,hx,hy]
 have hg: (eqGuard .eql t x y (fl a) (fl b)).run P w= .ok () w:=rfl
 have hc: (binOp .eql t (fl a) (fl b)).run P w= .ok (.bool (a==b)) w:=by
  show Result.ok (Value.bool (FloatKind.f64.format.order (F a) (F b)==some .eq)) w=_
  rw[ord ha hb,OB]
 rw[hg,Result.andThen_ok,hc]
 rfl
theorem Ow.real {x:Operand} {ts:Array TypeId} {a b:Int} (hs:bM ops f ⟨d, .call ⟨.builtin .real, #[x],ts⟩,ty,ps,af,g⟩=false) (hx:ev f x=cx a b)
  (hn:Ow P w0 ops md.next rest (aW f d (fl a)) L N):Ow P w0 ops md (⟨d, .call ⟨.builtin .real, #[x],ts⟩,ty,ps,af,g⟩::rest) f L N:=by
 refine Ow.calm rfl rfl hs (fun w hw=> .inl ⟨fl a,w,L, ?_,hw,rfl,rfl⟩) hn
 simp only[execOp,resolve,Sem.run_bind,Sem.run_pure,Result.andThen_ok,invoke,builtin,List.map_toArray,List.map_cons,List.map_nil,hx]
 rfl
theorem Ow.imag {x:Operand} {ts:Array TypeId} {a b:Int} (hs:bM ops f ⟨d, .call ⟨.builtin .imag, #[x],ts⟩,ty,ps,af,g⟩=false) (hx:ev f x=cx a b)
  (hn:Ow P w0 ops md.next rest (aW f d (fl b)) L N):Ow P w0 ops md (⟨d, .call ⟨.builtin .imag, #[x],ts⟩,ty,ps,af,g⟩::rest) f L N:=by
 refine Ow.calm rfl rfl hs (fun w hw=> .inl ⟨fl b,w,L, ?_,hw,rfl,rfl⟩) hn
 simp only[execOp,resolve,Sem.run_bind,Sem.run_pure,Result.andThen_ok,invoke,builtin,List.map_toArray,List.map_cons,List.map_nil,hx]
 rfl
theorem Ow.complexB {x y:Operand} {ts:Array TypeId} {a b:Int} (hs:bM ops f ⟨d, .call ⟨.builtin .complex, #[x,y],ts⟩,ty,ps,af,g⟩=false) (hx:ev f x=fl a) (hy:ev f y=fl b)
  (hn:Ow P w0 ops md.next rest (aW f d (cx a b)) L N):Ow P w0 ops md (⟨d, .call ⟨.builtin .complex, #[x,y],ts⟩,ty,ps,af,g⟩::rest) f L N:=by
 refine Ow.calm rfl rfl hs (fun w hw=> .inl ⟨cx a b,w,L, ?_,hw,rfl,rfl⟩) hn
 simp only[execOp,resolve,Sem.run_bind,Sem.run_pure,Result.andThen_ok,invoke,builtin,List.map_toArray,List.map_cons,List.map_nil,hx,hy]
 rfl
end
end Go.Sx
namespace Go.Sx
open Go Go.Flo
theorem Mw (P:Program) (t:TypeId) (a b:Int):bA P .eql t (fl a) (fl b)=none:=by
 show(gB (P.underlying t) (fl a) (fl b)).map _=none
 unfold gB fl
 split<;>simp_all
theorem wl (P:Program) (t:TypeId) (a b a' b':Int):bA P .eql t (cx a b) (cx a' b')=none:=by
 show(gB (P.underlying t) (cx a b) (cx a' b')).map _=none
 unfold gB cx
 split<;>simp_all
section
variable {P:Program} {w0:World} {st:Bool} {f:Fr} {L:aA} {md:Md} {d:Option Tmp} {ty:TypeId} {ps:String} {af:Array Edge} {g:Option (Nat×Bool)} {go:Fr→aA→Prop} {stop:Prop}
theorem xv (a:Array Operand) (t:Array TypeId):vcB P w0 st md ⟨d, .call ⟨.builtin .real,a,t⟩,ty,ps,af,g⟩ f L go stop=stop:=(rfl)
theorem xR (a:Array Operand) (t:Array TypeId):vcB P w0 st md ⟨d, .call ⟨.builtin .imag,a,t⟩,ty,ps,af,g⟩ f L go stop=stop:=(rfl)
theorem UJ (a:Array Operand) (t:Array TypeId):vcB P w0 st md ⟨d, .call ⟨.builtin .complex,a,t⟩,ty,ps,af,g⟩ f L go stop=stop:=(rfl)
end
end Go.Sx
section
open Go Go.Proofs Go.Sx Go.StP Go.Flo
namespace Go.Proofs
set_option maxRecDepth 10000
set_option maxHeartbeats 400000
set_option linter.unusedSimpArgs false
structure PcL where
 a:Nat
 n:Nat
 x:List UInt8
def pc0:PcL:=⟨0,0,[]⟩
def pcC (p:PcL):List Value:= [cx p.a p.n,vs p.x]
def PcB (p:PcL):Prop:=p.a≤4099∧p.n≤4099
theorem uY (p:PcL): (pcC p).length=2:=rfl
theorem zF (p:PcL): (pcC p).all Value.oneCell'=true:=rfl
def cpV (p:PcL) (b:Int):Option (Nat×Nat):=if 1≤p.n∧p.n≤4099∧p.x= []∧(p.a:Int)≤b - p.n then some (p.a,p.n) else none
def eY (p:PcL) (b:Int):Nat:=if p.a=0∧p.n=0∧p.x.length≤4099 then p.x.length else match cpV p b with|some q=>q.2|none=>0
theorem xl (p:PcL) (b:Int):eY p b≤4099:=by
 unfold eY
 split
 ·rename_i h;exact h.2.2
 ·unfold cpV
  split
  ·rename_i q h
   split at h
   ·rename_i hc;cases h;exact hc.2.1
   ·cases h
  ·omega
def dm (b:Int) (l:List PcL):Nat:=(l.map fun p=>eY p b).sum
theorem Lp (b:Int) (l:List PcL) (p:PcL):dm b (l++ [p])=dm b l+eY p b:=by
 unfold dm;rw[List.map_append,List.sum_append];simp
theorem Nd (b:Int) (l m:List PcL):dm b (l++m)=dm b l+dm b m:=by
 unfold dm;rw[List.map_append,List.sum_append]
def anyZ (b:Int) (l:List PcL):Bool:=l.any fun p=>eY p b==0
def jD (b:Int) (l:List PcL):Int×Int:=if b<0∨4099<b then(0,1) else if anyZ b l=true then(0,1) else if 4099<dm b l then(0,19) else((dm b l:Nat),0)
theorem yb (b:Int): ∀ (l:List PcL),anyZ b l=false→l.length≤dm b l
 | [],_=>Nat.zero_le _
 |p::l,h=>by
  unfold anyZ at h
  rw[List.any_cons,Bool.or_eq_false_iff] at h
  have h1:=yb b l h.2
  have h2:eY p b≠0:=by simpa using h.1
  unfold dm at h1 ⊢
  rw[List.map_cons,List.sum_cons,List.length_cons]
  omega
theorem sW {b m:Int} {l:List PcL} (h:jD b l=(m,0)):0≤b∧b≤4099∧anyZ b l=false∧dm b l≤4099∧m=(dm b l:Nat)∧l.length≤4099:=by
 unfold jD at h
 split at h
 ·cases h
 ·rename_i hb
  split at h
  ·cases h
  ·rename_i hz
   split at h
   ·cases h
   ·rename_i hs
    have XG:anyZ b l=false:=by simpa using hz
    have:=yb b l XG
    cases h
    exact⟨by omega,by omega,XG,by omega,rfl,by omega⟩
def pcT (base:List UInt8) (p:PcL):List UInt8:=match cpV p base.length with|some q=>(base.drop q.1).take q.2++p.x|none=>p.x
def txtP (base:List UInt8) (l:List PcL):List UInt8:=(l.map (pcT base)).flatten
def pcR (d:List UInt8) (a:Nat):PcL×Nat×Int:=
 if(aE d a 0 8199).1%2=1 then
  (⟨(aE d (aE d a 0 8199).2.1 (aE d a 0 8199).2.2 4099).1.toNat,((aE d a 0 8199).1 / 2).toNat,[]⟩,(aE d (aE d a 0 8199).2.1 (aE d a 0 8199).2.2 4099).2)
 else(⟨0,0,(bK d (aE d a 0 8199).2.1 (aE d a 0 8199).2.2 ((aE d a 0 8199).1 / 2)).1⟩,(bK d (aE d a 0 8199).2.1 (aE d a 0 8199).2.2 ((aE d a 0 8199).1 / 2)).2)
theorem sr {d:List UInt8} {a:Nat} (ha:a≤d.length):a≤ (pcR d a).2.1∧(pcR d a).2.1≤d.length:=by
 have h1:=jM (s:=d) (a:=a) (e:=0) (most:=8199) ha
 unfold pcR
 split
 ·have h2:=jM (s:=d) (a:=(aE d a 0 8199).2.1) (e:=(aE d a 0 8199).2.2) (most:=4099) h1.2
  exact⟨Nat.le_trans h1.1 h2.1,h2.2⟩
 ·have h2:=Cb (s:=d) (a:=(aE d a 0 8199).2.1) (e:=(aE d a 0 8199).2.2) (n:=(aE d a 0 8199).1 / 2) h1.2
  exact⟨Nat.le_trans h1.1 h2.1,h2.2⟩
theorem sd {d:List UInt8} {a:Nat} (ha:a≤d.length) (h: (pcR d a).2.2=0):a< (pcR d a).2.1:=by
 have h1:=jM (s:=d) (a:=a) (e:=0) (most:=8199) ha
 have hz: (aE d a 0 8199).2.2=0:=by
  by_cases he: (aE d a 0 8199).2.2=0
  ·exact he
  ·unfold pcR at h
   split at h
   ·have:=tA (s:=d) (a:=(aE d a 0 8199).2.1) (most:=4099) he
    simp only[this] at h
    exact absurd h he
   ·have:=pN (s:=d) (a:=(aE d a 0 8199).2.1) (n:=(aE d a 0 8199).1 / 2) he
    simp only[this] at h
    exact absurd h he
 have nz:=yy hz
 unfold pcR
 split
 ·have h2:=jM (s:=d) (a:=(aE d a 0 8199).2.1) (e:=(aE d a 0 8199).2.2) (most:=4099) h1.2
  exact Nat.lt_of_lt_of_le nz h2.1
 ·have h2:=Cb (s:=d) (a:=(aE d a 0 8199).2.1) (e:=(aE d a 0 8199).2.2) (n:=(aE d a 0 8199).1 / 2) h1.2
  exact Nat.lt_of_lt_of_le nz h2.1
def pcsF (d:List UInt8):Nat→Nat→List PcL×Nat×Int
 |0,a=>([],a,0)
 |k+1,a=>if a<d.length then(if(pcR d a).2.2=0 then((pcR d a).1:: (pcsF d k (pcR d a).2.1).1,(pcsF d k (pcR d a).2.1).2) else([(pcR d a).1],(pcR d a).2)) else([],a,0)
theorem wn {d:List UInt8}: ∀ (k j a:Nat),a≤d.length→d.length - a≤k→d.length - a≤j→pcsF d k a=pcsF d j a
 |0,j,a,ha,hk,_=>by
  have: ¬a<d.length:=by omega
  cases j with
  |zero=>rfl
  |succ j=>unfold pcsF;rw[if_neg this]
 |k+1,0,a,ha,_,hj=>by
  have: ¬a<d.length:=by omega
  unfold pcsF;rw[if_neg this]
 |k+1,j+1,a,ha,hk,hj=>by
  unfold pcsF
  by_cases h:a<d.length
  ·rw[if_pos h,if_pos h]
   by_cases he: (pcR d a).2.2=0
   ·have hu:=sd ha he
    have hl:=sr ha
    rw[if_pos he,if_pos he,wn k j (pcR d a).2.1 hl.2 (by omega) (by omega)]
   ·rw[if_neg he,if_neg he]
  ·rw[if_neg h,if_neg h]
def pcs (d:List UInt8) (a:Nat):List PcL×Nat×Int:=pcsF d (d.length - a) a
theorem Pt {d:List UInt8} {a:Nat} (h: ¬a<d.length):pcs d a=([],a,0):=by
 unfold pcs
 rw[show d.length - a=0 by omega];rfl
theorem QT {d:List UInt8} {a:Nat} (h:a<d.length) (he: (pcR d a).2.2=0):pcs d a=((pcR d a).1:: (pcs d (pcR d a).2.1).1,(pcs d (pcR d a).2.1).2):=by
 have hu:=sd (Nat.le_of_lt h) he
 have hl:=sr (Nat.le_of_lt h)
 unfold pcs
 obtain⟨k,hk⟩: ∃k,d.length - a=k+1:=⟨d.length - a - 1,by omega⟩
 rw[hk]
 conv=>lhs;unfold pcsF
 rw[if_pos h,if_pos he,wn k (d.length - (pcR d a).2.1) (pcR d a).2.1 hl.2 (by omega) (Nat.le_refl _)]
theorem PM {d:List UInt8} {a:Nat} (h:a<d.length) (he: (pcR d a).2.2≠0):pcs d a=([(pcR d a).1],(pcR d a).2):=by
 unfold pcs
 obtain⟨k,hk⟩: ∃k,d.length - a=k+1:=⟨d.length - a - 1,by omega⟩
 rw[hk]
 unfold pcsF
 rw[if_pos h,if_neg he]
def um (d:List UInt8):Option (Nat×List PcL):=
 if(aE d (aE d 0 0 4099).2.1 (aE d 0 0 4099).2.2 4099).2.2≠0 then none
 else if(pcs d (aE d (aE d 0 0 4099).2.1 (aE d 0 0 4099).2.2 4099).2.1).2.2≠0 then none
 else if jD (aE d 0 0 4099).1 (pcs d (aE d (aE d 0 0 4099).2.1 (aE d 0 0 4099).2.2 4099).2.1).1=((aE d (aE d 0 0 4099).2.1 (aE d 0 0 4099).2.2 4099).1,0) then some ((aE d 0 0 4099).1.toNat,(pcs d (aE d (aE d 0 0 4099).2.1 (aE d 0 0 4099).2.2 4099).2.1).1)
 else none
def k6 (base d:List UInt8):List UInt8×Int:=
 match um d with
 |none=>([],2)
 |some p=>if p.1≠base.length then([],19) else(txtP base p.2,0)
end Go.Proofs
end
section
open Go Go.Proofs Go.Sx Go.StP Go.Flo
namespace Go.Proofs
set_option maxRecDepth 10000
set_option maxHeartbeats 400000
set_option linter.unusedSimpArgs false
theorem cvIF:cvT Tryz.prog 3 312= .no:=id (by kernel_rfl)
theorem cvFI:cvT Tryz.prog 312 3= .no:=id (by kernel_rfl)
set_option linter.defProp false
theorem vr (p:PcL) (E:TypeId) (n:Nat):aF (some (false,n)) (some (.cells (pcC p).toArray E (0,0))) 0=some (cx p.a p.n):=(rfl)
theorem vl (p:PcL) (E:TypeId) (n:Nat):aF (some (false,n)) (some (.cells (pcC p).toArray E (0,0))) 1=some (vs p.x):=(rfl)
theorem ug (p:PcL) (E:TypeId):aF (some (true,2)) (some (.cells (pcC p).toArray E (0,0))) 0=some (.agg (pcC p).toArray):=p6 _ E (0,0) 2 rfl
theorem uO (p:PcL):Value.cells (.agg (pcC p).toArray)=(pcC p).toArray:=bL _
theorem zrPc:al Tryz.prog 311=some (.agg (pcC pc0).toArray):=id (by kernel_rfl)
theorem Mq (p q:PcL) (E:TypeId):ac (some (true,2)) (some (.cells (pcC q).toArray E (0,0))) 0 (.agg (pcC p).toArray)=some (.cells (pcC p).toArray E (0,0)):=by
 have:=ro (pcC p) (n:=2) true (pcC q).toArray E rfl (zF p) rfl
 exact this
theorem cxz: (Value.complex FloatKind.f64 0 0)=cx 0 0:=id (by kernel_rfl)
set_option linter.defProp false
abbrev PcSl (w:World) (v:Value) (l:List PcL):Prop:=SlV 2 pcC pc0 w v l
def BndP (l:List PcL):Prop:= ∀g,g<l.length→PcB (l.getD g pc0)∧(l.getD g pc0).x.length<9223372036854775808
theorem Ku {b:Int} {l:List PcL} {g:Nat} (h:g<l.length):dm b (l.take (g+1))=dm b (l.take g)+eY (l.getD g pc0) b:=by
 rw[take_snoc (z:=pc0) h,Lp]
theorem KY {b:Int} {l:List PcL} {g:Nat} (h:g<l.length):anyZ b (l.take (g+1))=(anyZ b (l.take g) ||eY (l.getD g pc0) b==0):=by
 rw[take_snoc (z:=pc0) h];unfold anyZ;rw[List.any_append];simp
theorem Ek {b:Int} {l:List PcL} {g:Nat} (h:g<l.length) (hz:eY (l.getD g pc0) b=0):anyZ b l=true:=by
 unfold anyZ
 rw[List.any_eq_true]
 exact⟨_,mq (z:=pc0) h,by rw[beq_iff_eq];exact hz⟩
end Go.Proofs
end
section
open Go Go.Proofs Go.Sx Go.StP Go.Flo
namespace Go.Proofs
set_option maxRecDepth 10000
set_option maxHeartbeats 400000
set_option linter.unusedSimpArgs false
def pcAt (p:PcL) (b:Int):Nat×Nat:=match cpV p b with|some q=>q|none=>(0,0)
theorem O9 (p:PcL) (base:List UInt8): (pcAt p base.length).1+ (pcAt p base.length).2≤base.length:=by
 unfold pcAt cpV
 split
 ·rename_i q h
  split at h
  ·rename_i hc;cases h;simp only;omega
  ·cases h
 ·simp
theorem Pc (base:List UInt8) (p:PcL) (h:eY p base.length≠0): (pcT base p).length=eY p base.length:=by
 have eW:=O9 p base
 unfold eY at h ⊢
 unfold pcT
 unfold pcAt at eW
 split at h
 ·rename_i hc
  rw[if_pos hc]
  have hn:cpV p base.length=none:=by unfold cpV;rw[if_neg (by omega)]
  rw[hn]
 ·rename_i hc
  rw[if_neg hc]
  cases hq:cpV p base.length with
  |none=>rw[hq] at h;exact absurd rfl h
  |some q=>
   rw[hq] at eW
   simp only at eW ⊢
   have hx:p.x= []:=by
    unfold cpV at hq
    split at hq
    ·rename_i h2;exact h2.2.2.1
    ·cases hq
   rw[hx,List.append_nil,List.length_take,List.length_drop]
   omega
theorem JW {base:List UInt8} {l:List PcL} {g:Nat} (h:g<l.length):txtP base (l.take (g+1))=txtP base (l.take g)++pcT base (l.getD g pc0):=by
 rw[take_snoc (z:=pc0) h];unfold txtP;simp
theorem Eq {base:List UInt8}: ∀ {l:List PcL},anyZ base.length l=false→(txtP base l).length=dm base.length l
 | [],_=>rfl
 |p::l,h=>by
  unfold anyZ at h
  rw[List.any_cons,Bool.or_eq_false_iff] at h
  have h1:=Eq (base:=base) (l:=l) h.2
  have h2:=Pc base p (by simpa using h.1)
  unfold txtP dm at h1 ⊢
  rw[List.map_cons,List.flatten_cons,List.length_append,List.map_cons,List.sum_cons,h1,h2]
theorem V1 {b:Int} {l:List PcL} {g:Nat}:dm b (l.take g)≤dm b l:=by
 have:=Nd b (l.take g) (l.drop g)
 rw[List.take_append_drop] at this
 omega
theorem QB {b:Int} {l:List PcL} {g:Nat} (h:anyZ b l=false):anyZ b (l.take g)=false:=by
 unfold anyZ at h ⊢
 rw[List.any_eq_false] at h ⊢
 exact fun x hx=>h x (List.mem_of_mem_take hx)
set_option linter.defProp false
end Go.Proofs
end
namespace Go.Sx
open Go
section
variable {α:Type} {m:Nat} {enc:α→List Value} {z:α}
end
section
variable {P:Program} {w0:World} {f:Fr} {L:aA} {N:Fr→aA→Prop} {ops:Array Oper} {rest:List Oper} {md:Md} {d:Option Tmp} {ty:TypeId} {ps:String} {af:Array Edge} {g:Option (Nat×Bool)}
theorem Ow.makeSlice {t e:TypeId} {m:Bool×Nat} {z:Value} {x y:Operand} {n c:Nat} {md':Md} (he:md.turn=some md') (hs:bM ops f ⟨d, .makeSlice t x y,ty,ps,af,g⟩=false)
  (hu:P.underlying t=some (.slice e)) (hm:aK P e=some m) (hi:ou P e=true) (hz:al P e=some z) (hx:ev f x=vi n) (hy:ev f y=vi c) (TP:n≤c) (cZ:c≤2^38)
  (hn: ∀b,eG L b→w0.heap.size≤b→Ow P w0 ops md' rest (aW f d (vsl b 0 n c)) (L++ [(b, .cells (madeCells z.cells (c*m.2)) e (0,0))]) N):
  Ow P w0 ops md (⟨d, .makeSlice t x y,ty,ps,af,g⟩::rest) f L N:=by
 refine Ow.step he rfl hs fun w hw=> .inl ⟨vsl w.heap.size 0 n c,w.alloc (.cells (madeCells z.cells (c*m.2)) e (0,0)),_, ?_,hw.alloc _,hn _ (gi fun b hb=>hw.lt hb) hw.size⟩
 obtain⟨i,oV,-,hb⟩:=UF hi cZ
 have hiz:i.zero=some z:=by
  unfold al at hz
  rw[oV] at hz
  exact hz
 have him:i.size=m.2:=by
  unfold aK at hm
  rw[oV] at hm
  split at hm
  ·rename_i h1 h2
   cases h2
   cases hm
   rfl
  ·cases hm
 have AP: (i.bytes:Int)* (c:Int)≤281474976710656:=by
  have: ((i.bytes*c:Nat):Int)≤281474976710656:=by rw[Nat.mul_comm];exact Int.ofNat_le.2 hb
  rwa [Int.natCast_mul] at this
 have hr:=run_make (P:=P) w t e i z hu oV hiz .i64 .i64 (n:Int) (c:Int) (by omega) (by omega) AP (by omega)
 simp only[Int.toNat_natCast,him] at hr
 show(execOp (ev f) _).run P w=_
 simp only[execOp,Sem.run_bind]
 rw[hx,hy]
 show((Instr.makeSlice t (.int .i64 (n:Int)) (.int .i64 (c:Int))).run P w).andThen _=_
 rw[hr]
 rfl
theorem Ow.appendXG {ts tx e:TypeId} {m:Bool×Nat} {z:Value} {s x:Operand} {n k:Nat} {cs new:List Value} {dx:TypeDesc} {md':Md} {X Y:aA} (sv:Value) (hL:L=X++Y) (gA:ev f s=sv) (he:md.turn=some md')
  (hs:bM ops f ⟨d, .call ⟨.builtin .append, #[s,x], #[ts,tx]⟩,ty,ps,af,g⟩=false)
  (hu:P.underlying ts=some (.slice e)) (hm:aK P e=some m) (hi:ou P e=true) (hz:al P e=some z) (kI:z.cells.size=m.2) (iK:P.underlying tx=some dx) (bW: ∀k,dx≠ .int k)
  (hB:Gr X e m.2 sv n cs) (hX: ∀w,Hp w0 L w→AppX P w m.2 (ev f x) k new) (cZ:2* (n+k)+768≤2^38)
  (hn: ∀B v' D,eG L B→w0.heap.size≤B→Gr D e m.2 v' (n+k) (cs++new)→(∀c,c∈keys X→c∈keys D)→(∀c,c∈keys D→c∈keys X∨B≤c)→(∀c o,slB sv≠some c→look X c=some o→look D c=some o)→Ow P w0 ops md' rest (aW f d v') (D++Y) N):
  Ow P w0 ops md (⟨d, .call ⟨.builtin .append, #[s,x], #[ts,tx]⟩,ty,ps,af,g⟩::rest) f L N:=by
 subst hL
 refine Ow.step he rfl hs fun w hw=> ?_
 have hp:=hw.part
 have hA:eG (X++Y) w.heap.size:=gi fun b hb=>hw.lt hb
 have fin: ∀v' w' D,(Builtin.append_ #[ts,tx] ty #[sv,ev f x]).run P w= .ok v' w'→Hp w D w'→Gr D e m.2 v' (n+k) (cs++new)→(∀c,c∈keys X→c∈keys D)→(∀c,c∈keys D→c∈keys X∨w.heap.size≤c)→(∀c o,slB sv≠some c→look X c=some o→look D c=some o)→
   (∃v w' L',(execOp (ev f) ⟨d, .call ⟨.builtin .append, #[s,x], #[ts,tx]⟩,ty,ps,af,g⟩).run P w= .ok (.value v) w'∧Hp w0 L' w'∧Ow P w0 ops md' rest (aW f d v) L' N):=by
  intro v' w' D hr hD hb h1 h2 h3
  refine⟨v',w',D++Y, ?_,hw.join hD h1 h2,hn w.heap.size v' D hA hw.size hb h1 h2 h3⟩
  simp only[execOp,resolve,Sem.run_bind,Sem.run_pure,Result.andThen_ok,invoke,builtin,List.map_toArray,List.map_cons,List.map_nil,gA]
  rw[hr]
  rfl
 rcases hB with hB| ⟨rfl,rfl,b,rfl,bP⟩
 ·obtain⟨v',w',D,hr,hD,hb,hg,-⟩:=ER (w0:=w) (L:=X) (ty:=ty) (x:=ev f x) hp hu hm hi hz kI iK bW hB (fun w2 cU=>hX w2 (by
   refine hw.join cU (fun c hc=>hc) (fun c hc=> .inl hc))) cZ
  exact .inl (fin v' w' D hr hD (.inl hb) hg.keys (fun c hc=>(hg.new c hc).imp id And.right) hg.look)
 ·rcases UD (w0:=w) (L:=X) (ty:=ty) (b:=b) (x:=ev f x) hp hu hm hi hz kI iK bW (fun w2 cU=>hX w2 (by
   refine hw.join cU (fun c hc=>hc) (fun c hc=> .inl hc))) cZ with⟨h0,hr⟩ | ⟨-,v',w',D,hr,hD,hb,hg,-⟩
  ·subst h0
   have hnw:=(hX w hw).size
   obtain rfl:new= []:=List.eq_nil_of_length_eq_zero (by rw[hnw,Nat.zero_mul])
   exact .inl (fin _ w X hr hp (.inr ⟨rfl,rfl,b,rfl,bP⟩) (fun c hc=>hc) (fun c hc=> .inl hc) (fun c o _ hl=>hl))
  ·exact .inl (fin v' w' D hr hD (.inl hb) hg.keys (fun c hc=>(hg.new c hc).imp id And.right) (fun c o _ hl=>hg.look c o (by simp[slB]) hl))
end
theorem New.perm {n:Nat} {D D':aA} (h:New n D) (hp:D.Perm D'):New n D':=New.of_le fun c hc=>h.le c ((hp.map Prod.fst).mem_iff.2 hc)
end Go.Sx
section
open Go Go.Proofs Go.Sx Go.StP Go.Flo
namespace Go.Proofs
set_option maxRecDepth 10000
set_option maxHeartbeats 400000
set_option linter.unusedSimpArgs false
def dB (d:List UInt8):Int×Nat×Int:=aE d 0 0 4099
def dM (d:List UInt8):Int×Nat×Int:=aE d (dB d).2.1 (dB d).2.2 4099
theorem wk (d:List UInt8):um d=if(dM d).2.2≠0 then none else if(pcs d (dM d).2.1).2.2≠0 then none else if jD (dB d).1 (pcs d (dM d).2.1).1=((dM d).1,0) then some ((dB d).1.toNat,(pcs d (dM d).2.1).1) else none:=rfl
theorem PO (p:PcL):sH Tryz.prog 297 1 [(0, .agg (pcC p).toArray)]=some (311,(pcC p).toArray):=
 j8 Tryz.underlying297 (id (by kernel_rfl)) zrPc (by decide) (uY p)
set_option linter.defProp false
end Go.Proofs
end
section
open Go Go.Proofs Go.Sx Go.StP Go.Flo
namespace Go.Proofs
set_option maxRecDepth 10000
set_option maxHeartbeats 400000
set_option linter.unusedSimpArgs false
theorem VC {d:List UInt8} {p:Nat×List PcL} (h:um d=some p): ∃m,jD (p.1:Nat) p.2=(m,0):=by
 rw[wk] at h
 split at h
 ·cases h
 ·split at h
  ·cases h
  ·split at h
   ·rename_i hc
    cases h
    have k9:=qe (s:=d) (a:=0) (e:=0) (most:=4099) (by omega)
    change 0≤ (dB d).1∧(dB d).1≤4099 at k9
    refine⟨(dM d).1, ?_⟩
    rw[show(((dB d).1.toNat:Nat):Int)=(dB d).1 by omega]
    exact hc
   ·cases h
set_option linter.defProp false
end Go.Proofs
end
section
open Go Go.Proofs Go.Sx Go.StP Go.Flo
namespace Go.Proofs
set_option maxRecDepth 10000
set_option maxHeartbeats 400000
set_option linter.unusedSimpArgs false
structure PartL where
 d:Bool
 b:Int
 x:List UInt8
def fJ:PartL:=⟨false,0,[]⟩
def cW (p:PartL):List Value:= [.bool p.d,vi p.b,vs p.x]
theorem FC (p:PartL): (cW p).length=3:=rfl
theorem wX (p:PartL): (cW p).all Value.oneCell'=true:=rfl
def kV (l:List PartL):Nat→Nat→Except Int (List Nat)
 |0,_=> .error 11
 |k+1,at_=>
  if(l.getD at_ fJ).d=true then
   (if(l.getD at_ fJ).b<0∨(at_:Int)≤ (l.getD at_ fJ).b then .error 2
   else if k=0 then .error 11
   else(kV l k (l.getD at_ fJ).b.toNat).map (at_:: ·))
  else if(l.getD at_ fJ).b≠0 then .error 2 else .ok [at_]
def j6 (l:List PartL) (at_:Int):Except Int (List Nat):=
 if 200<l.length∨at_<0∨(l.length:Int)≤at_ then .error 1 else kV l 5 at_.toNat
def gR (p:PartL) (base:List UInt8):List UInt8×Int:=if p.d=true then k6 base p.x else if 4099<p.x.length then([],19) else(p.x,0)
def j4 (l:List PartL):List Nat→Except Int (List UInt8)
 | []=> .ok []
 |a::p=>(j4 l p).bind fun s=>if(gR (l.getD a fJ) s).2=0 then .ok (gR (l.getD a fJ) s).1 else .error (gR (l.getD a fJ) s).2
def partV (l:List PartL) (at_:Int):Except Int (List UInt8):=(j6 l at_).bind (j4 l)
def zn (l:List PartL):Nat→Except Int (List (List UInt8))
 |0=> .ok []
 |k+1=>(zn l k).bind fun ts=>(partV l (k:Nat)).map fun s=>ts++ [s]
def allV (l:List PartL):Except Int (List (List UInt8)):=if 200<l.length then .error 1 else zn l l.length
end Go.Proofs
end
section
open Go Go.Proofs Go.Sx Go.StP Go.Flo
namespace Go.Proofs
set_option maxRecDepth 10000
set_option maxHeartbeats 400000
set_option linter.unusedSimpArgs false
def natC (n:Nat):List Value:= [vi n]
theorem y9 (n:Nat): (natC n).length=1:=rfl
abbrev zg (w:World) (v:Value) (l:List PartL):Prop:=SlV 3 cW fJ w v l
theorem VP (p:PartL) (E:TypeId) (n:Nat):aF (some (false,n)) (some (.cells (cW p).toArray E (0,0))) 0=some (.bool p.d):=(rfl)
theorem Un (p:PartL) (E:TypeId) (n:Nat):aF (some (false,n)) (some (.cells (cW p).toArray E (0,0))) 1=some (vi p.b):=(rfl)
theorem VG (p:PartL) (E:TypeId) (n:Nat):aF (some (false,n)) (some (.cells (cW p).toArray E (0,0))) 2=some (vs p.x):=(rfl)
theorem E4 (p:PartL):Value.cells (.agg (cW p).toArray)=(cW p).toArray:=bL _
theorem nE:al Tryz.prog 279=some (.agg (cW fJ).toArray):=id (by kernel_rfl)
theorem VJ (p q:PartL) (E:TypeId):ac (some (true,3)) (some (.cells (cW q).toArray E (0,0))) 0 (.agg (cW p).toArray)=some (.cells (cW p).toArray E (0,0)):=
 ro (cW p) (n:=3) true (cW q).toArray E rfl (wX p) rfl
def jY (l:List PartL) (a0:Int) (v:Value) (D:aA):Prop:=match j6 l a0 with
 | .ok p=> ∃x,v= .tuple #[x,vi 0]∧p.length≤5∧GrI D 3 1 x p.length (p.map natC).flatten
 | .error e=>v= .tuple #[.slice none 0 0,vi e]
set_option linter.defProp false
end Go.Proofs
end
section
open Go Go.Proofs Go.Sx Go.StP Go.Flo
namespace Go.Proofs
set_option maxRecDepth 10000
set_option maxHeartbeats 400000
set_option linter.unusedSimpArgs false
theorem V6 {l:List PartL}: ∀ (k a:Nat) (e:Int),kV l k a= .error e→e≠0
 |0,_,e,h=>by cases h;decide
 |k+1,a,e,h=>by
  unfold kV at h
  split at h
  ·split at h
   ·cases h;decide
   ·split at h
    ·cases h;decide
    ·cases hp:kV l k (l.getD a fJ).b.toNat with
     |error x=>rw[hp] at h;cases h;exact V6 k _ _ hp
     |ok q=>rw[hp] at h;cases h
  ·split at h
   ·cases h;decide
   ·cases h
theorem wc {l:List PartL} {a:Int} {e:Int} (h:j6 l a= .error e):e≠0:=by
 unfold j6 at h
 split at h
 ·cases h;decide
 ·exact V6 _ _ _ h
theorem wP {l:List PartL}: ∀ (k a:Nat) (p:List Nat),a<l.length→kV l k a= .ok p→ ∀x,x∈p→x<l.length
 |0,_,_,_,h=>by cases h
 |k+1,a,p,ha,h=>by
  unfold kV at h
  split at h
  ·split at h
   ·cases h
   ·rename_i hb
    split at h
    ·cases h
    ·cases hp:kV l k (l.getD a fJ).b.toNat with
     |error x=>rw[hp] at h;cases h
     |ok q=>
      rw[hp] at h
      cases h
      intro x hx
      rcases List.mem_cons.1 hx with rfl|hx
      ·exact ha
      ·exact wP k _ q (by omega) hp x hx
  ·split at h
   ·cases h
   ·cases h
    intro x hx
    rw[List.mem_singleton] at hx
    omega
theorem Nw {l:List PartL} {a:Int} {p:List Nat} (h:j6 l a= .ok p): ∀x,x∈p→x<l.length:=by
 unfold j6 at h
 split at h
 ·cases h
 ·exact wP _ _ _ (by omega) h
theorem FI {l:List PartL} {e:Int}: ∀ (p:List Nat) (i:Nat),j4 l (p.drop i)= .error e→j4 l p= .error e
 | [],i,h=>by rw[List.drop_nil] at h;exact h
 |a::p,0,h=>h
 |a::p,i+1,h=>by
  have:=FI p i h
  unfold j4
  rw[this];rfl
theorem NR {E:TypeId} {rest:List Value} {l:List Nat} (n i:Nat) (hi:i<l.length):aF (some (false,n)) (some (dQ natC E rest l)) i=some (vi (l.getD i 0)):=by
 unfold dQ aF
 have e: (l.map natC).flatten=l.map fun n=>vi (n:Nat):=by
  clear hi
  induction l with
  |nil=>rfl
  |cons a l ih=>rw[List.map_cons,List.flatten_cons,List.map_cons,ih];rfl
 simp only[e]
 rw[List.getElem?_toArray,List.getElem?_append_left (by simpa using hi),List.getElem?_map,List.getElem?_eq_getElem hi,List.getD_eq_getElem?_getD,List.getElem?_eq_getElem hi]
 rfl
set_option linter.defProp false
def lz (r:Except Int (List UInt8)):Value:=match r with
 | .ok s=> .tuple #[vs s,vi 0]
 | .error e=> .tuple #[vs [],vi e]
end Go.Proofs
end
section
open Go Go.Proofs Go.Sx Go.StP Go.Flo
namespace Go.Proofs
set_option maxRecDepth 10000
set_option maxHeartbeats 400000
set_option linter.unusedSimpArgs false
set_option linter.defProp false
end Go.Proofs
end
section
open Go Go.Proofs Go.Sx Go.StP Go.Flo
namespace Go.Proofs
set_option maxRecDepth 10000
set_option maxHeartbeats 400000
set_option linter.unusedSimpArgs false
theorem wx {l:List PartL} {e:Int}: ∀ (p:List Nat),j4 l p= .error e→e≠0
 | [],h=>by cases h
 |a::p,h=>by
  unfold j4 at h
  cases hp:j4 l p with
  |error x=>rw[hp] at h;cases h;exact wx p hp
  |ok s=>
   rw[hp] at h
   change(if(gR (l.getD a fJ) s).2=0 then _ else _)=_ at h
   split at h
   ·cases h
   ·rename_i ad;cases h;exact ad
theorem Mv {l:List PartL} {a e:Int} (h:partV l a= .error e):e≠0:=by
 unfold partV at h
 cases hp:j6 l a with
 |error x=>rw[hp] at h;cases h;exact wc hp
 |ok p=>rw[hp] at h;exact wx p h
def strC (s:List UInt8):List Value:= [vs s]
theorem wE (s:List UInt8): (strC s).length=1:=rfl
set_option linter.defProp false
end Go.Proofs
end
namespace Go.Dig
open Go.Sx
def rgt (x:UInt32) (n:UInt64):UInt32:=gE x n.toNat|||oH x (32 - n).toNat
def S1 (e:UInt32):UInt32:=rgt e 6^^^rgt e 11^^^rgt e 25
def S0 (a:UInt32):UInt32:=rgt a 2^^^rgt a 13^^^rgt a 22
def s1 (y:UInt32):UInt32:=rgt y 17^^^rgt y 19^^^gE y 10
def s0 (x:UInt32):UInt32:=rgt x 7^^^rgt x 18^^^gE x 3
def kL:List UInt32:= [1116352408,1899447441,3049323471,3921009573,961987163,1508970993,2453635748,2870763221,3624381080,310598401,607225278,1426881987,1925078388,2162078206,2614888103,3248222580,3835390401,4022224774,264347078,604807628,770255983,1249150122,1555081692,1996064986,2554220882,2821834349,2952996808,3210313671,3336571891,3584528711,113926993,338241895,666307205,773529912,1294757372,1396182291,1695183700,1986661051,2177026350,2456956037,2730485921,2820302411,3259730800,3345764771,3516065817,3600352804,4094571909,275423344,430227734,506948616,659060556,883997877,958139571,1322822218,1537002063,1747873779,1955562222,2024104815,2227730452,2361852424,2428436474,2756734187,3204031479,3329325298]
def initL:List UInt32:= [1779033703,3144134277,1013904242,2773480762,1359893119,2600822924,528734635,1541459225]
def zt (b:List UInt8) (i:Nat):UInt32:=
 UInt32.ofNat (b.getD (4*i) 0).toNat*16777216+UInt32.ofNat (b.getD (4*i+1) 0).toNat*65536+UInt32.ofNat (b.getD (4*i+2) 0).toNat*256+UInt32.ofNat (b.getD (4*i+3) 0).toNat
def wPre (b:List UInt8) (i:Nat):List UInt32:=(List.range 64).map fun j=>if j<i then zt b j else 0
theorem UR (b:List UInt8) (i:Nat): (wPre b i).length=64:=by simp[wPre]
theorem KW (b:List UInt8) (i:Nat): (wPre b i).set i (zt b i)=wPre b (i+1):=by
 apply List.ext_getElem
 ·simp[wPre]
 intro k fR ex
 have hk:k<64:=by simpa [wPre] using ex
 rw[List.getElem_set]
 by_cases h:i=k
 ·subst h;simp[wPre]
 ·rw[if_neg h]
  simp only[wPre,List.getElem_map,List.getElem_range]
  by_cases h1:k<i
  ·rw[if_pos h1,if_pos (by omega)]
  ·rw[if_neg h1,if_neg (by omega)]
theorem Kc (b:List UInt8):wPre b 0=List.replicate 64 0:=by
 apply List.ext_getElem
 ·simp[wPre]
 intro k fR ex
 simp only[wPre,List.getElem_map,List.getElem_range,List.getElem_replicate]
 rw[if_neg (by omega)]
def pc (w:List UInt32) (g:Nat):List UInt32:=w.set g (s1 (w.getD (g - 2) 0)+w.getD (g - 7) 0+s0 (w.getD (g - 15) 0)+w.getD (g - 16) 0)
def wGo (w:List UInt32):Nat→List UInt32
 |0=>w
 |n+1=>pc (wGo w n) (16+n)
theorem VX (w:List UInt32) (n:Nat): (wGo w n).length=w.length:=by
 induction n with
 |zero=>rfl
 |succ n ih=>simp[wGo,pc,ih]
def wAll (b:List UInt8):List UInt32:=wGo (wPre b 16) 48
theorem Gi (b:List UInt8): (wAll b).length=64:=by rw[wAll,VX,UR]
def R9 (s:List UInt32) (k w:UInt32):List UInt32:=
 let t:=s.getD 7 0+S1 (s.getD 4 0)+ (s.getD 4 0&&&s.getD 5 0||| ~~~ s.getD 4 0&&&s.getD 6 0)+k+w
 let u:=S0 (s.getD 0 0)+ (s.getD 0 0&&&s.getD 1 0|||s.getD 0 0&&&s.getD 2 0|||s.getD 1 0&&&s.getD 2 0)
 [t+u,s.getD 0 0,s.getD 1 0,s.getD 2 0,s.getD 3 0+t,s.getD 4 0,s.getD 5 0,s.getD 6 0]
def rGo (st w:List UInt32):Nat→List UInt32
 |0=>st
 |n+1=>R9 (rGo st w n) (kL.getD n 0) (w.getD n 0)
def nK (st s:List UInt32) (i:Nat):List UInt32:=(List.range 8).map fun j=>if j<i then st.getD j 0+s.getD j 0 else st.getD j 0
theorem Yc (st s:List UInt32) (i:Nat): (nK st s i).length=8:=by simp[nK]
def comp (st:List UInt32) (b:List UInt8):List UInt32:=nK st (rGo st (wAll b) 64) 8
theorem UK (st:List UInt32) (b:List UInt8): (comp st b).length=8:=Yc _ _ _
def lj (st:List UInt32) (m:List UInt8):Nat→List UInt32
 |0=>st
 |n+1=>comp (lj st m n) ((m.drop (64*n)).take 64)
theorem Fc (st:List UInt32) (m:List UInt8) (n:Nat) (h:st.length=8): (lj st m n).length=8:=by
 cases n with
 |zero=>exact h
 |succ n=>exact UK _ _
theorem GF (st:List UInt32) (m x:List UInt8) (n:Nat) (h:64*n≤m.length):lj st (m++x) n=lj st m n:=by
 induction n with
 |zero=>rfl
 |succ n ih=>
  simp only[lj]
  rw[ih (by omega),List.drop_append_of_le_length (by omega),List.take_append_of_le_length (by simp;omega)]
section
variable {bg:Bool} {st:List UInt32} {rest:List UInt8} {many:Int} {taken:UInt64} {E:TypeId}
end
def acc (b:List UInt8) (i:Nat):Nat→UInt32
 |0=>0
 |k+1=>oH (acc b i k) 8|||UInt32.ofNat (b.getD (4*i+k) 0).toNat
theorem W3 {α:Type} (l:List α) (i:Nat) (x d:α) (h:i<l.length): (l.set i x).getD i d=x:=by
 simp[List.getD_eq_getElem?_getD,h]
def wG (b:List UInt8) (g:Nat):List UInt32:=wGo (wPre b 16) (g - 16)
theorem LA (b:List UInt8) (g:Nat): (wG b g).length=64:=by rw[wG,VX,UR]
theorem P8 (b:List UInt8) (g:Nat) (h:16≤g):wG b (g+1)=pc (wG b g) g:=by
 unfold wG
 have:g+1 - 16=(g - 16)+1:=by omega
 rw[this]
 show pc _ (16+ (g - 16))=_
 rw[show 16+ (g - 16)=g from by omega]
theorem QJ (b:List UInt8):wG b 64=wAll b:=rfl
theorem MO (b:List UInt8):wPre b 16=wG b 16:=rfl
def Glob (w:World):Prop:= ∃e0 e1 f0 f1,w.heap[0]? =some (.cells (a32 initL) e0 f0)∧w.heap[1]? =some (.cells (a32 kL) e1 f1)
theorem Glob.of {w0 w:World} {L:aA} (hg:Glob w0) (h:Hp w0 L w) (hk: ∀b,b∈keys L→1<b):Glob w:=by
 obtain⟨e0,e1,f0,f1,h0,h1⟩:=hg
 refine⟨e0,e1,f0,f1, ?_, ?_⟩
 ·rw[h.old 0 (Array.getElem?_eq_some_iff.1 h0).1 (fun hm=>by have:=hk 0 hm;omega)];exact h0
 ·rw[h.old 1 (Array.getElem?_eq_some_iff.1 h1).1 (fun hm=>by have:=hk 1 hm;omega)];exact h1
structure Hs where
 st:List UInt32
 rest:List UInt8
 many:Nat
structure Hs.Ok (s:Hs):Prop where
 st:s.st.length=8
 rest:s.rest.length=64
 many:s.many<64
def hput (s:Hs) (x:UInt8):Hs:=
 if s.many+1=64 then⟨comp s.st (s.rest.set s.many x),s.rest.set s.many x,0⟩ else⟨s.st,s.rest.set s.many x,s.many+1⟩
theorem P7 {s:Hs} (x:UInt8) (h:s.Ok): (hput s x).Ok:=by
 unfold hput
 split
 ·exact⟨UK _ _,by simp[h.rest],by show(0:Nat)<64;omega⟩
 ·exact⟨h.st,by simp[h.rest],by show s.many+1<64;have:=h.many;omega⟩
theorem xF (cs:Array Value) (E:TypeId) (fz:Nat×Nat) (n i:Nat):aF (some (false,n)) (some (.cells cs E fz)) i=cs[i]? :=(rfl)
end Go.Dig
section
open Go Go.Proofs Go.Sx Go.Dig
namespace Go.Proofs
set_option maxRecDepth 10000
set_option maxHeartbeats 4000000
set_option linter.unusedSimpArgs false
def GlobE (w:World):Prop:= ∃e0 e1 f0 f1,w.heap[3]? =some (.cells (a32 initL) e0 f0)∧w.heap[4]? =some (.cells (a32 kL) e1 f1)
theorem GlobE.of {w0 w:World} {L:aA} (hg:GlobE w0) (h:Hp w0 L w) (hk: ∀b,b∈keys L→4<b):GlobE w:=by
 obtain⟨e0,e1,f0,f1,h0,h1⟩:=hg
 refine⟨e0,e1,f0,f1, ?_, ?_⟩
 ·rw[h.old _ (Array.getElem?_eq_some_iff.1 h0).1 (fun hm=>by have:=hk _ hm;omega)];exact h0
 ·rw[h.old _ (Array.getElem?_eq_some_iff.1 h1).1 (fun hm=>by have:=hk _ hm;omega)];exact h1
theorem ow (x:UInt32) (n:UInt64) (w:World):Rets Tryz.prog 186 #[v32 x,v64 n] w (fun v D=>v=v32 (rgt x n)∧D= []):=by
 refine Rets.enterV Tryz.func186 rfl (rs:= [.tmp 4]) Tryz.results186 Tryz.ntmps186 ?_
 refine kf ?_
 first|with_reducible refine ks [] @Nat.add_zero ?_|refine kp @Nat.add_zero ?_
 refine⟨_,(ke @Nat.add_zero),trivial, ?_⟩
 rfl
theorem Gk (w:World):Rets Tryz.prog 187 #[] w (fun v D=>v= .agg (a32 kL)∧D= []):=by
 refine Rets.enterV Tryz.func187 rfl (rs:= [.cell 0 256]) Tryz.results187 Tryz.ntmps187 ?_
 refine kf ?_
 first|with_reducible refine ks [] @Nat.add_zero ?_|refine kp @Nat.add_zero ?_
 have hkl:kL.length=64:=rfl
 refine Ow.alloc rfl rfl Tryz.zr256 fun b1 _ aJ=> ?_
 refine ko @Nat.add_zero ?_
 first|with_reducible refine ks [] @Nat.add_zero ?_|refine kp @Nat.add_zero ?_
 refine Ow.build (.agg (a32 kL)) rfl (by kernel_rfl) ?_
 refine ko @Nat.add_zero ?_
 first|with_reducible refine ks [] @Nat.add_zero ?_|refine kp @Nat.add_zero ?_
 refine⟨_,(ke @Nat.add_zero),⟨aJ,trivial⟩, ?_⟩
 rfl
end Go.Proofs
end
section
open Go Go.Proofs Go.Sx Go.Dig
namespace Go.Proofs
set_option maxRecDepth 10000
set_option maxHeartbeats 4000000
set_option linter.unusedSimpArgs false
set_option linter.defProp false
end Go.Proofs
end
section
open Go Go.Proofs Go.Sx Go.Dig
namespace Go.Proofs
set_option maxRecDepth 10000
set_option maxHeartbeats 1000000
set_option linter.unusedSimpArgs false
theorem wr (n:Nat):UInt64.ofInt (n:Int)=UInt64.ofNat n:=by
 apply UInt64.toNat.inj
 rw[show UInt64.ofInt (n:Int)=UInt64.ofNat ((n:Int)%2^64).toNat from rfl,UInt64.toNat_ofNat',UInt64.toNat_ofNat']
 omega
set_option linter.defProp false
end Go.Proofs
end
namespace Go.Dig
open Go.Sx
def p9 (m:Nat):Nat:=(120 - m)%64
def lenB (t:UInt64) (g:Nat):UInt8:=UInt8.ofNat (n3 (8*t) (56 - 8*g)).toNat
def len8 (t:UInt64):List UInt8:=(List.range 8).map (lenB t)
def outB (st:List UInt32) (j:Nat):UInt8:=UInt8.ofNat (gE (st.getD (j / 4) 0) (24 - 8* (j%4))).toNat
def mQ (st:List UInt32) (k:Nat):List UInt8:=(List.range 32).map fun j=>if j<k then outB st j else 0
def H0:Hs:=⟨initL,List.replicate 64 0,0⟩
theorem Rj:H0.Ok:=⟨rfl,by simp[H0],by show(0:Nat)<64;omega⟩
theorem outPre_length (st:List UInt32) (k:Nat): (mQ st k).length=32:=by simp[mQ]
theorem HY (st:List UInt32):mQ st 0=List.replicate 32 0:=by
 apply List.ext_getElem
 ·simp[mQ]
 intro k fR ex
 simp only[mQ,List.getElem_map,List.getElem_range,List.getElem_replicate]
 rw[if_neg (by omega)]
theorem IN (st:List UInt32) (k:Nat): (mQ st k).set k (outB st k)=mQ st (k+1):=by
 apply List.ext_getElem
 ·simp[mQ]
 intro j fR ex
 rw[List.getElem_set]
 by_cases h:k=j
 ·subst h;simp[mQ]
 ·rw[if_neg h]
  simp only[mQ,List.getElem_map,List.getElem_range]
  by_cases h1:j<k
  ·rw[if_pos h1,if_pos (by omega)]
  ·rw[if_neg h1,if_neg (by omega)]
theorem GM (t:UInt64): (len8 t).length=8:=by simp[len8]
end Go.Dig
section
open Go Go.Proofs Go.Sx Go.Dig
namespace Go.Proofs
set_option maxRecDepth 10000
set_option maxHeartbeats 1000000
set_option linter.unusedSimpArgs false
set_option linter.defProp false
end Go.Proofs
end
section
open Go Go.Proofs Go.Sx Go.Dig
namespace Go.Proofs
set_option maxRecDepth 10000
set_option maxHeartbeats 1000000
set_option linter.unusedSimpArgs false
set_option linter.defProp false
end Go.Proofs
end
namespace Go.Dig
open Go.Sx
def quoN (t:UInt64):Nat→UInt64
 |0=>t
 |n+1=>quoN t n / 256
theorem Jd (t:UInt64) (n:Nat): (quoN t n).toNat=t.toNat / 256^n:=by
 induction n with
 |zero=>simp[quoN]
 |succ n ih=>
  show(quoN t n / 256).toNat=_
  rw[UInt64.toNat_div,ih,Nat.pow_succ,Nat.div_div_eq_div_mul];rfl
def tK (t:UInt64) (j:Nat):UInt8:=UInt8.ofNat (n3 t (56 - 8*j)).toNat
theorem NM (t:UInt64) (i:Nat) (h:i<8):UInt8.ofNat (quoN t i%256).toNat=tK t (7 - i):=by
 apply UInt8.toNat.inj
 unfold tK
 rw[UInt8.toNat_ofNat',UInt8.toNat_ofNat',UInt64.toNat_mod,Jd,n3,UInt64.toNat_ofNat']
 have e:56 - 8* (7 - i)=8*i:=by omega
 have ht:=t.toNat_lt
 have hd:t.toNat / 2^ (8*i)≤t.toNat:=Nat.div_le_self _ _
 rw[e,Nat.mod_eq_of_lt (a:=t.toNat / 2^ (8*i)) (by omega)]
 have e2:256^i=2^ (8*i):=by rw[Nat.pow_mul]
 rw[e2,show(256:UInt64).toNat=256 from rfl]
 omega
def kK (t:UInt64) (i:Nat):List UInt8:=(List.range 8).map fun j=>if 8≤j+i then tK t j else 0
theorem XV (t:UInt64) (i:Nat): (kK t i).length=8:=by simp[kK]
theorem G7 (t:UInt64):kK t 0=List.replicate 8 0:=by
 apply List.ext_getElem
 ·simp[kK]
 intro k fR ex
 have:k<8:=by simpa [kK] using fR
 simp only[kK,List.getElem_map,List.getElem_range,List.getElem_replicate]
 rw[if_neg (by omega)]
theorem Fw (t:UInt64) (i:Nat) (h:i<8): (kK t i).set (7 - i) (UInt8.ofNat (quoN t i%256).toNat)=kK t (i+1):=by
 rw[NM t i h]
 apply List.ext_getElem
 ·simp[kK]
 intro j hj1 hj2
 have hj:j<8:=by simpa [kK] using hj2
 rw[List.getElem_set]
 by_cases h1:7 - i=j
 ·rw[if_pos h1]
  simp only[kK,List.getElem_map,List.getElem_range]
  rw[if_pos (by omega),h1]
 ·rw[if_neg h1]
  simp only[kK,List.getElem_map,List.getElem_range]
  by_cases h2:8≤j+i
  ·rw[if_pos h2,if_pos (by omega)]
  ·rw[if_neg h2,if_neg (by omega)]
theorem Ge (t:UInt64):kK (8*t) 8=len8 t:=by
 unfold kK len8
 apply List.map_congr_left
 intro j hj
 rw[if_pos (by omega)];rfl
def padR (m:List UInt8):List UInt8:=m++ [128]++List.replicate (p9 ((m.length+1)%64)) 0++len8 (UInt64.ofNat m.length)
theorem Ug (n:Nat): (n+p9 (n%64))%64=56∧p9 (n%64)<64:=by unfold p9;omega
theorem HZ (m:List UInt8): (padR m).length%64=0∧(padR m).length≤m.length+72:=by
 have:=Ug (m.length+1)
 simp only[padR,List.length_append,List.length_replicate,GM,List.length_cons,List.length_nil]
 omega
def shaR (m:List UInt8):List UInt8:=mQ (lj initL (padR m) ((padR m).length / 64)) 32
theorem K8 (st s:List UInt32):nK st s 8= [st.getD 0 0+s.getD 0 0,st.getD 1 0+s.getD 1 0,st.getD 2 0+s.getD 2 0,st.getD 3 0+s.getD 3 0,st.getD 4 0+s.getD 4 0,st.getD 5 0+s.getD 5 0,st.getD 6 0+s.getD 6 0,st.getD 7 0+s.getD 7 0]:=rfl
end Go.Dig
section
open Go Go.Proofs Go.Sx Go.Dig
namespace Go.Proofs
set_option maxRecDepth 10000
set_option maxHeartbeats 1000000
set_option linter.unusedSimpArgs false
set_option linter.defProp false
def ak:= @W3
theorem Yq (m:List UInt8) (hm:m.length<1099511627776) (w:World):
  Rets Tryz.prog 152 #[vs m] w (fun v D=>v=vs (padR m)∧D= []):=by
 refine Rets.enterV Tryz.func152 rfl (rs:= [.tmp 2]) Tryz.results152 Tryz.ntmps152 ?_
 refine kf ?_
 first|with_reducible refine ks [] @ak ?_|refine kp @ak ?_
 have hz:=Ug (m.length+1)
 rw[show m++ [128]=m++ [128]++List.replicate 0 0 from(List.append_nil _).symm]
 refine Cw.loopG (G:=Nat) [9,10,11,12,13,14,3] (fun g=> [(3,vs (m++ [128]++List.replicate g 0))]) (fun g=> []) (fun g=>g≤p9 ((m.length+1)%64)) (fun g=>p9 ((m.length+1)%64) - g) 0 rfl rfl ?_ ?_
 ·omega
 intro g j hg
 refine kv ?_
 have hl: (m++ [128]++List.replicate g 0).length=m.length+1+g:=by simp;omega
 by_cases aC:g<p9 ((m.length+1)%64)
 ·have h56: (m.length+1+g)%64≠56:=by unfold p9 at*;omega
  first|with_reducible refine ks [] (And.intro @ak @hl) ?_|refine kp (And.intro @ak @hl) ?_
  refine Again.mk (g+1) (by omega) (by omega) rfl ?_
  rw[show m++ [128]++List.replicate (g+1) 0=m++ [128]++List.replicate g 0++ [0] from by rw[List.replicate_succ'];simp]
  rfl
 ·have Sp:g=p9 ((m.length+1)%64):=by omega
  subst Sp
  first|with_reducible refine ks [] (And.intro @ak @hl) ?_|refine kp (And.intro @ak @hl) ?_
  refine Ow.alloc rfl rfl Tryz.zr255 fun b1 bE aJ=> ?_
  rw[show UInt64.ofInt (m.length:Int)=UInt64.ofNat m.length from wr _]
  refine ko @ak ?_
  first|with_reducible refine ks [] @ak ?_|refine kp @ak ?_
  generalize ht:UInt64.ofNat m.length*8=t
  rw[←G7 t]
  refine Cw.loopG (G:=Nat) [19,20,23,24,25,26,27,28,29,30,4,21,22,6] (fun i=> [(4,v64 (quoN t i)),(6,vi i)]) (fun i=> [(b1, .cells (a8 (kK t i)) 255 (0,0))]) (fun i=>i≤8) (fun i=>8 - i) 0 rfl rfl ?_ ?_
  ·omega
  intro i ji hi
  refine kv ?_
  have od:=XV t i
  by_cases hi8:i<8
  ·first|with_reducible refine ks [] @ak ?_|refine kp @ak ?_
   refine Again.mk (i+1) (by omega) (by omega) ?_ rfl
   rw[Fw t i hi8]
  ·have oV:i=8:=by omega
   subst oV
   first|with_reducible refine ks [] @ak ?_|refine kp @ak ?_
   rw[List.drop_zero,List.take_of_length_le (show(kK t 8).length≤8 by omega),←ht,UInt64.mul_comm,Ge]
   refine⟨_,(ke @ak),⟨aJ,trivial⟩, ?_⟩
   rfl
theorem JE (st:List UInt32) (blk:List UInt8) (bQ:st.length=8) (rD:blk.length=64) (w:World):
  Rets Tryz.prog 153 #[.agg (a32 st),vs blk] w (fun v D=>v= .agg (a32 (comp st blk))∧D= []):=by
 have hkl:kL.length=64:=rfl
 refine Rets.enterV Tryz.func153 rfl (rs:= [.cell 4 227]) Tryz.results153 Tryz.ntmps153 ?_
 refine kf ?_
 first|with_reducible refine ks [] @ak ?_|refine kp @ak ?_
 refine Ow.box rfl rfl fun b1 bE aJ=> ?_
 refine ko @ak ?_
 refine Ow.alloc rfl rfl Tryz.zr227 fun b2 bG cU=> ?_
 obtain⟨A3,-⟩:=bG
 refine ko @ak ?_
 first|with_reducible refine ks [] @ak ?_|refine kp @ak ?_
 refine Ow.alloc rfl rfl Tryz.zr256 fun b3 gM jK=> ?_
 obtain⟨DK,DL,-⟩:=gM
 refine ko @ak ?_
 first|with_reducible refine ks [] @ak ?_|refine kp @ak ?_
 rw[←Kc blk]
 refine Cw.loopG (G:=Nat) [22,23,26,27,28,29,30,31,32,33,34,35,36,37,38,39,40,41,42,43,44,45,46,47,48,49,50,51,52,53,54,55,56,24,25,6] (fun g=> [(6,vi g)]) (fun g=> [(b1, .cells (a32 st) 227 (0,0)),(b2, .cells (a32 (List.replicate 8 0)) 227 (0,0)),(b3, .cells (a32 (wPre blk g)) 256 (0,0))]) (fun g=>g≤16) (fun g=>16 - g) 0 rfl rfl ?_ ?_
 ·omega
 intro g j hg
 refine kv ?_
 have aP:=UR blk g
 by_cases aC:g<16
 ·first|with_reducible refine ks [] @ak ?_|refine kp @ak ?_
  refine Cw.regionO [0,1,2,3,4,5,6,7,8,9,10,11,12,13,14,15,16,17,18,19,20,21,22,23,24,25,26,27,28,29,30,31] [31] rfl (by kernel_rfl) (by kernel_rfl) ?_
  simp only[ar, ↓ap, ↓ag, ↓an, ↓am,ah]
  refine kq @ak ?_
  refine Ow.store rfl rfl rfl (ke @ak) ?_
  refine ko @ak ?_
  first|with_reducible refine ks [] @ak ?_|refine kp @ak ?_
  exact Again.mk (g+1) (by omega) (by omega) (by rw[←KW];rfl) rfl
 ·have So:g=16:=by omega
  subst So
  first|with_reducible refine ks [] @ak ?_|refine kp @ak ?_
  rw[MO]
  refine Cw.loopG (G:=Nat) [57,58,61,62,63,64,65,66,67,68,8,9,69,70,71,72,73,74,75,76,77,78,79,80,81,82,83,84,85,86,87,88,89,90,91,92,93,94,95,96,97,59,60,7] (fun g=> [(7,vi g)]) (fun g=> [(b1, .cells (a32 st) 227 (0,0)),(b2, .cells (a32 (List.replicate 8 0)) 227 (0,0)),(b3, .cells (a32 (wG blk g)) 256 (0,0))]) (fun g=>16≤g∧g≤64) (fun g=>64 - g) 16 rfl rfl ?_ ?_
  ·omega
  intro g j hg
  refine kv ?_
  obtain⟨rI,kz⟩:=hg
  have aP:=LA blk g
  by_cases aC:g<64
  ·first|with_reducible refine ks [] @ak ?_|refine kp @ak ?_
   refine Cw.regionO [0,1,2,4,5,6,3,8,7,9] [] rfl (by kernel_rfl) (by kernel_rfl) ?_
   simp only[ar, ↓ap, ↓ag, ↓an, ↓am,ah]
   refine kq @ak ?_
   first|with_reducible refine ks [] @ak ?_|refine kp @ak ?_
   refine Cw.regionO [0,1,3,6,7,9,10,11,14,16,19,20,23,24,25,12,26,2,4,5,8,13,15,17,18,21,22,27,28,29] [29] rfl (by kernel_rfl) (by kernel_rfl) ?_
   simp only[ar, ↓ap, ↓ag, ↓an, ↓am,ah]
   refine kq @ak ?_
   refine Ow.callFV rfl Tryz.call186 (fun w' aB=>ow _ 17 w') ?_
   refine kq @ak ?_
   refine Ow.callFV rfl Tryz.call186 (fun w' aB=>ow _ 19 w') ?_
   refine kq @ak ?_
   refine Ow.callFV rfl Tryz.call186 (fun w' aB=>ow _ 7 w') ?_
   refine kq @ak ?_
   refine Ow.callFV rfl Tryz.call186 (fun w' aB=>ow _ 18 w') ?_
   refine kq @ak ?_
   refine Ow.store rfl rfl rfl (ke @ak) ?_
   refine ko @ak ?_
   first|with_reducible refine ks [] @ak ?_|refine kp @ak ?_
   exact Again.mk (g+1) (by omega) (by omega) (by rw[P8 blk g rI];rfl) rfl
  ·have tq:g=64:=by omega
   subst tq
   rw[QJ]
   have hwl:=Gi blk
   first|with_reducible refine ks [] @ak ?_|refine kp @ak ?_
   refine Ow.callFV rfl Tryz.call187 (fun w' aB=>Gk w') ?_
   refine ko @ak ?_
   refine Ow.alloc rfl rfl Tryz.zr256 fun b4 mi o0=> ?_
   obtain⟨W9,Ro,h34,-⟩:=mi
   refine ko @ak ?_
   first|with_reducible refine ks [] @ak ?_|refine kp @ak ?_
   refine Cw.regionO [0,2,4,6,1,8,3,9,5,10,7,11] [] rfl (by kernel_rfl) (by kernel_rfl) ?_
   simp only[ar, ↓ap, ↓ag, ↓an, ↓am,ah]
   refine kq @ak ?_
   first|with_reducible refine ks [] @ak ?_|refine kp @ak ?_
   refine Cw.regionO [0,2,4,6,1,8,3,9,5,10,7,11] [] rfl (by kernel_rfl) (by kernel_rfl) ?_
   simp only[ar, ↓ap, ↓ag, ↓an, ↓am,ah]
   refine kq @ak ?_
   first|with_reducible refine ks [] @ak ?_|refine kp @ak ?_
   generalize hw:wAll blk=W at*
   refine Cw.loopG (G:=Nat) [115,116,119,120,121,122,123,124,125,126,127,128,129,130,131,132,133,134,135,136,137,138,139,140,141,142,143,144,145,20,146,147,148,149,150,151,152,153,154,155,156,157,158,159,160,161,162,163,164,165,21,166,18,167,17,168,16,169,170,171,15,172,14,173,13,174,12,175,176,177,11,117,118,19] (fun g=> [(19,vi g),(11,v32 ((rGo st W g).getD 0 0)),(12,v32 ((rGo st W g).getD 1 0)),(13,v32 ((rGo st W g).getD 2 0)),(14,v32 ((rGo st W g).getD 3 0)),(15,v32 ((rGo st W g).getD 4 0)),(16,v32 ((rGo st W g).getD 5 0)),(17,v32 ((rGo st W g).getD 6 0)),(18,v32 ((rGo st W g).getD 7 0))]) (fun g=> [(b1, .cells (a32 st) 227 (0,0)),(b2, .cells (a32 (List.replicate 8 0)) 227 (0,0)),(b3, .cells (a32 W) 256 (0,0)),(b4, .cells (a32 kL) 256 (0,0))]) (fun g=>g≤64) (fun g=>64 - g) 0 rfl rfl ?_ ?_
   ·omega
   ·intro g j hg
    refine kv ?_
    by_cases aC:g<64
    ·first|with_reducible refine ks [] @ak ?_|refine kp @ak ?_
     refine Cw.regionO [0,1,3,6,10,11,12,13,14,15,16,17,19,20,23,24,21,25,2,4,5,7,8,9,18,22,26,27] [] rfl (by kernel_rfl) (by kernel_rfl) ?_
     simp only[ar, ↓ap, ↓ag, ↓an, ↓am,ah]
     refine kq @ak ?_
     refine Ow.callFV rfl Tryz.call186 (fun w' aB=>ow _ 6 w') ?_
     refine kq @ak ?_
     refine Ow.callFV rfl Tryz.call186 (fun w' aB=>ow _ 11 w') ?_
     refine kq @ak ?_
     refine Ow.callFV rfl Tryz.call186 (fun w' aB=>ow _ 25 w') ?_
     refine kq @ak ?_
     first|with_reducible refine ks [] @ak ?_|refine kp @ak ?_
     refine Ow.callFV rfl Tryz.call186 (fun w' aB=>ow _ 2 w') ?_
     refine ko @ak ?_
     refine Ow.callFV rfl Tryz.call186 (fun w' aB=>ow _ 13 w') ?_
     refine ko @ak ?_
     refine Ow.callFV rfl Tryz.call186 (fun w' aB=>ow _ 22 w') ?_
     refine ko @ak ?_
     first|with_reducible refine ks [] @ak ?_|refine kp @ak ?_
     exact Again.mk (g+1) (by omega) (by omega) rfl rfl
    ·have tq:g=64:=by omega
     subst tq
     first|with_reducible refine ks [] @ak ?_|refine kp @ak ?_
     have AY:comp st blk=nK st (rGo st W 64) 8:=by rw[←hw];rfl
     rw[AY]
     generalize rGo st W 64=R at*
     rw[K8]
     refine Ow.build (.agg (a32 [st.getD 0 0+R.getD 0 0,st.getD 1 0+R.getD 1 0,st.getD 2 0+R.getD 2 0,st.getD 3 0+R.getD 3 0,st.getD 4 0+R.getD 4 0,st.getD 5 0+R.getD 5 0,st.getD 6 0+R.getD 6 0,st.getD 7 0+R.getD 7 0])) rfl (by kernel_rfl) ?_
     refine ko @ak ?_
     first|with_reducible refine ks [] @ak ?_|refine kp @ak ?_
     refine⟨_,(ke @ak),⟨aJ,cU,jK,o0,trivial⟩, ?_⟩
     rfl
end Go.Proofs
end
section
open Go Go.Proofs Go.Sx Go.Dig
namespace Go.Proofs
set_option maxRecDepth 10000
set_option maxHeartbeats 1000000
set_option linter.unusedSimpArgs false
set_option linter.defProp false
def eZ:= @W3
theorem IK (m:List UInt8) (hm:m.length<1099511627776) (w:World):
  Rets Tryz.prog 110 #[vs m] w (fun v D=>v= .agg (a8 (shaR m))∧D= []):=by
 refine Rets.enterV Tryz.func110 rfl (rs:= [.cell 2 84]) Tryz.results110 Tryz.ntmps110 ?_
 refine kf ?_
 first|with_reducible refine ks [] @eZ ?_|refine kp @eZ ?_
 refine Ow.alloc rfl rfl Tryz.zr84 fun b1 bE aJ=> ?_
 refine ko @eZ ?_
 first|with_reducible refine ks [] @eZ ?_|refine kp @eZ ?_
 refine Ow.callFV rfl Tryz.call152 (fun w' aB=>Yq m hm w') ?_
 have hp:=HZ m
 unfold shaR
 generalize padR m=p at*
 refine ko @eZ ?_
 first|with_reducible refine ks [] @eZ ?_|refine kp @eZ ?_
 refine Ow.build (.agg (a32 initL)) rfl (by kernel_rfl) ?_
 refine ko @eZ ?_
 refine Ow.alloc rfl rfl Tryz.zr227 fun b2 bG cU=> ?_
 obtain⟨A3,-⟩:=bG
 have oW:initL.length=8:=rfl
 refine ko @eZ ?_
 first|with_reducible refine ks [] @eZ ?_|refine kp @eZ ?_
 rw[show a32 initL=a32 (lj initL p 0) from rfl]
 refine Cw.loopG (G:=Nat) [11,12,13,14,17,18,19,20,21,22,23,15,16,5] (fun g=> [(5,vi (64*g))]) (fun g=> [(b1, .cells (a8 (List.replicate 32 0)) 84 (0,0)),(b2, .cells (a32 (lj initL p g)) 227 (0,0))]) (fun g=>64*g≤p.length) (fun g=>p.length - 64*g) 0 rfl rfl ?_ ?_
 ·omega
 intro g j hg
 refine kv ?_
 have qC:=Fc initL p g rfl
 by_cases aC:64*g<p.length
 ·first|with_reducible refine ks [] @eZ ?_|refine kp @eZ ?_
  refine Cw.regionO [1,2,3,4,5,0,6,7] [7] rfl (by kernel_rfl) (by kernel_rfl) ?_
  simp only[ar, ↓ap, ↓ag, ↓an, ↓am,ah]
  refine kq @eZ ?_
  rw[show List.drop (64*g) (List.take (64*g+64) p)=(p.drop (64*g)).take 64 from by rw[List.drop_take];congr 1;omega]
  refine Ow.callFV rfl Tryz.call153 (fun w' aB=>JE _ _ qC (by simp;omega) w') ?_
  have hcl2:=UK (lj initL p g) ((p.drop (64*g)).take 64)
  refine kq @eZ ?_
  refine Ow.store rfl rfl rfl (ke @eZ) ?_
  refine ko @eZ ?_
  first|with_reducible refine ks [] @eZ ?_|refine kp @eZ ?_
  exact Again.mk (g+1) (by omega) (by omega) rfl (by rw[show 64* ((g+1:Nat):Int)=64* (g:Int)+64 from by omega];rfl)
 ·have Sp:g=p.length / 64:=by omega
  first|with_reducible refine ks [] @eZ ?_|refine kp @eZ ?_
  rw[←Sp]
  refine Ow.alloc rfl rfl Tryz.zr84 fun b3 gM jK=> ?_
  obtain⟨DK,DL,-⟩:=gM
  refine ko @eZ ?_
  first|with_reducible refine ks [] @eZ ?_|refine kp @eZ ?_
  generalize lj initL p g=S at*
  rw[show [(b1,Obj.cells (a8 (List.replicate 32 0)) 84 (0,0)),(b2, .cells (a32 S) 227 (0,0)),(b3, .cells (a8 (List.replicate 32 0)) 84 (0,0))]= [(b1,Obj.cells (a8 (List.replicate 32 0)) 84 (0,0)),(b2, .cells (a32 S) 227 (0,0)),(b3, .cells (a8 (mQ S 0)) 84 (0,0))] from by rw[HY]]
  refine Cw.loopG (G:=Nat) [24,25,28,29,30,31,32,33,34,35,36,37,38,39,40,26,27,7] (fun k=> [(7,vi k)]) (fun k=> [(b1, .cells (a8 (List.replicate 32 0)) 84 (0,0)),(b2, .cells (a32 S) 227 (0,0)),(b3, .cells (a8 (mQ S k)) 84 (0,0))]) (fun k=>k≤32) (fun k=>32 - k) 0 rfl rfl ?_ ?_
  ·omega
  intro k jk hk
  refine kv ?_
  have mG:=outPre_length S k
  by_cases hk:k<32
  ·first|with_reducible refine ks [] @eZ ?_|refine kp @eZ ?_
   refine Again.mk (k+1) (by omega) (by omega) ?_ rfl
   have e: (UInt64.ofInt (24 - 8* ((k:Int)%4))).toNat=24 - 8* (k%4):=by
    rw[show(24 - 8* ((k:Int)%4))=((24 - 8* (k%4):Nat):Int) from by omega,wr,UInt64.toNat_ofNat',Nat.mod_eq_of_lt (by omega)]
   rw[e,←IN];rfl
  ·have T2:k=32:=by omega
   subst T2
   first|with_reducible refine ks [] @eZ ?_|refine kp @eZ ?_
   refine⟨_,(ke @eZ),⟨aJ,cU,jK,trivial⟩, ?_⟩
   rfl
end Go.Proofs
end
namespace Go.Dig
open Go.Sx
structure Inv (s:Hs) (p:List UInt8):Prop where
 ok:s.Ok
 st:s.st=lj initL p (p.length / 64)
 many:s.many=p.length%64
 rest:s.rest.take s.many=p.drop (64* (p.length / 64))
theorem Inv.put {s:Hs} {p:List UInt8} (h:Inv s p) (x:UInt8):Inv (hput s x) (p++ [x]):=by
 obtain⟨eX,bQ,Wq,nu⟩:=h
 have hk:=P7 x eX
 have TL:=eX.many
 have rV:=eX.rest
 have eW:64* (p.length / 64)≤p.length:=by omega
 have rY: (s.rest.set s.many x).take (s.many+1)=p.drop (64* (p.length / 64))++ [x]:=by
  rw[List.take_add_one,List.take_set,←nu]
  congr 1
  ·rw[List.set_eq_of_length_le (by simp only[List.length_take];exact Nat.min_le_left _ _)]
  ·simp[rV,TL]
 have aP: (p++ [x]).length=p.length+1:=by simp
 have hc:lj initL (p++ [x]) (p.length / 64)=lj initL p (p.length / 64):=GF _ _ _ _ eW
 by_cases DM:s.many+1=64
 ·have e:hput s x=⟨comp s.st (s.rest.set s.many x),s.rest.set s.many x,0⟩:=by unfold hput;rw[if_pos DM]
  have hd: (p.length+1) / 64=p.length / 64+1:=by omega
  have hr: (s.rest.set s.many x)=p.drop (64* (p.length / 64))++ [x]:=by
   rw[←rY,DM,List.take_of_length_le (by simp[rV])]
  refine⟨hk, ?_, ?_, ?_⟩
  ·rw[e,aP,hd]
   show comp s.st _=comp (lj initL (p++ [x]) (p.length / 64)) _
   rw[hc,←bQ,hr,List.drop_append_of_le_length eW,List.take_of_length_le (by simp;omega)]
  ·rw[e,aP];show 0=_;omega
  ·rw[e,aP]
   show List.take 0 _=_
   rw[List.take_zero,List.drop_of_length_le (by rw[aP];omega)]
 ·have e:hput s x=⟨s.st,s.rest.set s.many x,s.many+1⟩:=by unfold hput;rw[if_neg DM]
  have hd: (p.length+1) / 64=p.length / 64:=by omega
  refine⟨hk, ?_, ?_, ?_⟩
  ·rw[e,aP,hd,hc];exact bQ
  ·rw[e,aP];show s.many+1=_;omega
  ·rw[e,aP,hd]
   show List.take (s.many+1) (s.rest.set s.many x)=_
   rw[rY,List.drop_append_of_le_length eW]
theorem Inv.zero:Inv H0 []:=⟨Rj,rfl,rfl,rfl⟩
end Go.Dig
section
open Go Go.Proofs Go.Sx Go.StP
namespace Go.Proofs
set_option maxRecDepth 10000
set_option maxHeartbeats 400000
set_option linter.unusedSimpArgs false
theorem GlobE.new {w0 w:World} {L:aA} (hg:GlobE w0) (h:Hp w0 L w) (hn:New w0.heap.size L):GlobE w:=by
 obtain⟨e0,e1,f0,f1,h0,h1⟩:=id hg
 have:4<w0.heap.size:=(Array.getElem?_eq_some_iff.1 h1).1
 exact hg.of h fun b hb=>by have:=hn.le b hb;omega
theorem Ei (m:List UInt8): (Dig.shaR m).length=32:=Dig.outPre_length _ _
set_option linter.defProp false
def eL:=And.intro (And.intro (And.intro (@uh) (@vh)) (And.intro (@vq) (@vk))) (And.intro (And.intro (@Sx.tup2_0) (@Sx.tup2_1)) (And.intro (@ay) (@ax)))
def idV (k:Int) (t:List UInt8):IdL:=if RdOk k t then⟨Dig.shaR (RX k t),Ei _⟩ else id0
def qw (k:Int) (t:List UInt8):List UInt8:=(if k=3 then [99] else if k=2 then [116] else [98])++n5 t
theorem Ht (k:Int) (t:List UInt8) (w:World) (ht:t.length<100000):Rets Tryz.prog 111 #[obV k t] w (fun v D=>v=vs (qw k t)∧D= []):=by
 have tl:=Bo (s:=t) (by omega)
 refine Rets.enterV Tryz.func111 rfl (rs:= [.tmp 2]) Tryz.results111 Tryz.ntmps111 ?_
 refine kf ?_
 first|with_reducible refine ks [] @eL ?_|refine kp @eL ?_
 refine Ow.box rfl rfl fun b1 bE aJ=> ?_
 simp only[eU,eT,ed,bL,List.nil_append]
 unfold qw
 by_cases h3:k=3
 ·have e2: (k==2)=false:=beq_eq_false_iff_ne.2 (by omega)
  have e3: (k==3)=true:=by simp[h3]
  rw[if_pos h3]
  refine ko (And.intro @eL (And.intro @e2 (@e3))) ?_
  first|with_reducible refine ks [] (And.intro @eL (And.intro @e2 (@e3))) ?_|refine kp (And.intro @eL (And.intro @e2 (@e3))) ?_
  refine Ow.callFV rfl Tryz.call154 (fun w' aB=>Bd t w' (by omega)) ?_
  refine ko @eL ?_
  first|with_reducible refine ks [] @eL ?_|refine kp @eL ?_
  refine⟨_,(ke @eL),⟨aJ,trivial⟩, ?_⟩
  rfl
 ·have e3: (k==3)=false:=by simpa using h3
  rw[if_neg h3]
  by_cases h2:k=2
  ·have e2: (k==2)=true:=by simp[h2]
   rw[if_pos h2]
   refine ko (And.intro @eL (And.intro @e2 (@e3))) ?_
   first|with_reducible refine ks [] (And.intro @eL (And.intro @e2 (@e3))) ?_|refine kp (And.intro @eL (And.intro @e2 (@e3))) ?_
   refine Ow.callFV rfl Tryz.call154 (fun w' aB=>Bd t w' (by omega)) ?_
   refine ko @eL ?_
   first|with_reducible refine ks [] @eL ?_|refine kp @eL ?_
   refine⟨_,(ke @eL),⟨aJ,trivial⟩, ?_⟩
   rfl
  ·have e2: (k==2)=false:=by simpa using h2
   rw[if_neg h2]
   refine ko (And.intro @eL (And.intro @e2 (@e3))) ?_
   first|with_reducible refine ks [] (And.intro @eL (And.intro @e2 (@e3))) ?_|refine kp (And.intro @eL (And.intro @e2 (@e3))) ?_
   refine Ow.callFV rfl Tryz.call154 (fun w' aB=>Bd t w' (by omega)) ?_
   refine ko @eL ?_
   first|with_reducible refine ks [] @eL ?_|refine kp @eL ?_
   refine⟨_,(ke @eL),⟨aJ,trivial⟩, ?_⟩
   rfl
theorem NB (k:Int) (t:List UInt8) (w:World) (ht:t.length<100000):Rets Tryz.prog 55 #[obV k t] w (fun v D=>v= .agg (a8 (Dig.shaR (qw k t)))∧D= []):=by
 have tl:=Bo (s:=t) (by omega)
 have fl: (qw k t).length<1099511627776:=by
  have nl:=ve (t.length:Int)
  unfold qw n5;rw[List.length_append,List.length_append]
  have: ((if k=3 then [99] else if k=2 then [116] else [98]:List UInt8)).length=1:=by split<;>(try split)<;>rfl
  omega
 have cT:=Ei (qw k t)
 refine Rets.enterV Tryz.func55 rfl (rs:= [.cell 2 84]) Tryz.results55 Tryz.ntmps55 ?_
 refine kf ?_
 first|with_reducible refine ks [] @eL ?_|refine kp @eL ?_
 refine Ow.box rfl rfl fun b1 bE aJ=> ?_
 simp only[eU,eT,ed,bL,List.nil_append]
 refine ko @eL ?_
 refine Ow.alloc rfl rfl lx fun b2 bG cU=> ?_
 simp only[bL,List.nil_append,List.cons_append]
 have A3:b1<b2:=cY bG (by simp[keys])
 have Wk:=id0.h
 refine ko @eL ?_
 refine Ow.callFV rfl Tryz.call111 (fun w' aB=>Ht k t w' ht) ?_
 refine ko @eL ?_
 refine Ow.callFV rfl Tryz.call110 (fun w' aB=>IK _ fl w') ?_
 refine ko @eL ?_
 first|with_reducible refine ks [] @eL ?_|refine kp @eL ?_
 refine⟨_,(ke @eL),⟨aJ,cU,trivial⟩, ?_⟩
 rfl
end Go.Proofs
end
section
open Go Go.Proofs Go.Sx Go.StP Go.Flo
namespace Go.Proofs
set_option maxRecDepth 10000
set_option maxHeartbeats 400000
set_option linter.unusedSimpArgs false
structure ObL where
 k:Int
 t:List UInt8
def ob0:ObL:=⟨0,[]⟩
def obC (o:ObL):List Value:= [vi o.k,vs o.t]
theorem qh (o:ObL): (obC o).length=2:=rfl
theorem wB (o:ObL): (obC o).all Value.oneCell'=true:=rfl
def jv (s:List UInt8):ObL:=⟨if frOk s then frK s else 0,if frOk s then(frT s).1 else []⟩
def idOf (s:List UInt8):IdL:=idV (jv s).k (jv s).t
def zW:List (List UInt8)→List IdL→List ObL→Option (List IdL×List ObL)
 | [],ids,os=>some (ids,os)
 |s::r,ids,os=>if frOk s=true∧(ids.any fun y=>(idOf s).l==y.l)=false then zW r (ids++ [idOf s]) (os++ [jv s]) else none
def fillV (l:List PartL):Option (List IdL×List ObL):=match allV l with
 | .ok ts=>zW ts [] []
 | .error _=>none
end Go.Proofs
end
section
open Go Go.Proofs Go.Sx
namespace Go.Proofs
set_option maxRecDepth 10000
set_option maxHeartbeats 4000000
set_option linter.unusedSimpArgs false
def hvL:List UInt32:= [0x00000000,0x1db71064,0x3b6e20c8,0x26d930ac,0x76dc4190,0x6b6b51f4,0x4db26158,0x5005713c,0xedb88320,0xf00f9344,0xd6d6a3e8,0xcb61b38c,0x9b64c2b0,0x86d3d2d4,0xa00ae278,0xbdbdf21c]
def nF (n:UInt32):UInt32:=gE n 4^^^hvL.getD (n&&&15).toNat 0
def tJ (n:UInt32):Nat→UInt32
 |0=>n
 |k+1=>nF (tJ n k)
def pX (n:UInt32) (b:UInt8):UInt32:=tJ (n^^^UInt32.ofNat b.toNat) 2
def GlobC (w:World):Prop:= ∃e f,w.heap[(2:Nat)]? =some (.cells (a32 hvL) e f)
theorem GlobC.of {w w':World} {L:aA} (h:GlobC w) (hw:Hp w L w') (hn: (2:Nat)∉keys L):GlobC w':=by
 obtain⟨e,f,h⟩:=h
 exact⟨e,f,by rw[hw.old _ (Array.getElem?_eq_some_iff.1 h).1 hn];exact h⟩
set_option linter.defProp false
def ly (n:UInt32) (s:List UInt8):UInt32:=s.foldl pX n
theorem K3 (n:UInt32) (s:List UInt8) (g:Nat) (h:g<s.length):ly n (s.take (g+1))=pX (ly n (s.take g)) (s.getD g 0):=by
 unfold ly
 rw[List.take_succ_eq_append_getElem h,List.foldl_append,List.getD_eq_getElem?_getD,List.getElem?_eq_getElem h]
 rfl
def crcV (s:List UInt8):UInt32:= ~~~ (ly (~~~ (0:UInt32)) s)
def RT (n:UInt32) (g:Nat):List UInt8:=(List.range 4).map fun j=>if j<g then UInt8.ofNat (gE n (8*j)).toNat else 0
def sum4 (n:UInt32):List UInt8:=RT n 4
def pW (s:List UInt8):List UInt8:=s++sum4 (crcV s)
def kM (s:List UInt8):List UInt8×Bool:=
 if s.length<4 then([],false) else if pW (s.take (s.length - 4))=s then(s.take (s.length - 4),true) else([],false)
end Go.Proofs
end
section
open Go Go.Proofs Go.Sx Go.StP Go.Flo
namespace Go.Proofs
set_option maxRecDepth 10000
set_option maxHeartbeats 400000
set_option linter.unusedSimpArgs false
def magB:List UInt8:= [83,80,75,49]
def qz (s:List UInt8) (i a:Nat) (e:Int):PartL×Nat×Int:=
 (⟨decide (0< (aE s a e 200).1),if 0< (aE s a e 200).1 then(i:Int) - (aE s a e 200).1 else 0,(bN s (aE s a e 200).2.1 (aE s a e 200).2.2 65536).1⟩,(bN s (aE s a e 200).2.1 (aE s a e 200).2.2 65536).2)
def kJ (s:List UInt8):Nat→Nat→Nat→Int→List PartL×List Nat×Nat×Int
 |0,_,a,e=>([],[],a,e)
 |k+1,i,a,e=>if(qz s i a e).2.2=0 then((qz s i a e).1:: (kJ s k (i+1) (qz s i a e).2.1 0).1,a:: (kJ s k (i+1) (qz s i a e).2.1 0).2.1,(kJ s k (i+1) (qz s i a e).2.1 0).2.2) else([],[],(qz s i a e).2)
def gf (s:List UInt8):Int×Bool×Nat×Int:=
 if(bK s 0 0 4).1=magB then((aE s (bK s 0 0 4).2.1 (bK s 0 0 4).2.2 200).1,(aE s (bK s 0 0 4).2.1 (bK s 0 0 4).2.2 200).2.2==0,(aE s (bK s 0 0 4).2.1 (bK s 0 0 4).2.2 200).2) else(0,false,(bK s 0 0 4).2)
def iP (s:List UInt8):List PartL×List Nat×Nat×Int:=kJ s (gf s).1.toNat 0 (gf s).2.2.1 (gf s).2.2.2
instance:DecidableEq ObL:=fun a b=>if h:a.k=b.k∧a.t=b.t then .isTrue (by cases a;cases b;simp only at h;obtain⟨rfl,rfl⟩:=h;rfl) else .isFalse (fun e=>h (by rw[e];exact⟨rfl,rfl⟩))
def mP (l:List PartL):Nat→List ObL
 |0=> []
 |k+1=>match partV l (k:Nat) with
  | .ok s=>if frOk s=true∧jv s∉mP l k then mP l k++ [jv s] else mP l k
  | .error _=>mP l k
def pC (b:List UInt8):List ObL:=if(gf b).2.1=true then mP (iP b).1 (iP b).1.length else []
end Go.Proofs
end
section
open Go Go.Proofs Go.Sx Go.StP Go.Flo
namespace Go.Proofs
set_option maxRecDepth 10000
set_option maxHeartbeats 400000
set_option linter.unusedSimpArgs false
theorem Vj {s:List UInt8}: ∀ (k i a:Nat) (e:Int),(kJ s k i a e).1.length≤k∧(kJ s k i a e).2.1.length=(kJ s k i a e).1.length
 |0,i,a,e=>⟨Nat.le_refl _,rfl⟩
 |k+1,i,a,e=>by
  have:=Vj (s:=s) k (i+1) (qz s i a e).2.1 0
  unfold kJ
  split
  ·simp only[List.length_cons];omega
  ·simp
end Go.Proofs
end
section
open Go Go.Proofs Go.Sx Go.StP Go.Flo
namespace Go.Proofs
set_option maxRecDepth 10000
set_option maxHeartbeats 400000
set_option linter.unusedSimpArgs false
end Go.Proofs
end
section
open Go Go.Proofs Go.Sx Go.StP Go.Flo
namespace Go.Proofs
set_option maxRecDepth 10000
set_option maxHeartbeats 400000
set_option linter.unusedSimpArgs false
theorem K4 {b d:List UInt8} (_h: (k6 b d).2=0): (k6 b d).1.length≤4099:=by
 unfold k6
 split
 ·simp
 ·rename_i p hp
  split
  ·simp
  ·rename_i hb
   obtain⟨m,hm⟩:=VC hp
   rw[show p.1=b.length by omega] at hm
   have hk:jD (b.length:Nat) p.2=(((dm (b.length:Nat) p.2:Nat):Int),(0:Int)):=by
    unfold jD at hm ⊢
    split at hm
    ·cases hm
    ·rename_i h1
     rw[if_neg h1]
     split at hm
     ·cases hm
     ·rename_i h2
      rw[if_neg h2]
      split at hm
      ·cases hm
      ·rename_i h3;rw[if_neg h3]
   obtain⟨-,-,h1,h2,-⟩:=sW hk
   show(txtP b p.2).length≤4099
   rw[Eq h1]
   exact h2
theorem Jn {l:List PartL} {a:Int} {s:List UInt8} (h:partV l a= .ok s):s.length≤4099:=by
 unfold partV at h
 cases hp:j6 l a with
 |error e=>rw[hp] at h;cases h
 |ok p=>
  rw[hp] at h
  change j4 l p= .ok s at h
  cases p with
  |nil=>cases h;simp
  |cons x p=>
   unfold j4 at h
   cases hf:j4 l p with
   |error e=>rw[hf] at h;cases h
   |ok t=>
    rw[hf] at h
    change(if(gR (l.getD x fJ) t).2=0 then _ else _)=_ at h
    split at h
    ·rename_i h0
     cases h
     unfold gR at h0 ⊢
     split
     ·rename_i hd;rw[if_pos hd] at h0;exact K4 h0
     ·rename_i hd
      split
      ·simp
      ·show(l.getD x fJ).x.length≤4099;omega
    ·cases h
theorem oG {D:aA} {E:TypeId} {m n:Nat} {v:Value} {cs:List Value} (h:GrI D E m v n cs) (x:Bool×Nat):fe (.sl x) v=some (vi n):=by
 obtain⟨X,-,h⟩:=h;exact h.len x
set_option linter.defProp false
end Go.Proofs
end
section
open Go Go.Proofs Go.Sx Go.StP Go.Flo
namespace Go.Proofs
set_option maxRecDepth 10000
set_option maxHeartbeats 400000
set_option linter.unusedSimpArgs false
theorem I8 (p:PartL) (E:TypeId) (a:Bool) (x:Bool):ac (some (a,1)) (some (.cells (cW p).toArray E (0,0))) 0 (.bool x)=some (.cells (cW ⟨x,p.b,p.x⟩).toArray E (0,0)):=(rfl)
theorem H4 (p:PartL) (E:TypeId) (a:Bool) (x:Int):ac (some (a,1)) (some (.cells (cW p).toArray E (0,0))) 1 (vi x)=some (.cells (cW ⟨p.d,x,p.x⟩).toArray E (0,0)):=(rfl)
theorem Iu (p:PartL) (E:TypeId):aF (some (true,3)) (some (.cells (cW p).toArray E (0,0))) 0=some (.agg (cW p).toArray):=CU (n:=3) [] (cW p) [] E (0,0) rfl rfl
theorem HH (t:List UInt8):fU (cX Tryz.prog 279) (al Tryz.prog 279) [(2,vs t)]=some (.agg (cW ⟨false,0,t⟩).toArray):=by
 rw[show cX Tryz.prog 279=some [(0,1),(1,1),(2,1)] from id (by kernel_rfl),nE];rfl
set_option linter.defProp false
end Go.Proofs
end
section
open Go Go.Proofs Go.Sx Go.StP Go.Flo
namespace Go.Proofs
set_option maxRecDepth 10000
set_option maxHeartbeats 400000
set_option linter.unusedSimpArgs false
abbrev ObSl (w:World) (v:Value) (l:List ObL):Prop:=SlV 2 obC ob0 w v l
set_option linter.defProp false
end Go.Proofs
end
section
open Go Go.Proofs Go.Sx Go.StP Go.Flo
namespace Go.Proofs
set_option maxRecDepth 10000
set_option maxHeartbeats 400000
set_option linter.unusedSimpArgs false
theorem qd {w0:World} {L X D:aA} (hC:Came w0 L X D) (hX:New w0.heap.size X):New w0.heap.size D:=New.of_le fun c hc=>by
 rcases hC.new c hc with h| ⟨-,h⟩
 ·exact hX.le c h
 ·exact h
def zS (l:List PartL):Prop:= ∀g,g<l.length→(l.getD g fJ).x.length≤17000000
set_option linter.defProp false
end Go.Proofs
end
section
open Go Go.Proofs Go.Sx Go.StP Go.Flo
namespace Go.Proofs
set_option maxRecDepth 10000
set_option maxHeartbeats 400000
set_option linter.unusedSimpArgs false
set_option linter.defProp false
set_option linter.defProp false
end Go.Proofs
end
section
open Go Go.Proofs Go.Sx Go.StP Go.Flo
namespace Go.Proofs
set_option maxRecDepth 10000
set_option maxHeartbeats 400000
set_option linter.unusedSimpArgs false
theorem eqDi (a b:Int):eqD Tryz.prog 7 3 (vi a) (vi b)=some (a==b):=by unfold eqD;rw[Tryz.underlying3];rfl
theorem eqDs (a b:List UInt8):eqD Tryz.prog 7 9 (vs a) (vs b)=some (a==b):=by unfold eqD;rw[Tryz.underlying9];simp only[vs,uk]
theorem agI:aK Tryz.prog 3=some (false,1):=id (by kernel_rfl)
theorem agS:aK Tryz.prog 9=some (false,1):=id (by kernel_rfl)
theorem Rf (a b:ObL):eqD Tryz.prog 8 82 (obV a.k a.t) (obV b.k b.t)=some (decide (a=b)):=by
 have p0: ∀o:ObL,Sx.partV (false,1) #[vi o.k,vs o.t] 0=some (vi o.k):=fun _=>rfl
 have p1: ∀o:ObL,Sx.partV (false,1) #[vi o.k,vs o.t] 1=some (vs o.t):=fun _=>rfl
 unfold eqD obV
 rw[Tryz.underlying82]
 simp only
 rw[show Tryz.prog.stoodInHeld 82=false by kernel_rfl]
 simp only[Bool.false_eq_true, ↓reduceIte,vZ,qf,agI,agS,p0,p1,eqDi,eqDs]
 obtain⟨k,t⟩:=a
 obtain⟨k',t'⟩:=b
 have e:decide ((⟨k,t⟩:ObL)=⟨k',t'⟩)=((k==k')&& (t==t')):=by rw[Bool.eq_iff_iff];simp
 rw[e]
 cases(k==k')<;>cases(t==t')<;>rfl
theorem R7 (a b:ObL):bA Tryz.prog .eql 82 (obV a.k a.t) (obV b.k b.t)=some (.bool (decide (a=b))):=by
 have h:=Rf a b
 unfold bA eqX obV at*;rw[show Tryz.prog.eqGuardType Tryz.prog.depth 82=false by kernel_rfl];simp[gb,h]
instance:DecidableEq PartL:=fun a b=>if h:a.d=b.d∧a.b=b.b∧a.x=b.x then .isTrue (by cases a;cases b;simp only at h;obtain⟨rfl,rfl,rfl⟩:=h;rfl) else .isFalse (fun e=>h (by rw[e];exact⟨rfl,rfl,rfl⟩))
set_option linter.defProp false
end Go.Proofs
end
section
open Go Go.Proofs Go.Sx Go.StP Go.Flo
namespace Go.Proofs
set_option maxRecDepth 10000
set_option maxHeartbeats 400000
set_option linter.unusedSimpArgs false
theorem PG (s:List UInt8): ∃n:Nat,(gf s).1=n∧n≤200:=by
 unfold gf
 split
 ·have:=qe (s:=s) (a:=(bK s 0 0 4).2.1) (e:=(bK s 0 0 4).2.2) (most:=200) (by omega)
  exact⟨(aE s (bK s 0 0 4).2.1 (bK s 0 0 4).2.2 200).1.toNat,by simp only;omega,by omega⟩
 ·exact⟨0,rfl,by omega⟩
theorem Io (s:List UInt8) (a:Nat) (e most:Int) (hm:0≤most): ((bN s a e most).1.length:Int)≤most:=by
 have h1:=qe (s:=s) (a:=a) (e:=e) (most:=most) hm
 have h2: ∀ (b:Nat) (e n:Int),0≤n→((bK s b e n).1.length:Int)≤n:=by
  intro b e n hn
  unfold bK
  split
  ·simpa using hn
  ·split
   ·simpa using hn
   ·split
    ·simpa using hn
    ·simp only[List.length_take,List.length_drop];omega
 unfold bN
 simp only
 split
 ·simpa using hm
 ·have:=h2 (aE s a e most).2.1 (aE s a e most).2.2 (aE s a e most).1 h1.1
  omega
theorem Vc {s:List UInt8}: ∀ (k i a:Nat) (e:Int) (p:PartL),p∈ (kJ s k i a e).1→p.x.length≤65536
 |0,i,a,e,p,h=>by cases h
 |k+1,i,a,e,p,h=>by
  unfold kJ at h
  split at h
  ·rcases List.mem_cons.1 h with rfl|h
   ·have:=Io s (aE s a e 200).2.1 (aE s a e 200).2.2 65536 (by omega)
    show(bN s (aE s a e 200).2.1 (aE s a e 200).2.2 65536).1.length≤65536
    omega
   ·exact Vc k _ _ _ p h
  ·cases h
theorem Hm (s:List UInt8):zS (iP s).1:=fun g hg=>Nat.le_trans (Vc _ _ _ _ _ (mq hg)) (by omega)
theorem xI (s:List UInt8): (iP s).1.length≤200∧(iP s).2.1.length=(iP s).1.length:=by
 obtain⟨n,hn,eW⟩:=PG s
 have:=Vj (s:=s) (gf s).1.toNat 0 (gf s).2.2.1 (gf s).2.2.2
 unfold iP
 rw[hn,Int.toNat_natCast] at this ⊢
 omega
theorem yM {D:aA} {E:TypeId} {m n:Nat} {v:Value} {cs:List Value} (h:GrI D E m v n cs):Value.oneCell' v=true∧v.cells= #[v]:=by
 obtain⟨X,hX,h⟩:=h;exact h.cell
set_option linter.defProp false
end Go.Proofs
end
section
open Go Go.Proofs Go.Sx Go.StP Go.Flo
namespace Go.Proofs
set_option maxRecDepth 10000
set_option maxHeartbeats 400000
set_option linter.unusedSimpArgs false
set_option linter.defProp false
end Go.Proofs
end
section
open Go Go.Proofs Go.Sx Go.Dig
namespace Go.Proofs
set_option maxRecDepth 10000
set_option maxHeartbeats 1000000
set_option linter.unusedSimpArgs false
set_option linter.defProp false
end Go.Proofs
end
section
open Go Go.Proofs Go.Sx Go.StP Go.Flo Go.Dig
namespace Go.Proofs
set_option maxRecDepth 10000
set_option maxHeartbeats 400000
set_option linter.unusedSimpArgs false
section
variable {P:Program} {w0:World} {f:Fr} {L:aA} {N:Fr→aA→Prop} {ops:Array Oper} {rest:List Oper} {md:Md} {d:Option Tmp} {ty:TypeId} {ps:String} {af:Array Edge} {g:Option (Nat×Bool)}
end
set_option linter.defProp false
set_option linter.defProp false
end Go.Proofs
end
section
open Go Go.Proofs Go.Sx Go.StP Go.Flo
namespace Go.Proofs
set_option maxRecDepth 100000
set_option maxHeartbeats 1000000
set_option linter.unusedSimpArgs false
abbrev nP (w:World) (v:Value) (l:List (List UInt8)):Prop:=SlV 1 strC [] w v l
theorem us {w:World} {v:Value} {l:List (List UInt8)} {b off:Nat} {arr:Array Value} {E:TypeId} {fz:Nat×Nat} (h:RowS 1 strC [] w v l b off arr E fz) {k:Nat} (hk:k<l.length) (n:Nat):
  aF (some (false,n)) (some (.cells arr E fz)) (off+k)=some (vs (l.getD k [])):=by
 have:=h.cell (j:=0) (n:=n) hk (by omega)
 rwa [Nat.mul_one,Nat.add_zero] at this
set_option linter.defProp false
end Go.Proofs
end
section
open Go Go.Proofs Go.Sx Go.StP
namespace Go.Proofs
set_option maxRecDepth 10000
set_option maxHeartbeats 400000
set_option linter.unusedSimpArgs false
def cI (s:List UInt8):Bool:= !(s== [])&&decide (s.length≤80)&& !(s.any eo)
set_option linter.defProp false
def cd:=And.intro (And.intro (And.intro (@ay) (And.intro (@vg) (@vw))) (And.intro (And.intro (@vn) (@ax)) (And.intro (@yP) (@UV)))) (And.intro (And.intro (And.intro (@Vi) (@Ua)) (And.intro (@yc) (@qu))) (And.intro (And.intro (@Sx.tup3_0) (@Sx.tup3_1)) (And.intro (@Sx.tup3_2) (@eqb))))
theorem GJ (c:Int) (w:World):Rets Tryz.prog 119 #[iE c] w (fun v D=>v= .bool (badR c)∧D= []):=by
 refine Rets.enterV Tryz.func119 rfl (rs:= [.tmp 2]) Tryz.results119 Tryz.ntmps119 ?_
 refine kf ?_
 unfold badR
 cases h1:decide (c<33)
 ·cases h2:decide (126<c)
  ·first|with_reducible refine ks [] (And.intro @cd (And.intro @h1 (@h2))) ?_|refine kp (And.intro @cd (And.intro @h1 (@h2))) ?_
   refine⟨_,(ke @cd),trivial, ?_⟩
   simp[ck]
  ·first|with_reducible refine ks [] (And.intro @cd (And.intro @h1 (@h2))) ?_|refine kp (And.intro @cd (And.intro @h1 (@h2))) ?_
   refine⟨_,(ke @cd),trivial, ?_⟩
   simp[ck]
 ·first|with_reducible refine ks [] (And.intro @cd @h1) ?_|refine kp (And.intro @cd @h1) ?_
  refine⟨_,(ke @cd),trivial, ?_⟩
  simp[ck]
theorem V0 (s:List UInt8) (w:World) (hs:s.length<1099511627776):
  Rets Tryz.prog 74 #[vs s] w (fun v D=>v= .bool (cI s)∧D= []):=by
 refine Rets.enterV Tryz.func74 rfl (rs:= [.tmp 2]) Tryz.results74 Tryz.ntmps74 ?_
 refine kf ?_
 cases h0: (s != [])
 ·have e0: (s== [])=true:=by simpa using h0
  first|with_reducible refine ks [] (And.intro @cd @h0) ?_|refine kp (And.intro @cd @h0) ?_
  refine⟨_,(ke @cd),trivial, ?_⟩
  simp[ck,cI,e0]
 ·have e0: (s== [])=false:=by simpa using h0
  cases h1:decide ((s.length:Int)≤80)
  ·have e1:decide (s.length≤80)=false:=decide_eq_false (by have:=of_decide_eq_false h1;omega)
   first|with_reducible refine ks [] (And.intro @cd (And.intro @h0 (@h1))) ?_|refine kp (And.intro @cd (And.intro @h0 (@h1))) ?_
   refine⟨_,(ke @cd),trivial, ?_⟩
   simp only[ck,cI,e0,e1,Bool.not_false,Bool.true_and,Bool.false_and,Bool.and_false]
  ·have e1:decide (s.length≤80)=true:=decide_eq_true (by have:=of_decide_eq_true h1;omega)
   first|with_reducible refine ks [] (And.intro @cd (And.intro @h0 (@h1))) ?_|refine kp (And.intro @cd (And.intro @h0 (@h1))) ?_
   refine Ow.callFV rfl Tryz.call118 (fun w' aB=>YE s 119 Tryz.call119 GJ w' hs) ?_
   refine ko @cd ?_
   first|with_reducible refine ks [] @cd ?_|refine kp @cd ?_
   refine⟨_,(ke @cd),trivial, ?_⟩
   simp only[ck,cI,e0,e1,Bool.not_false,Bool.true_and]
theorem Jl (s:List UInt8) (w:World) (hs:s.length<1099511627776):Rets Tryz.prog 126 #[vs s] w (fun v D=>v= .bool (!cI s)∧D= []):=by
 refine Rets.enterV Tryz.func126 rfl (rs:= [.tmp 2]) Tryz.results126 Tryz.ntmps126 ?_
 refine kf ?_
 first|with_reducible refine ks [] @cd ?_|refine kp @cd ?_
 refine Ow.callFV rfl Tryz.call74 (fun w' aB=>V0 s w' hs) ?_
 refine ko @cd ?_
 first|with_reducible refine ks [] @cd ?_|refine kp @cd ?_
 refine⟨_,(ke @cd),trivial, ?_⟩
 rfl
theorem Z4 (v:Value) (l:List (List UInt8)) (w:World) (hv:nP w v l) (hl:l.length<1000000) (hs: ∀s,s∈l→s.length<1099511627776):Rets Tryz.prog 165 #[v, .func (.func 126) #[] #[]] w (fun v D=>(∃i:Int,v=vi i∧decide (0≤i)= !(l.all cI))∧D= []):=by
 obtain⟨rb,off,arr,E,fz,hr⟩:=hv.row
 have ln:=hv.len
 refine Rets.enterV Tryz.func165 rfl (rs:= [.tmp 4]) Tryz.results165 Tryz.ntmps165 ?_
 refine kf ?_
 first|with_reducible refine ks [] (And.intro @cd @ln) ?_|refine kp (And.intro @cd @ln) ?_
 refine Cw.loopG (G:=Nat) [9,10,5,11,12,13,14,15,16,17,4,18,8] (fun k=> [(4,vi 0),(8,vi k)]) (fun k=> []) (fun k=>k≤l.length∧(l.take k).all cI=true) (fun k=>l.length - k) 0 rfl rfl ?_ ?_
 ·exact⟨Nat.zero_le _,rfl⟩
 intro k jk hk
 refine kv ?_
 obtain⟨hk,iG⟩:=hk
 by_cases aC:k<l.length
 ·have d1:decide ((k:Int)< (l.length:Int))=true:=decide_eq_true (by omega)
  have hb:=hr.has (by omega)
  have ix:=hr.idx false k aC
  have ld:=fun n=>us hr aC n
  have jo:=StP.take_snoc (z:=([]:List UInt8)) aC
  have hm:l.getD k []∈l:=by rw[List.getD_eq_getElem?_getD,List.getElem?_eq_getElem aC];exact List.getElem_mem aC
  have cT:=hs _ hm
  generalize l.getD k []=s at*
  first|with_reducible refine ks [] (And.intro @cd (And.intro @d1 (And.intro @hb (And.intro @ix (@ld))))) ?_|refine kp (And.intro @cd (And.intro @d1 (And.intro @hb (And.intro @ix (@ld))))) ?_
  refine Ow.callFn1 (v:= .bool (!cI s)) rfl rfl rfl Tryz.call126 (fun w' aB=>Jl s w' cT) ?_
  cases hn:cI s with
  |true=>
   refine ko @cd ?_
   refine Again.mk (G:=Nat) (k+1) (by show l.length - (k+1)<l.length - k;omega) ⟨aC, ?_⟩ rfl rfl
   rw[jo,List.all_append,iG,List.all_cons,hn];rfl
  |false=>
   refine ko @cd ?_
   first|with_reducible refine ks [] @cd ?_|refine kp @cd ?_
   refine⟨_,(ke @cd),trivial, ?_⟩
   refine⟨(k:Int),rfl, ?_⟩
   rw[decide_eq_true (show(0:Int)≤ (k:Int) by omega),show l.all cI=false from List.all_eq_false.2 ⟨s,hm,by rw[hn];simp⟩];rfl
 ·obtain rfl:k=l.length:=by omega
  have d1:decide ((l.length:Int)< (l.length:Int))=false:=decide_eq_false (by omega)
  rw[List.take_length] at iG
  first|with_reducible refine ks [] (And.intro @cd @d1) ?_|refine kp (And.intro @cd @d1) ?_
  refine⟨_,(ke @cd),trivial, ?_⟩
  exact⟨-1,rfl,by rw[iG];rfl⟩
theorem XU (v:Value) (l:List (List UInt8)) (w:World) (hv:nP w v l) (hl:l.length<1000000) (hs: ∀s,s∈l→s.length<1099511627776):Rets Tryz.prog 125 #[v, .func (.func 126) #[] #[]] w (fun v D=>v= .bool (!(l.all cI))∧D= []):=by
 refine Rets.enterV Tryz.func125 rfl (rs:= [.tmp 4]) Tryz.results125 Tryz.ntmps125 ?_
 refine kf ?_
 first|with_reducible refine ks [] @cd ?_|refine kp @cd ?_
 refine Ow.callC rfl rfl Tryz.call165 (fun w' aB=>Rets.toX (Z4 v l w' (hv.oldN aB trivial) hl hs)) (fun B1 v1 D1 bv dh bX cz=> ?_)
 obtain⟨rfl,i,rfl,hi⟩:=cz
 refine ko (And.intro @cd @hi) ?_
 first|with_reducible refine ks [] @cd ?_|refine kp @cd ?_
 refine⟨_,(ke @cd),trivial, ?_⟩
 rfl
end Go.Proofs
end
section
open Go Go.Proofs Go.Sx Go.StP
namespace Go.Proofs
set_option maxRecDepth 10000
set_option maxHeartbeats 400000
set_option linter.unusedSimpArgs false
structure FileL where
 data:List UInt8
 stl:Nat
def dC:FileL:=⟨[],0⟩
structure CallL where
 kind:Nat
 a:List UInt8
 b:List UInt8
 n:Nat
def jx:CallL:=⟨2,[],[],0⟩
abbrev NmL:=List (List UInt8×Nat)
structure DirL where
 seen:NmL
 stl:NmL
 pend:List CallL
structure DiskL where
 dir:Nat→DirL
 files:List FileL
 max:Int
 fuse:Int
 fused:Bool
 off:Bool
def aV (l:NmL) (s:List UInt8):Option Nat:=(l.find? fun p=>s==p.1).map Prod.snd
def ci (l:NmL) (s:List UInt8):NmL:=l.filter fun p=> !(s==p.1)
def insN:NmL→List UInt8×Nat→NmL
 | [],x=> [x]
 |p::r,x=>if ltB x.1 p.1=true then x::p::r else p::insN r x
def gY (l:NmL) (x:List UInt8×Nat):NmL:=insN (ci l x.1) x
def SrtN (l:NmL):Prop:=l.Pairwise fun p q=>ltB p.1 q.1=true
theorem SrtN.nodup {l:NmL} (h:SrtN l): (l.map Prod.fst).Nodup:=by
 refine List.pairwise_map.2 (List.Pairwise.imp ?_ h)
 intro a b jF e
 rw[e,Eg] at jF;cases jF
theorem s8 (x:List UInt8×Nat): ∀l:NmL,(insN l x).Perm (x::l)
 | []=>List.Perm.refl _
 |p::r=>by
  unfold insN
  split
  ·exact List.Perm.refl _
  ·exact((s8 x r).cons p).trans (List.Perm.swap x p r)
theorem y4 {x:List UInt8×Nat}: ∀ {l:NmL},SrtN l→(∀p,p∈l→p.1≠x.1)→SrtN (insN l x)
 | [],_,_=>List.pairwise_singleton _ _
 |p::r,h,hx=>by
  unfold SrtN at h
  rw[List.pairwise_cons] at h
  unfold insN
  split
  ·rename_i h1
   refine List.pairwise_cons.2 ⟨fun q hq=> ?_,List.pairwise_cons.2 h⟩
   rcases List.mem_cons.1 hq with rfl|hq
   ·exact h1
   ·exact EF h1 (h.1 q hq)
  ·rename_i h1
   refine List.pairwise_cons.2 ⟨fun q hq=> ?_,y4 h.2 fun q hq=>hx q (List.mem_cons_of_mem _ hq)⟩
   rcases List.mem_cons.1 ((s8 x r).mem_iff.1 hq) with rfl|hq
   ·have pp:ltB q.1 p.1=false:=by simpa using h1
    exact DI pp (fun e=>hx p List.mem_cons_self e.symm)
   ·exact h.1 q hq
theorem F7 {l:NmL} (s:List UInt8) (h:SrtN l):SrtN (ci l s):=List.Pairwise.filter _ h
theorem Na {l:NmL} {s:List UInt8} {p:List UInt8×Nat} (h:p∈ci l s):p.1≠s:=by
 have:=(List.mem_filter.1 h).2
 intro e
 rw[e] at this;simp at this
theorem CF {l:NmL} (x:List UInt8×Nat) (h:SrtN l):SrtN (gY l x):=y4 (F7 _ h) fun _ hp=>Na hp
theorem mu {l:NmL} {s:List UInt8} {n:Nat} (h:aV l s=some n): (s,n)∈l:=by
 unfold aV at h
 cases hf:l.find? fun p=>s==p.1 with
 |none=>rw[hf] at h;cases h
 |some p=>
  rw[hf] at h
  have h1:=List.find?_some hf
  have h2:=List.mem_of_find?_eq_some hf
  obtain⟨a,b⟩:=p
  cases h
  rw[show s=a from by simpa using h1];exact h2
theorem VW {l:NmL} {s:List UInt8} (h:aV l s=none): ∀p,p∈l→p.1≠s:=by
 intro p hp e
 unfold aV at h
 cases hf:l.find? fun p=>s==p.1 with
 |none=>
  have:=List.find?_eq_none.1 hf p hp
  rw[e] at this;simp at this
 |some q=>rw[hf] at h;cases h
theorem xJ {α β:Type} {m:List (α×β)} (hn: (m.map Prod.fst).Nodup) {k:α} {a b:β} (h1: (k,a)∈m) (h2: (k,b)∈m):a=b:=by
 induction m with
 |nil=>cases h1
 |cons p r ih=>
  rw[List.map_cons,List.nodup_cons] at hn
  rcases List.mem_cons.1 h1 with e1|h1
  ·rcases List.mem_cons.1 h2 with e2|h2
   ·rw[←e1] at e2;exact(congrArg Prod.snd e2).symm
   ·exact absurd (by rw[←e1];exact List.mem_map.2 ⟨_,h2,rfl⟩) hn.1
  ·rcases List.mem_cons.1 h2 with e2|h2
   ·exact absurd (by rw[←e2];exact List.mem_map.2 ⟨_,h1,rfl⟩) hn.1
   ·exact ih hn.2 h1 h2
theorem CV {l:NmL} (hn: (l.map Prod.fst).Nodup) {s:List UInt8} {n:Nat} (h: (s,n)∈l):aV l s=some n:=by
 cases hf:aV l s with
 |none=>exact absurd rfl (VW hf _ h)
 |some m=>rw[xJ hn (mu hf) h]
section
variable {α β:Type} [BEq α] [LawfulBEq α]
theorem Pq {m:List (α×β)} (hn: (m.map Prod.fst).Nodup) {k:α} {v z:β} (h: (k,v)∈m):getG k z m=v:=by
 unfold getG
 cases hf:m.find? fun p=>k==p.1 with
 |none=>
  have:=List.find?_eq_none.1 hf _ h
  exact absurd (beq_self_eq_true k) this
 |some q=>
  have h1:=List.find?_some hf
  have h2:=List.mem_of_find?_eq_some hf
  obtain⟨a,b⟩:=q
  have e:k=a:=eq_of_beq h1
  subst e
  exact xJ hn h2 h
theorem OY {m:List (α×β)} {k:α} {z:β} (h: ∀p,p∈m→p.1≠k):getG k z m=z:=by
 unfold getG
 cases hf:m.find? fun p=>k==p.1 with
 |none=>rfl
 |some q=>
  have h1:=List.find?_some hf
  exact absurd (eq_of_beq h1).symm (h q (List.mem_of_find?_eq_some hf))
theorem Va {m:List (α×β)} {k:α} (h: ∀p,p∈m→p.1≠k):m.filter (fun p=> !(k==p.1))=m:=
 List.filter_eq_self.2 fun p hp=>by
  have:=h p hp
  cases e:k==p.1 with
  |false=>rfl
  |true=>exact absurd (eq_of_beq e).symm this
theorem wY (k:α) (v:β): ∀ {m:List (α×β)},(m.map Prod.fst).Nodup→(updG k v m).Perm ((k,v)::m.filter fun p=> !(k==p.1))
 | [],_=>List.Perm.refl _
 |p::r,hn=>by
  rw[List.map_cons,List.nodup_cons] at hn
  unfold updG
  cases hk: (k==p.1) with
  |true=>
   rw[if_pos rfl,List.filter_cons,hk]
   have e:k=p.1:=eq_of_beq hk
   have hr:r.filter (fun p=> !(k==p.1))=r:=Va fun q hq e2=>hn.1 (List.mem_map.2 ⟨q,hq,by rw[e2,e]⟩)
   simp only[Bool.not_true,Bool.false_eq_true, ↓reduceIte,hr]
   rw[e]
  |false=>
   rw[if_neg (by simp),List.filter_cons,hk]
   simp only[Bool.not_false, ↓reduceIte]
   exact((wY k v hn.2).cons p).trans (List.Perm.swap _ _ _)
theorem yv (k:α): ∀ {m:List (α×β)},(m.map Prod.fst).Nodup→delG k m=m.filter fun p=> !(k==p.1)
 | [],_=>rfl
 |p::r,hn=>by
  rw[List.map_cons,List.nodup_cons] at hn
  unfold delG
  cases hk: (k==p.1) with
  |true=>
   rw[if_pos rfl,List.filter_cons,hk]
   have e:k=p.1:=eq_of_beq hk
   have hr:r.filter (fun p=> !(k==p.1))=r:=Va fun q hq e2=>hn.1 (List.mem_map.2 ⟨q,hq,by rw[e2,e]⟩)
   simp only[Bool.not_true,Bool.false_eq_true, ↓reduceIte,hr]
  |false=>
   rw[if_neg (by simp),List.filter_cons,hk,yv k hn.2]
   simp only[Bool.not_false, ↓reduceIte]
end
def ab:Option Nat→Value
 |none=> .pointer none
 |some b=>vp b 0
def ptrN (fb:List Nat) (p:List UInt8×Nat):List UInt8×Option Nat:=(p.1,some (fb.getD p.2 0))
def NmP (fb:List Nat) (l:NmL) (m:List (List UInt8×Option Nat)):Prop:=m.Perm (l.map (ptrN fb))
theorem NmP.keys {fb:List Nat} {l:NmL} {m:List (List UInt8×Option Nat)} (h:NmP fb l m) (hn: (l.map Prod.fst).Nodup): (m.map Prod.fst).Nodup:=by
 refine((h.map Prod.fst).nodup_iff).2 ?_
 rw[List.map_map]
 exact hn
theorem NmP.get {fb:List Nat} {l:NmL} {m:List (List UInt8×Option Nat)} (h:NmP fb l m) (hn: (l.map Prod.fst).Nodup) (s:List UInt8):getG s none m=(aV l s).map fun n=>fb.getD n 0:=by
 cases hf:aV l s with
 |none=>
  refine OY fun p hp e=> ?_
  obtain⟨q,hq,rfl⟩:=List.mem_map.1 (h.mem_iff.1 hp)
  exact VW hf q hq e
 |some n=>exact Pq (h.keys hn) (h.mem_iff.2 (List.mem_map.2 ⟨_,mu hf,rfl⟩))
theorem y8 (fb:List Nat) (l:NmL) (s:List UInt8): (l.map (ptrN fb)).filter (fun p=> !(s==p.1))=(ci l s).map (ptrN fb):=by
 unfold ci
 rw[List.filter_map];rfl
theorem NmP.wipe {fb:List Nat} {l:NmL} {m:List (List UInt8×Option Nat)} (h:NmP fb l m) (hn: (l.map Prod.fst).Nodup) (s:List UInt8):NmP fb (ci l s) (delG s m):=by
 unfold NmP
 rw[yv s (h.keys hn),←y8]
 exact h.filter _
theorem NmP.put {fb:List Nat} {l:NmL} {m:List (List UInt8×Option Nat)} (h:NmP fb l m) (hn: (l.map Prod.fst).Nodup) (s:List UInt8) (n:Nat):NmP fb (gY l (s,n)) (updG s (some (fb.getD n 0)) m):=by
 refine(wY s _ (h.keys hn)).trans ?_
 unfold gY
 refine List.Perm.trans ?_ ((s8 (s,n) (ci l s)).map (ptrN fb)).symm
 rw[List.map_cons,←y8]
 exact(h.filter _).cons _
theorem NmP.mono {fb fb':List Nat} {l:NmL} {m:List (List UInt8×Option Nat)} (h:NmP fb l m) (hb: ∀p,p∈l→fb'.getD p.2 0=fb.getD p.2 0):NmP fb' l m:=by
 unfold NmP at h ⊢
 rw[show l.map (ptrN fb')=l.map (ptrN fb) from List.map_congr_left fun p hp=>by unfold ptrN;rw[hb p hp]]
 exact h
def fB:List UInt8:= [108,111,111,115,101]
def jV:List UInt8:= [112,97,99,107]
def jC:List UInt8:= [114,101,102]
def aH (k:Nat):List UInt8:=match k with|0=>fB|1=>jV|_=>jC
def bT (s:List UInt8):Option Nat:=if s==fB then some 0 else if s==jV then some 1 else if s==jC then some 2 else none
theorem g5 {s:List UInt8} {k:Nat} (h:bT s=some k):k<3∧s=aH k:=by
 unfold bT at h
 split at h
 ·rename_i e;cases h;exact⟨by omega,eq_of_beq e⟩
 ·split at h
  ·rename_i e;cases h;exact⟨by omega,eq_of_beq e⟩
  ·split at h
   ·rename_i e;cases h;exact⟨by omega,eq_of_beq e⟩
   ·cases h
theorem og {k:Nat} (h:k<3):bT (aH k)=some k:=by
 have:k=0∨k=1∨k=2:=by omega
 rcases this with rfl|rfl|rfl<;>rfl
def cJ (l:NmL) (c:CallL):NmL:=match c.kind with
 |0=>gY l (c.a,c.n)
 |1=>gY (ci l c.a) (c.b,(aV l c.a).getD 0)
 |_=>ci l c.a
def dX (S:DiskL) (k:Nat) (d:DirL):DiskL:={S with dir:=fun j=>if j=k then d else S.dir j}
def dV (S:DiskL) (dir:List UInt8) (names:List (List UInt8)):Nat:=if bT dir=none∨names.all cI=false then 1 else if S.off=true then 9 else 0
def aG (S:DiskL):DiskL×Nat:=if S.fused=true∧S.fuse=0 then({S with off:=true},9) else if S.fused=true then({S with fuse:=S.fuse - 1},0) else(S,0)
def fW (S:DiskL) (l:NmL):Nat:=(l.map fun p=>(S.files.getD p.2 dC).data.length).sum
def gV (S:DiskL):Nat:=fW S (S.dir 0).seen+fW S (S.dir 1).seen+fW S (S.dir 2).seen
structure DkOk (S:DiskL):Prop where
 seen: ∀k,k<3→SrtN (S.dir k).seen
 stl: ∀k,k<3→SrtN (S.dir k).stl
 seenN: ∀k,k<3→ ∀p,p∈ (S.dir k).seen→p.2<S.files.length
 stlN: ∀k,k<3→ ∀p,p∈ (S.dir k).stl→p.2<S.files.length
 pendN: ∀k,k<3→ ∀c,c∈ (S.dir k).pend→c.kind=0→c.n<S.files.length
 file: ∀f,f∈S.files→f.data.length≤1048576∧f.stl≤f.data.length
 fuse: -9223372036854775808≤S.fuse∧S.fuse<9223372036854775808∧(S.fused=true→0≤S.fuse)
 max: -9223372036854775808≤S.max∧S.max<9223372036854775808
end Go.Proofs
end
section
open Go Go.Proofs Go.Sx Go.StP
namespace Go.Proofs
set_option maxRecDepth 10000
set_option maxHeartbeats 400000
set_option linter.unusedSimpArgs false
def cQ (f:FileL):Obj:= .cells #[vs f.data,vi (f.stl:Int)] 126 (0,0)
def cG (a b:Nat) (v:Value):Obj:= .cells #[vm a,vm b,v] 130 (0,0)
def bF (bm:Nat) (S:DiskL):Obj:= .cells #[vm bm,vi S.max,vi S.fuse, .bool S.fused, .bool S.off] 123 (0,0)
def dI (s:List UInt8):Obj:= .cells #[vs s] 9 (0,0)
def iC (b:Nat):Obj:= .cells #[vp b 0] 124 (0,0)
structure DkG where
 bd:Nat
 bm:Nat
 d:Nat→Nat
 s:Nat→Nat
 t:Nat→Nat
 p:Nat→Value
 fb:List Nat
def ma (G:DkG):List (List UInt8×Option Nat):= [(fB,some (G.d 0)),(jV,some (G.d 1)),(jC,some (G.d 2))]
def FnP (X:aA) (fb:List Nat) (v:Value) (c:CallL):Prop:=match c.kind with
 |0=> ∃b1 b2,v= .func (.func 159) #[] #[vp b1 0,vp b2 0]∧Sx.look X b1=some (iC (fb.getD c.n 0))∧Sx.look X b2=some (dI c.a)
 |1=> ∃b1 b2,v= .func (.func 121) #[] #[vp b1 0,vp b2 0]∧Sx.look X b1=some (dI c.a)∧Sx.look X b2=some (dI c.b)
 |_=> ∃b1,v= .func (.func 161) #[] #[vp b1 0]∧Sx.look X b1=some (dI c.a)
def NmM (X:aA) (fb:List Nat) (b:Nat) (l:NmL):Prop:= ∃o m,Sx.look X b=some o∧eD vs ab o m∧NmP fb l m
structure DkP (X:aA) (G:DkG) (S:DiskL):Prop where
 disk:Sx.look X G.bd=some (bF G.bm S)
 dirs: ∃o,Sx.look X G.bm=some o∧eD vs ab o (ma G)
 dir: ∀k,k<3→Sx.look X (G.d k)=some (cG (G.s k) (G.t k) (G.p k))
 seen: ∀k,k<3→NmM X G.fb (G.s k) (S.dir k).seen
 stl: ∀k,k<3→NmM X G.fb (G.t k) (S.dir k).stl
 pend: ∀k,k<3→ ∃vals:List Value,vals.length=(S.dir k).pend.length∧Gr X 137 1 (G.p k) vals.length vals∧ ∀i,i<vals.length→FnP X G.fb (vals.getD i undef) ((S.dir k).pend.getD i jx)
 file: ∀n,n<S.files.length→Sx.look X (G.fb.getD n 0)=some (cQ (S.files.getD n dC))
 len:G.fb.length=S.files.length
 nodf:G.fb.Nodup
 nodm: [G.s 0,G.s 1,G.s 2,G.t 0,G.t 1,G.t 2].Nodup
 nodd: [G.d 0,G.d 1,G.d 2].Nodup
 nodb: ∀k,k<3→G.bm≠G.s k∧G.bm≠G.t k
 nodp: ∀i j,i<3→j<3→i≠j→ ∀b,slB (G.p i)=some b→slB (G.p j)≠some b
 ok:DkOk S
def DkW (w:World) (G:DkG) (S:DiskL):Prop:= ∃X,(∀b o,Sx.look X b=some o→w.heap[b]? =some o)∧DkP X G S
theorem FnP.keep {X X':aA} {fb:List Nat} {v:Value} {c:CallL} (h:FnP X fb v c) (hk: ∀b o,Sx.look X b=some o→((∃s,o=dI s)∨ ∃a,o=iC a)→Sx.look X' b=some o):FnP X' fb v c:=by
 unfold FnP at h ⊢
 split at h
 ·obtain⟨b1,b2,h1,h2,h3⟩:=h;exact⟨b1,b2,h1,hk _ _ h2 (.inr ⟨_,rfl⟩),hk _ _ h3 (.inl ⟨_,rfl⟩)⟩
 ·obtain⟨b1,b2,h1,h2,h3⟩:=h;exact⟨b1,b2,h1,hk _ _ h2 (.inl ⟨_,rfl⟩),hk _ _ h3 (.inl ⟨_,rfl⟩)⟩
 ·obtain⟨b1,h1,h2⟩:=h;exact⟨b1,h1,hk _ _ h2 (.inl ⟨_,rfl⟩)⟩
theorem NmM.keep {X X':aA} {fb:List Nat} {b:Nat} {l:NmL} (h:NmM X fb b l) (hk: ∀o,Sx.look X b=some o→Sx.look X' b=some o):NmM X' fb b l:=by
 obtain⟨o,m,h1,h2,h3⟩:=h;exact⟨o,m,hk _ h1,h2,h3⟩
theorem gd {L:aA} {E:TypeId} {m n:Nat} {v:Value} {cs:List Value} (h:Gr L E m v n cs) {b:Nat} (hb:slB v=some b): ∃arr,Sx.look L b=some (.cells arr E (0,0)):=by
 rcases h with h| ⟨-,-,c,rfl,h⟩
 ·cases h with
  |nl=>cases hb
  |at_ hl=>cases hb;exact⟨_,hl⟩
 ·cases hb;exact⟨_,h⟩
def tyO:Obj→Option TypeId
 | .cells _ t _=>some t
 |_=>none
theorem iQ {α β:Type} {encK:α→Value} {encV:β→Value} {o:Obj} {m:List (α×β)} (h:eD encK encV o m):tyO o=none:=by
 obtain⟨es,c,rfl,-⟩:=h;rfl
theorem fv {X:aA} {c b:Nat} {oc x o:Obj} (hc:Sx.look X c=some oc) (hb:Sx.look X b=some o) (ht:tyO o≠tyO oc):Sx.look (setB X c x) b=some o:=by
 rw[bH (by rintro rfl;rw[hc] at hb;cases hb;exact ht rfl)];exact hb
theorem DkP.mono {X X':aA} {G:DkG} {S:DiskL} (h:DkP X G S) (hk: ∀b o,Sx.look X b=some o→Sx.look X' b=some o):DkP X' G S where
 disk:=hk _ _ h.disk
 dirs:=by obtain⟨o,h1,h2⟩:=h.dirs;exact⟨o,hk _ _ h1,h2⟩
 dir k cb:=hk _ _ (h.dir k cb)
 seen k cb:=(h.seen k cb).keep fun o=>hk _ o
 stl k cb:=(h.stl k cb).keep fun o=>hk _ o
 pend k cb:=by
  obtain⟨vals,h1,h2,h3⟩:=h.pend k cb
  exact⟨vals,h1,h2.keep fun b o _=>hk b o,fun i hi=>(h3 i hi).keep fun b o ho _=>hk b o ho⟩
 file n hn:=hk _ _ (h.file n hn)
 len:=h.len
 nodf:=h.nodf
 nodm:=h.nodm
 nodd:=h.nodd
 nodb:=h.nodb
 nodp:=h.nodp
 ok:=h.ok
theorem DkP.setDisk {X:aA} {G:DkG} {S:DiskL} (h:DkP X G S) (S':DiskL) (hd:S'.dir=S.dir) (hf:S'.files=S.files) (ok:DkOk S'):DkP (setB X G.bd (bF G.bm S')) G S' where
 disk:=ee h.disk
 dirs:=by obtain⟨o,h1,h2⟩:=h.dirs;exact⟨o,fv h.disk h1 (by rw[iQ h2];intro e;cases e),h2⟩
 dir k cb:=fv h.disk (h.dir k cb) (by simp[tyO,cG,bF])
 seen k cb:=by
  rw[hd]
  obtain⟨o,m,h1,h2,h3⟩:=h.seen k cb
  exact⟨o,m,fv h.disk h1 (by rw[iQ h2];intro e;cases e),h2,h3⟩
 stl k cb:=by
  rw[hd]
  obtain⟨o,m,h1,h2,h3⟩:=h.stl k cb
  exact⟨o,m,fv h.disk h1 (by rw[iQ h2];intro e;cases e),h2,h3⟩
 pend k cb:=by
  rw[hd]
  obtain⟨vals,h1,h2,h3⟩:=h.pend k cb
  refine⟨vals,h1,h2.keep fun b o hb ho=> ?_,fun i hi=>(h3 i hi).keep fun b o ho hx=>fv h.disk ho ?_⟩
  ·obtain⟨arr,ha⟩:=gd h2 hb
   rw[ho] at ha;cases ha
   exact fv h.disk ho (by simp[tyO,bF])
  ·rcases hx with⟨s,rfl⟩ | ⟨a,rfl⟩<;>simp[tyO,bF,dI,iC]
 file n hn:=by rw[hf] at hn ⊢;exact fv h.disk (h.file n hn) (by simp[tyO,bF,cQ])
 len:=by rw[hf];exact h.len
 nodf:=h.nodf
 nodm:=h.nodm
 nodd:=h.nodd
 nodb:=h.nodb
 nodp:=h.nodp
 ok:=ok
theorem DkP.setFile {X:aA} {G:DkG} {S:DiskL} (h:DkP X G S) {n:Nat} (hn:n<S.files.length) (f:FileL) (ok:DkOk {S with files:=S.files.set n f}):DkP (setB X (G.fb.getD n 0) (cQ f)) G {S with files:=S.files.set n f} where
 disk:=fv (h.file n hn) h.disk (by simp[tyO,bF,cQ])
 dirs:=by obtain⟨o,h1,h2⟩:=h.dirs;exact⟨o,fv (h.file n hn) h1 (by rw[iQ h2];intro e;cases e),h2⟩
 dir k cb:=fv (h.file n hn) (h.dir k cb) (by simp[tyO,cG,cQ])
 seen k cb:=by
  obtain⟨o,m,h1,h2,h3⟩:=h.seen k cb
  exact⟨o,m,fv (h.file n hn) h1 (by rw[iQ h2];intro e;cases e),h2,h3⟩
 stl k cb:=by
  obtain⟨o,m,h1,h2,h3⟩:=h.stl k cb
  exact⟨o,m,fv (h.file n hn) h1 (by rw[iQ h2];intro e;cases e),h2,h3⟩
 pend k cb:=by
  obtain⟨vals,h1,h2,h3⟩:=h.pend k cb
  refine⟨vals,h1,h2.keep fun b o hb ho=> ?_,fun i hi=>(h3 i hi).keep fun b o ho hx=>fv (h.file n hn) ho ?_⟩
  ·obtain⟨arr,ha⟩:=gd h2 hb
   rw[ho] at ha;cases ha
   exact fv (h.file n hn) ho (by simp[tyO,cQ])
  ·rcases hx with⟨s,rfl⟩ | ⟨a,rfl⟩<;>simp[tyO,cQ,dI,iC]
 file i hi:=by
  simp only[List.length_set] at hi
  by_cases e:i=n
  ·subst e
   rw[ee (h.file i hn),List.getD_eq_getElem?_getD,List.getElem?_set_self hn];rfl
  ·have hl:=h.len
   have ad:G.fb.getD i 0≠G.fb.getD n 0:=by
    intro e2
    rw[List.getD_eq_getElem?_getD,List.getD_eq_getElem?_getD,List.getElem?_eq_getElem (by omega),List.getElem?_eq_getElem (by omega)] at e2
    simp only[Option.getD_some] at e2
    rcases Nat.lt_or_gt_of_ne e with aC|aC
    ·exact(List.pairwise_iff_getElem.1 h.nodf) i n (by omega) (by omega) aC e2
    ·exact(List.pairwise_iff_getElem.1 h.nodf) n i (by omega) (by omega) aC e2.symm
   rw[bH (Ne.symm ad),h.file i hi,List.getD_eq_getElem?_getD,List.getD_eq_getElem?_getD,List.getElem?_set_ne (Ne.symm e)]
 len:=by rw[List.length_set];exact h.len
 nodf:=h.nodf
 nodm:=h.nodm
 nodd:=h.nodd
 nodb:=h.nodb
 nodp:=h.nodp
 ok:=ok
theorem DkP.world {X:aA} {G:DkG} {S:DiskL} {w0 w:World} (h:DkP X G S) (hw:Hp w0 X w):DkW w G S:=⟨X,fun _ _ hb=>hw.has _ _ (bh hb),h⟩
theorem DkP.worldX {X:aA} {G:DkG} {S:DiskL} {w:World} (h:DkP X G S) (hX: ∀p,p∈X→w.heap[p.1]? =some p.2):DkW w G S:=⟨X,fun _ _ hb=>hX _ (bh hb),h⟩
theorem DkW.old {w w':World} {L:aA} {G:DkG} {S:DiskL} (h:DkW w G S) (hw:Hp w L w') (hn:New w.heap.size L):DkW w' G S:=by
 obtain⟨X,h1,h2⟩:=h
 refine⟨X,fun b o hb=> ?_,h2⟩
 have aC:=(Array.getElem?_eq_some_iff.1 (h1 b o hb)).1
 rw[hw.old b aC (hn.not aC)];exact h1 b o hb
end Go.Proofs
end
section
open Go Go.Proofs Go.Sx Go.StP
namespace Go.Proofs
set_option maxRecDepth 10000
set_option maxHeartbeats 400000
set_option linter.unusedSimpArgs false
theorem lD (bm:Nat) (S:DiskL) (n:Nat):aF (some (false,n)) (some (bF bm S)) 0=some (vm bm):=(rfl)
theorem vd (bm:Nat) (S:DiskL) (n:Nat):aF (some (false,n)) (some (bF bm S)) 1=some (vi S.max):=(rfl)
theorem we (bm:Nat) (S:DiskL) (n:Nat):aF (some (false,n)) (some (bF bm S)) 2=some (vi S.fuse):=(rfl)
theorem wt (bm:Nat) (S:DiskL) (n:Nat):aF (some (false,n)) (some (bF bm S)) 3=some (.bool S.fused):=(rfl)
theorem xG (bm:Nat) (S:DiskL) (n:Nat):aF (some (false,n)) (some (bF bm S)) 4=some (.bool S.off):=(rfl)
theorem JP (bm:Nat) (S:DiskL) (x:Int) (a:Bool):ac (some (a,1)) (some (bF bm S)) 1 (vi x)=some (bF bm {S with max:=x}):=d9 [vm bm] [vi S.max] [vi x] [vi S.fuse, .bool S.fused, .bool S.off] a _ 123 rfl rfl rfl rfl rfl
theorem In (bm:Nat) (S:DiskL) (x:Int) (a:Bool):ac (some (a,1)) (some (bF bm S)) 2 (vi x)=some (bF bm {S with fuse:=x}):=d9 [vm bm,vi S.max] [vi S.fuse] [vi x] [.bool S.fused, .bool S.off] a _ 123 rfl rfl rfl rfl rfl
theorem VU (bm:Nat) (S:DiskL) (x:Bool) (a:Bool):ac (some (a,1)) (some (bF bm S)) 3 (.bool x)=some (bF bm {S with fused:=x}):=d9 [vm bm,vi S.max,vi S.fuse] [.bool S.fused] [.bool x] [.bool S.off] a _ 123 rfl rfl rfl rfl rfl
theorem V7 (bm:Nat) (S:DiskL) (x:Bool) (a:Bool):ac (some (a,1)) (some (bF bm S)) 4 (.bool x)=some (bF bm {S with off:=x}):=d9 [vm bm,vi S.max,vi S.fuse, .bool S.fused] [.bool S.off] [.bool x] [] a _ 123 rfl rfl rfl rfl rfl
theorem mT (a b:Nat) (v:Value) (n:Nat):aF (some (false,n)) (some (cG a b v)) 0=some (vm a):=(rfl)
theorem mR (a b:Nat) (v:Value) (n:Nat):aF (some (false,n)) (some (cG a b v)) 1=some (vm b):=(rfl)
theorem mS (a b:Nat) (v:Value) (n:Nat):aF (some (false,n)) (some (cG a b v)) 2=some v:=(rfl)
theorem uc (f:FileL) (n:Nat):aF (some (false,n)) (some (cQ f)) 0=some (vs f.data):=(rfl)
theorem ud (f:FileL) (n:Nat):aF (some (false,n)) (some (cQ f)) 1=some (vi (f.stl:Int)):=(rfl)
theorem Ec (f:FileL) (x:List UInt8) (a:Bool):ac (some (a,1)) (some (cQ f)) 0 (vs x)=some (cQ {f with data:=x}):=d9 [] [vs f.data] [vs x] [vi (f.stl:Int)] a _ 126 rfl rfl rfl rfl rfl
theorem ET (f:FileL) (x:Nat) (a:Bool):ac (some (a,1)) (some (cQ f)) 1 (vi (x:Int))=some (cQ {f with stl:=x}):=d9 [vs f.data] [vi (f.stl:Int)] [vi (x:Int)] [] a _ 126 rfl rfl rfl rfl rfl
theorem pj (b o:Nat):bA Tryz.prog .eql 27 (vp b o) (.pointer none)=some (.bool false):=by
 simp[bA,eqX,gb,gB,Tryz.underlying27,vp]
theorem zO (b o:Nat):bA Tryz.prog .neq 27 (vp b o) (.pointer none)=some (.bool true):=by
 simp[bA,eqX,gb,gB,Tryz.underlying27,vp]
theorem lw (b o:Nat):bA Tryz.prog .eql 120 (vp b o) (.pointer none)=some (.bool false):=by
 simp[bA,eqX,gb,gB,Tryz.underlying120,vp]
theorem uq:bA Tryz.prog .eql 120 (.pointer none) (.pointer none)=some (.bool true):=by
 simp[bA,eqX,gb,gB,Tryz.underlying120]
theorem nQ (b o:Nat):bA Tryz.prog .eql 124 (vp b o) (.pointer none)=some (.bool false):=by
 simp[bA,eqX,gb,gB,Tryz.underlying124,vp]
theorem nH:bA Tryz.prog .eql 124 (.pointer none) (.pointer none)=some (.bool true):=by
 simp[bA,eqX,gb,gB,Tryz.underlying124]
theorem zrPd:al Tryz.prog 120=some (ab none):=id (by kernel_rfl)
theorem zrPf:al Tryz.prog 124=some (ab none):=id (by kernel_rfl)
theorem gr:KeyOk Tryz.prog 9 vs:=KeyOk.str Tryz.underlying9
theorem wJ (G:DkG) (s:List UInt8):getG s none (ma G)=(bT s).map G.d:=by
 unfold getG ma bT
 rw[List.find?_cons,List.find?_cons,List.find?_cons,List.find?_nil]
 cases h1:s==fB
 ·cases h2:s==jV
  ·cases h3:s==jC<;>rfl
  ·rfl
 ·rfl
set_option linter.defProp false
def lK:=And.intro (And.intro (And.intro (@ay) (And.intro (@ax) (@lD))) (And.intro (@vd) (And.intro (@we) (@wt)))) (And.intro (And.intro (@xG) (And.intro (@JP) (@In))) (And.intro (And.intro (@VU) (@V7)) (And.intro (@pj) (@zO))))
theorem Bf (b bm:Nat) (S:DiskL) (w:World) (hf: -9223372036854775808≤S.fuse∧S.fuse<9223372036854775808∧(S.fused=true→0≤S.fuse)) (ho:w.heap[b]? =some (bF bm S)):
  Rets Tryz.prog 81 #[vp b 0] w (fun v D=> ∃o,D= [(b,o)]∧v=vi (aG S).2∧o=bF bm (aG S).1):=by
 refine Rets.enterM Tryz.func81 rfl (rs:= [.tmp 2]) Tryz.results81 Tryz.ntmps81 ho ?_
 refine kf ?_
 unfold aG
 cases ig:S.fused with
 |false=>
  rw[if_neg (by simp),if_neg (by simp)]
  first|with_reducible refine ks [] (And.intro @lK @ig) ?_|refine kp (And.intro @lK @ig) ?_
  refine⟨_,_,_,(ke @lK),rfl,trivial, ?_⟩
  exact⟨rfl,rfl⟩
 |true=>
  by_cases h0:S.fuse=0
  ·have e0: (S.fuse==0)=true:=beq_iff_eq.2 h0
   rw[if_pos ⟨rfl,h0⟩]
   first|with_reducible refine ks [] (And.intro @lK (And.intro @ig (@e0))) ?_|refine kp (And.intro @lK (And.intro @ig (@e0))) ?_
   refine⟨_,_,_,(ke @lK),rfl,trivial, ?_⟩
   exact⟨rfl,rfl⟩
  ·have e0: (S.fuse==0)=false:=beq_eq_false_iff_ne.2 h0
   have h1:=hf.2.2 ig
   rw[if_neg (fun h=>h0 h.2),if_pos rfl]
   first|with_reducible refine ks [] (And.intro @lK (And.intro @ig (@e0))) ?_|refine kp (And.intro @lK (And.intro @ig (@e0))) ?_
   refine⟨_,_,_,(ke @lK),rfl,trivial, ?_⟩
   exact⟨rfl,rfl⟩
theorem LV (w:World) (G:DkG) (S:DiskL) (hD:DkW w G S):Rets Tryz.prog 34 #[vp G.bd 0] w (fun v D=>v= .bool S.off∧D= []):=by
 obtain⟨X,hX,hP⟩:=hD
 have hd:=hX _ _ hP.disk
 refine Rets.enterV Tryz.func34 rfl (rs:= [.tmp 2]) Tryz.results34 Tryz.ntmps34 ?_
 refine kf ?_
 first|with_reducible refine ks [] (And.intro @lK @hd) ?_|refine kp (And.intro @lK @hd) ?_
 refine⟨_,(ke @lK),trivial, ?_⟩
 rfl
theorem JG (b bm:Nat) (S:DiskL) (n:Int) (w:World) (ho:w.heap[b]? =some (bF bm S)):
  Rets Tryz.prog 37 #[vp b 0,vi n] w (fun v D=> ∃o,D= [(b,o)]∧v=ck []∧o=bF bm {S with fuse:=n,fused:=decide (0≤n)}):=by
 refine Rets.enterM Tryz.func37 rfl (rs:= []) Tryz.results37 Tryz.ntmps37 ho ?_
 refine kf ?_
 first|with_reducible refine ks [] @lK ?_|refine kp @lK ?_
 refine⟨_,_,_,(ke @lK),rfl,trivial, ?_⟩
 exact⟨rfl,rfl⟩
def zr (G:DkG) (S:DiskL) (dir:List UInt8) (names:List (List UInt8)) (v:Value):Prop:=
 (dV S dir names≠0∧v= .tuple #[.pointer none,vi (dV S dir names:Nat)])∨(dV S dir names=0∧ ∃k,bT dir=some k∧v= .tuple #[vp (G.d k) 0,vi 0])
set_option linter.defProp false
def j0:=And.intro (And.intro (And.intro (@ay) (@ax)) (And.intro (@lD) (And.intro (@vd) (@we)))) (And.intro (And.intro (@wt) (And.intro (@xG) (@pj))) (And.intro (@zO) (And.intro (@lw) (@uq))))
theorem rk (w:World) (G:DkG) (S:DiskL) (dir:List UInt8) (v:Value) (names:List (List UInt8)) (hD:DkW w G S) (hv:nP w v names) (hl:names.length<1000000) (hs: ∀s,s∈names→s.length<1099511627776):
  Rets Tryz.prog 80 #[vp G.bd 0,vs dir,v] w (fun v D=>zr G S dir names v∧D= []):=by
 obtain⟨X,hX,hP⟩:=hD
 have hd:=hX _ _ hP.disk
 obtain⟨om,jI,hM⟩:=hP.dirs
 have hb:=hX _ _ jI
 refine Rets.enterV Tryz.func80 rfl (rs:= [.tmp 6, .tmp 7]) Tryz.results80 Tryz.ntmps80 ?_
 refine kf ?_
 first|with_reducible refine ks [] (And.intro @j0 @hd) ?_|refine kp (And.intro @j0 @hd) ?_
 refine Ow.mapGetG (encK:=vs) (encV:=ab) (k:=dir) (z:=none) rfl rfl Tryz.underlying121 gr zrPd rfl rfl hb hM ?_
 rw[wJ]
 unfold zr dV
 cases hw:bT dir with
 |none=>
  rw[if_pos (.inl rfl)]
  have g9:ab none= .pointer none:=rfl
  refine ko (And.intro @j0 @g9) ?_
  first|with_reducible refine ks [] @j0 ?_|refine kp @j0 ?_
  refine⟨_,(ke @j0),trivial, ?_⟩
  exact .inl ⟨by decide,rfl⟩
 |some k=>
  have hp: ∀q:Nat,ab (some q)=vp q 0:=fun _=>rfl
  refine ko (And.intro @j0 @hp) ?_
  refine Ow.callFV rfl Tryz.call125 (fun w' aB=>XU v names w' (hv.oldN aB trivial) hl hs) ?_
  cases iG:names.all cI with
  |false=>
   rw[if_pos (.inr rfl)]
   refine ko @j0 ?_
   first|with_reducible refine ks [] @j0 ?_|refine kp @j0 ?_
   refine⟨_,(ke @j0),trivial, ?_⟩
   exact .inl ⟨by decide,rfl⟩
  |true=>
   rw[if_neg (by simp)]
   cases mo:S.off with
   |true=>
    rw[if_pos rfl]
    refine ko @j0 ?_
    first|with_reducible refine ks [] (And.intro @j0 (And.intro @hd (@mo))) ?_|refine kp (And.intro @j0 (And.intro @hd (@mo))) ?_
    refine⟨_,(ke @j0),trivial, ?_⟩
    exact .inl ⟨by decide,rfl⟩
   |false=>
    rw[if_neg (by simp)]
    refine ko @j0 ?_
    first|with_reducible refine ks [] (And.intro @j0 (And.intro @hd (@mo))) ?_|refine kp (And.intro @j0 (And.intro @hd (@mo))) ?_
    refine⟨_,(ke @j0),trivial, ?_⟩
    exact .inr ⟨rfl,k,rfl,rfl⟩
end Go.Proofs
end
section
open Go Go.Proofs Go.Sx Go.StP
namespace Go.Proofs
set_option maxRecDepth 10000
set_option maxHeartbeats 400000
set_option linter.unusedSimpArgs false
theorem nI {w:World} {b:Nat} {s:List UInt8} {E:TypeId} (h:w.heap[b]? =some (.cells #[vs s] E (0,0))):nP w (vsl b 0 1 1) [s]:=
 SlV.sl (l:= [s]) h (fun k hk j hj=>by
  obtain rfl:k=0:=by simpa using hk
  obtain rfl:j=0:=by omega
  rfl) (Nat.le_refl _) (by simp)
theorem Qd {w:World} {b:Nat} {s u:List UInt8} {E:TypeId} (h:w.heap[b]? =some (.cells #[vs s,vs u] E (0,0))):nP w (vsl b 0 2 2) [s,u]:=
 SlV.sl (l:= [s,u]) h (fun k hk j hj=>by
  obtain rfl:j=0:=by omega
  have:k=0∨k=1:=by simp at hk;omega
  rcases this with rfl|rfl<;>rfl) (Nat.le_refl _) (by simp)
theorem Il {S:DiskL} {dir:List UInt8} {names:List (List UInt8)} (h:dV S dir names=0):bT dir≠none∧names.all cI=true∧S.off=false:=by
 unfold dV at h
 split at h
 ·cases h
 ·split at h
  ·cases h
  ·rename_i h1 h2
   refine⟨fun e=>h1 (.inl e), ?_,by simpa using h2⟩
   cases e:names.all cI with
   |true=>rfl
   |false=>exact absurd (.inr e) h1
def gG (S:DiskL) (dir name:List UInt8):List UInt8×Nat:=
 if dV S dir [name]≠0 then([],dV S dir [name]) else match(bT dir).bind fun k=>aV (S.dir k).seen name with
  |none=>([],6)
  |some n=>((S.files.getD n dC).data,0)
theorem jN {n:Nat} (h:n≠0): ((n:Int) !=0)=true:=bne_iff_ne.2 (by omega)
set_option linter.defProp false
def jU:=And.intro (And.intro (And.intro (And.intro (@ay) (@ax)) (And.intro (@lD) (@mT))) (And.intro (And.intro (@mR) (@mS)) (And.intro (@uc) (And.intro (@ud) (@lw))))) (And.intro (And.intro (And.intro (@uq) (@nQ)) (And.intro (@nH) (@Sx.tup2_0))) (And.intro (And.intro (@Sx.tup2_1) (@qu)) (And.intro (@Sx.tup3_0) (And.intro (@Sx.tup3_1) (@Sx.tup3_2)))))
theorem Ui (w:World) (G:DkG) (S:DiskL) (dir name:List UInt8) (hD:DkW w G S) (hn:name.length<1099511627776):
  Rets Tryz.prog 23 #[vp G.bd 0,vs dir,vs name] w (fun v D=>v= .tuple #[vs (gG S dir name).1,vi ((gG S dir name).2:Nat)]∧D= []):=by
 have A8:=hD
 obtain⟨X,hX,hP⟩:=hD
 refine Rets.enterV Tryz.func23 rfl (rs:= [.tmp 6, .tmp 7]) Tryz.results23 Tryz.ntmps23 ?_
 refine kf ?_
 first|with_reducible refine ks [] @jU ?_|refine kp @jU ?_
 refine Ow.buildSlice (e:=9) #[vs name] rfl rfl (by kernel_rfl) fun b1 bE aJ=> ?_
 refine ko @jU ?_
 have bX:New w.heap.size [(b1,Obj.cells #[vs name] 9 (0,0))]:=⟨aJ,trivial⟩
 refine Ow.callC rfl rfl Tryz.call80 (fun w' aB=>Rets.toX (rk w' G S dir (vsl b1 0 1 1) [name] (A8.old aB bX) (nI (aB.has _ _ List.mem_cons_self)) (by simp) (by simpa using hn))) (fun B2 v2 D2 ai fh bw bl=> ?_)
 obtain⟨rfl,bl⟩:=bl
 rw[List.append_nil]
 unfold gG
 rcases bl with⟨he,rfl⟩ | ⟨he,k,hk,rfl⟩
 ·rw[if_pos he]
  have e1:=jN he
  refine ko @jU ?_
  first|with_reducible refine ks [] (And.intro @jU @e1) ?_|refine kp (And.intro @jU @e1) ?_
  refine⟨_,(ke @jU),bX, ?_⟩
  rfl
 ·rw[if_neg (by rw[he];simp),hk]
  have aa:=(g5 hk).1
  have et:=hX _ _ (hP.dir k aa)
  obtain⟨os,ms,fq,fG,gP⟩:=hP.seen k aa
  have kG:=hX _ _ fq
  have jH:=(Array.getElem?_eq_some_iff.1 et).1
  have ik:=(Array.getElem?_eq_some_iff.1 kG).1
  have rR:aM w [(b1,Obj.cells #[vs name] 9 (0,0))] (G.d k)=some (cG (G.s k) (G.t k) (G.p k)):=by rw[j7 (bX.not jH)];exact et
  have nt:aM w [(b1,Obj.cells #[vs name] 9 (0,0))] (G.s k)=some os:=by rw[j7 (bX.not ik)];exact kG
  have e1: ((0:Int) !=0)=false:=rfl
  refine ko @jU ?_
  first|with_reducible refine ks [] (And.intro @jU (And.intro @e1 (And.intro @et (@rR)))) ?_|refine kp (And.intro @jU (And.intro @e1 (And.intro @et (@rR)))) ?_
  refine Ow.mapGetG (encK:=vs) (encV:=ab) (k:=name) (z:=none) rfl rfl Tryz.underlying127 gr zrPf rfl rfl nt fG ?_
  rw[gP.get (hP.ok.seen k aa).nodup]
  show Ow _ _ _ _ _ _ _ _
  cases hf:aV (S.dir k).seen name with
  |none=>
   have kw: (some k).bind (fun k=>aV (S.dir k).seen name)=none:=hf
   rw[kw]
   have g9:ab none= .pointer none:=rfl
   refine ko (And.intro @jU @g9) ?_
   first|with_reducible refine ks [] @jU ?_|refine kp @jU ?_
   refine⟨_,(ke @jU),bX, ?_⟩
   rfl
  |some n=>
   have kw: (some k).bind (fun k=>aV (S.dir k).seen name)=some n:=hf
   rw[kw]
   have cH:=hP.ok.seenN k aa _ (mu hf)
   have eN:=hX _ _ (hP.file n cH)
   have ml:=(Array.getElem?_eq_some_iff.1 eN).1
   have lW:aM w [(b1,Obj.cells #[vs name] 9 (0,0))] (G.fb.getD n 0)=some (cQ (S.files.getD n dC)):=by rw[j7 (bX.not ml)];exact eN
   have hp: ∀q:Nat,ab (some q)=vp q 0:=fun _=>rfl
   refine ko (And.intro @jU @hp) ?_
   first|with_reducible refine ks [] (And.intro @jU (And.intro @eN (@lW))) ?_|refine kp (And.intro @jU (And.intro @eN (@lW))) ?_
   refine⟨_,(ke @jU),bX, ?_⟩
   rfl
end Go.Proofs
end
section
open Go Go.Proofs Go.Sx Go.StP
namespace Go.Proofs
set_option maxRecDepth 10000
set_option maxHeartbeats 400000
set_option linter.unusedSimpArgs false
def uDir (S:DiskL) (p:List UInt8×Option Nat):Nat:=match bT p.1 with|some k=>fW S (S.dir k).seen|none=>0
def ll (S:DiskL) (l:NmL) (p:List UInt8×Option Nat):Nat:=match aV l p.1 with|some n=>(S.files.getD n dC).data.length|none=>0
theorem NP (S:DiskL) (G:DkG): ((ma G).map (uDir S)).sum=gV S:=by
 unfold ma gV
 simp only[List.map_cons,List.map_nil,List.sum_cons,List.sum_nil]
 show fW S (S.dir 0).seen+ (fW S (S.dir 1).seen+ (fW S (S.dir 2).seen+0))=_
 omega
theorem Lt (S:DiskL) {fb:List Nat} {l:NmL} {m:List (List UInt8×Option Nat)} (h:NmP fb l m) (hn: (l.map Prod.fst).Nodup): (m.map (ll S l)).sum=fW S l:=by
 rw[(h.map (ll S l)).sum_nat,List.map_map]
 unfold fW
 congr 1
 refine List.map_congr_left fun p hp=> ?_
 show ll S l (ptrN fb p)=_
 unfold ll ptrN
 rw[CV hn hp]
theorem xk {α:Type} (f:α→Nat) {a b m:List α} (h: (a++b).Perm m): (a.map f).sum≤ (m.map f).sum:=by
 rw[← (h.map f).sum_nat,List.map_append,List.sum_append]
 omega
theorem rr {α β:Type} {encK:α→Value} {encV:β→Value} {o:Obj} {bm:Nat} {om:Obj} {m dn lf:List (α×β)} (h:ItG encK encV o bm om m dn lf): (dn++lf).Perm m:=by
 obtain⟨es,clock,ds,-,-,-,-,-,-,hp⟩:=h;exact hp
theorem wg {G:DkG} {p:List UInt8×Option Nat} (h:p∈ma G): ∃k,k<3∧p=(aH k,some (G.d k)):=by
 unfold ma at h
 simp only[List.mem_cons,List.not_mem_nil,or_false] at h
 rcases h with rfl|rfl|rfl
 ·exact⟨0,by omega,rfl⟩
 ·exact⟨1,by omega,rfl⟩
 ·exact⟨2,by omega,rfl⟩
structure UsG where
 dn:List (List UInt8×Option Nat)
 lf:List (List UInt8×Option Nat)
 it:Obj
 DG:aA
set_option linter.defProp false
def fA:=And.intro (And.intro (And.intro (And.intro (@ay) (@ax)) (And.intro (@lD) (@mT))) (And.intro (And.intro (@mR) (@mS)) (And.intro (@uc) (And.intro (@ud) (@pj))))) (And.intro (And.intro (And.intro (@lw) (@uq)) (And.intro (@nQ) (And.intro (@nH) (@Sx.tup2_0)))) (And.intro (And.intro (@Sx.tup2_1) (@qu)) (And.intro (@Sx.tup3_0) (And.intro (@Sx.tup3_1) (@Sx.tup3_2)))))
theorem EY (w:World) (G:DkG) (S:DiskL) (hD:DkW w G S) (hb:gV S<4611686018427387904):Rets Tryz.prog 24 #[vp G.bd 0] w (fun v D=>v=vi (gV S:Nat)∧D= []):=by
 obtain⟨X,hX,hP⟩:=hD
 have hd:=hX _ _ hP.disk
 obtain⟨om,jI,hM⟩:=hP.dirs
 have te:=hX _ _ jI
 have eE:=(Array.getElem?_eq_some_iff.1 te).1
 have hU:=NP S G
 have old: ∀b o,w.heap[b]? =some o→ ∀Y,New w.heap.size Y→aM w Y b=some o:=fun b o hb Y hY=>by
  rw[j7 (hY.not (Array.getElem?_eq_some_iff.1 hb).1)];exact hb
 refine Rets.enterV Tryz.func24 rfl (rs:= [.tmp 2]) Tryz.results24 Tryz.ntmps24 ?_
 refine kf ?_
 first|with_reducible refine ks [] (And.intro @fA @hd) ?_|refine kp (And.intro @fA @hd) ?_
 refine Ow.rangeMapG (encK:=vs) (encV:=ab) rfl rfl Tryz.underlying121 rfl te hM fun bi oi AQ gp hI=> ?_
 rw[List.nil_append]
 refine ko @fA ?_
 first|with_reducible refine ks [] @fA ?_|refine kp @fA ?_
 refine Cw.loopG (G:=UsG) [15,16,17,18,5,19,20,21,22,23,24,25,26,27,7,28,29,30,31,32,33,34,3] (fun g=> [(3,vi ((g.dn.map (uDir S)).sum:Nat))]) (fun g=>(bi,g.it)::g.DG) (fun g=>ItG vs ab g.it G.bm om (ma G) g.dn g.lf∧New w.heap.size g.DG) (fun g=>g.lf.length) ⟨[],ma G,oi,[]⟩ rfl rfl ?_ ?_
 ·exact⟨hI,trivial⟩
 intro g j hg
 refine kv ?_
 clear hI
 obtain⟨dn,lf,it,DG⟩:=g
 simp only at hg ⊢
 obtain⟨hI,hN⟩:=hg
 have py: ∀x,New w.heap.size ((bi,x)::DG):=fun x=>⟨gp,hN⟩
 first|with_reducible refine ks [] @fA ?_|refine kp @fA ?_
 refine Ow.nextMapG rfl rfl rfl (sA _ _ _) (old _ _ te _ (py it)) hI (fun kD=> ?_) (fun p it' lf' l6 kj=> ?_)
 ·subst kD
  have hp:=rr hI
  rw[List.append_nil] at hp
  rw[(hp.map (uDir S)).sum_nat,hU]
  refine ko @fA ?_
  first|with_reducible refine ks [] @fA ?_|refine kp @fA ?_
  refine⟨_,(ke @fA),py it, ?_⟩
  rfl
 ·refine kn ?_
  refine ko @fA ?_
  first|with_reducible refine ks [] @fA ?_|refine kp @fA ?_
  refine Ow.entryMapG (encK:=vs) (encV:=ab) rfl rfl rfl (qc _ _ _ _) (old _ _ te _ (py it')) kj ?_
  have hp:=rr kj
  obtain⟨k,aa,rfl⟩:=wg (hp.mem_iff.1 (List.mem_append_left _ (List.mem_append_right _ List.mem_cons_self)))
  have eW:=xk (uDir S) hp
  rw[hU,List.map_append,List.sum_append] at eW
  have vP: ([(aH k,some (G.d k))].map (uDir S)).sum=fW S (S.dir k).seen:=by
   show uDir S (aH k,some (G.d k))+0=_
   unfold uDir
   simp only[og aa,Nat.add_zero]
  rw[vP] at eW
  have hac: ((dn++ [(aH k,some (G.d k))]).map (uDir S)).sum=(dn.map (uDir S)).sum+fW S (S.dir k).seen:=by rw[List.map_append,List.sum_append,vP]
  generalize (dn.map (uDir S)).sum=A at*
  have et:=hX _ _ (hP.dir k aa)
  obtain⟨os,ms,fq,fG,gP⟩:=hP.seen k aa
  have kG:=hX _ _ fq
  have hs:=Lt S gP (hP.ok.seen k aa).nodup
  have Sg:=old _ _ et _ (py it')
  have qE:=old _ _ et _ hN
  have qR: ∀q:Nat,ab (some q)=vp q 0:=fun _=>rfl
  refine ko (And.intro @fA (And.intro @qR (And.intro @Sg (@qE)))) ?_
  refine Ow.rangeMapG (encK:=vs) (encV:=ab) rfl rfl Tryz.underlying127 rfl (old _ _ kG _ (py it')) fG fun bj oj hbj Ds hJ=> ?_
  refine Ow.permL (M:=(bj,oj):: (bi,it')::DG) (by classical exact List.perm_iff_count.2 fun a=>by simp only[List.count_append,List.count_cons,List.count_nil]<;>omega) ?_
  refine ko @fA ?_
  first|with_reducible refine ks [] @fA ?_|refine kp @fA ?_
  refine Cw.loopG (G:=UsG) [24,25,26,27,7,28,29,30,31,32,33,34,3] (fun p=> [(3,vi ((A+ (p.dn.map (ll S (S.dir k).seen)).sum:Nat):Int))]) (fun p=>(bj,p.it):: (bi,it')::DG) (fun p=>ItG vs ab p.it (G.s k) os ms p.dn p.lf) (fun p=>p.lf.length) ⟨[],ms,oj,[]⟩ rfl rfl ?_ ?_
  ·exact hJ
  intro p jp hp
  refine kv ?_
  clear hJ
  obtain⟨dn2,lf2,jt,DX⟩:=p
  simp only at hp ⊢
  first|with_reducible refine ks [] @fA ?_|refine kp @fA ?_
  refine Ow.nextMapG rfl rfl rfl (sA _ _ _) (old _ _ kG _ ⟨Ds,py it'⟩) hp (fun kD=> ?_) (fun p jt' lf2' hl2' mf=> ?_)
  ·subst kD
   have hq:=rr hp
   rw[List.append_nil] at hq
   rw[(hq.map (ll S (S.dir k).seen)).sum_nat,hs]
   refine Ow.permL (M:=(bi,it'):: (bj,jt)::DG) (by classical exact List.perm_iff_count.2 fun a=>by simp only[List.count_append,List.count_cons,List.count_nil]<;>omega) ?_
   refine ko @fA ?_
   first|with_reducible refine ks [] @fA ?_|refine kp @fA ?_
   exact Again.mk ⟨dn++ [(aH k,some (G.d k))],lf',it',(bj,jt)::DG⟩ (by show lf'.length<lf.length;omega) ⟨kj,Ds,hN⟩ rfl (by simp only[hac];rfl)
  ·refine kn ?_
   refine ko @fA ?_
   first|with_reducible refine ks [] @fA ?_|refine kp @fA ?_
   have hq:=rr mf
   have ng:=xk (ll S (S.dir k).seen) hq
   rw[hs] at ng
   have rQ:p∈ (S.dir k).seen.map (ptrN G.fb):=gP.mem_iff.1 (hq.mem_iff.1 (List.mem_append_left _ (List.mem_append_right _ List.mem_cons_self)))
   obtain⟨⟨s,n⟩,iq,rfl⟩:=List.mem_map.1 rQ
   have X7: ([ptrN G.fb (s,n)].map (ll S (S.dir k).seen)).sum=(S.files.getD n dC).data.length:=by
    show ll S (S.dir k).seen (s,some (G.fb.getD n 0))+0=_
    unfold ll
    simp only[CV (hP.ok.seen k aa).nodup iq,Nat.add_zero]
   rw[List.map_append,List.sum_append,X7] at ng
   have tV: ((dn2++ [ptrN G.fb (s,n)]).map (ll S (S.dir k).seen)).sum=(dn2.map (ll S (S.dir k).seen)).sum+ (S.files.getD n dC).data.length:=by rw[List.map_append,List.sum_append,X7]
   have eN:=hX _ _ (hP.file n (hP.ok.seenN k aa _ iq))
   have tk:=old _ _ eN _ (show New w.heap.size ((bj,jt'):: (bi,it')::DG) from⟨Ds,py it'⟩)
   have Ag:=old _ _ eN _ (py it')
   have hf3:=old _ _ eN _ hN
   generalize (dn2.map (ll S (S.dir k).seen)).sum=B at*
   refine Ow.entryMapG (encK:=vs) (encV:=ab) rfl rfl rfl (qc _ _ _ _) (old _ _ kG _ ⟨Ds,py it'⟩) mf ?_
   unfold ptrN at mf tV ⊢
   simp only at mf tV ⊢
   generalize G.fb.getD n 0=fbn at*
   generalize S.files.getD n dC=fl at*
   refine ko (And.intro @fA (And.intro @qR (And.intro @tk (And.intro @Ag (@hf3))))) ?_
   first|with_reducible refine ks [] @fA ?_|refine kp @fA ?_
   exact Again.mk ⟨dn2++ [(s,some fbn)],lf2',jt',DX⟩ (by show lf2'.length<lf2.length;omega) mf rfl (by simp only[tV,←Nat.add_assoc,Int.natCast_add];rfl)
end Go.Proofs
end
section
open Go Go.Proofs Go.Sx Go.StP
namespace Go.Proofs
set_option maxRecDepth 10000
set_option maxHeartbeats 400000
set_option linter.unusedSimpArgs false
def atD (S:DiskL) (dir name:List UInt8):Option Nat:=(bT dir).bind fun k=>aV (S.dir k).seen name
def aR (S:DiskL) (n:Nat):FileL:=S.files.getD n dC
def nA (S:DiskL) (n:Nat) (f:FileL):DiskL:={S with files:=S.files.set n f}
def nC (S:DiskL) (dir name:List UInt8):DiskL×Nat:=
 if dV S dir [name]≠0 then(S,dV S dir [name]) else match atD S dir name with
  |none=>(S,6)
  |some n=>if(aG S).2≠0 then aG S else(nA (aG S).1 n ⟨(aR S n).data,(aR S n).data.length⟩,0)
theorem la (S:DiskL): (aG S).1.dir=S.dir∧(aG S).1.files=S.files∧(aG S).1.max=S.max:=by
 unfold aG
 split
 ·exact⟨rfl,rfl,rfl⟩
 ·split
  ·exact⟨rfl,rfl,rfl⟩
  ·exact⟨rfl,rfl,rfl⟩
theorem oF {S:DiskL} (h:DkOk S):DkOk (aG S).1:=by
 obtain⟨h1,h2,h3⟩:=la S
 refine⟨by rw[h1];exact h.seen,by rw[h1];exact h.stl,by rw[h1,h2];exact h.seenN,by rw[h1,h2];exact h.stlN,by rw[h1,h2];exact h.pendN,by rw[h2];exact h.file, ?_,by rw[h3];exact h.max⟩
 have hf:=h.fuse
 unfold aG
 split
 ·exact hf
 ·split
  ·rename_i h4 h5
   have:=hf.2.2 h5
   have h6:S.fuse≠0:=fun e=>h4 ⟨h5,e⟩
   exact⟨by show _≤S.fuse - 1;omega,by show S.fuse - 1<_;omega,fun _=>by show 0≤S.fuse - 1;omega⟩
  ·exact hf
theorem vv {S:DiskL} (h:DkOk S) {n:Nat} {f:FileL} (hf:f.data.length≤1048576∧f.stl≤f.data.length):DkOk (nA S n f):=by
 refine⟨h.seen,h.stl,fun k hk p hp=>by show p.2< (S.files.set n f).length;rw[List.length_set];exact h.seenN k hk p hp,fun k hk p hp=>by show p.2< (S.files.set n f).length;rw[List.length_set];exact h.stlN k hk p hp,fun k hk c hc h0=>by show c.n< (S.files.set n f).length;rw[List.length_set];exact h.pendN k hk c hc h0,fun g hg=> ?_,h.fuse,h.max⟩
 rcases List.mem_or_eq_of_mem_set hg with hg|rfl
 ·exact h.file g hg
 ·exact hf
theorem qj {S:DiskL} (h:DkOk S) {n:Nat} (hn:n<S.files.length): (aR S n).data.length≤1048576∧(aR S n).stl≤ (aR S n).data.length:=by
 unfold aR
 rw[List.getD_eq_getElem?_getD,List.getElem?_eq_getElem hn]
 exact h.file _ (List.getElem_mem hn)
set_option linter.defProp false
def g3:=And.intro (And.intro (And.intro (And.intro (@ay) (@ax)) (And.intro (@lD) (@vd))) (And.intro (And.intro (@mT) (@mR)) (And.intro (@mS) (@uc)))) (And.intro (And.intro (And.intro (@ud) (@Ec)) (And.intro (@ET) (@lw))) (And.intro (And.intro (@uq) (@nQ)) (And.intro (@nH) (And.intro (@Sx.tup2_0) (@Sx.tup2_1)))))
theorem J5 (X:aA) (G:DkG) (S:DiskL) (dir name:List UInt8) (w:World) (hX: ∀p,p∈X→w.heap[p.1]? =some p.2) (hn: (keys X).Nodup) (hP:DkP X G S) (eF:name.length<1099511627776):
  Rets Tryz.prog 20 #[vp G.bd 0,vs dir,vs name] w (XS w X (fun v D=>v=vi ((nC S dir name).2:Nat)∧DkP D G (nC S dir name).1)):=by
 refine Rets.enterX Tryz.func20 rfl (rs:= [.tmp 6]) Tryz.results20 Tryz.ntmps20 hX hn ?_
 refine kf ?_
 first|with_reducible refine ks [] @g3 ?_|refine kp @g3 ?_
 refine Ow.buildSlice (e:=9) #[vs name] rfl rfl (by kernel_rfl) fun b1 bE aJ=> ?_
 have aS:=hP.mono (X':=X++ [(b1,Obj.cells #[vs name] 9 (0,0))]) fun b o h=>aq h
 have bU:=(Ext.refl w X).app (o:=Obj.cells #[vs name] 9 (0,0)) aJ
 have eO: (b1,Obj.cells #[vs name] 9 (0,0))∈X++ [(b1,Obj.cells #[vs name] 9 (0,0))]:=by simp
 generalize X++ [(b1,Obj.cells #[vs name] 9 (0,0))]=L1 at*
 refine ko @g3 ?_
 refine Ow.callC rfl rfl Tryz.call80 (fun w' aB=>Rets.toX (rk w' G S dir (vsl b1 0 1 1) [name] (aS.world aB) (nI (aB.has _ _ eO)) (by simp) (by simpa using eF))) (fun B2 v2 D2 ai fh bw bl=> ?_)
 obtain⟨rfl,bl⟩:=bl
 rw[List.append_nil]
 clear eO ai bw
 unfold nC atD
 rcases bl with⟨he,rfl⟩ | ⟨he,k,hk,rfl⟩
 ·rw[if_pos he]
  have e1:=jN he
  refine ko @g3 ?_
  first|with_reducible refine ks [] (And.intro @g3 @e1) ?_|refine kp (And.intro @g3 @e1) ?_
  refine⟨_,(ke @g3), ?_⟩
  exact⟨bU,rfl,aS⟩
 ·rw[if_neg (by rw[he];simp),hk]
  have aa:=(g5 hk).1
  have et:=aL (w0:=w) (aS.dir k aa)
  obtain⟨os,ms,fq,fG,gP⟩:=aS.seen k aa
  have kG:=aL (w0:=w) fq
  have e1: ((0:Int) !=0)=false:=rfl
  refine ko @g3 ?_
  first|with_reducible refine ks [] (And.intro @g3 (And.intro @e1 (@et))) ?_|refine kp (And.intro @g3 (And.intro @e1 (@et))) ?_
  refine Ow.mapGetG (encK:=vs) (encV:=ab) (k:=name) (z:=none) rfl rfl Tryz.underlying127 gr zrPf rfl rfl kG fG ?_
  rw[gP.get (hP.ok.seen k aa).nodup]
  show Ow _ _ _ _ _ _ _ _
  cases hf:aV (S.dir k).seen name with
  |none=>
   have kw: (some k).bind (fun k=>aV (S.dir k).seen name)=none:=hf
   rw[kw]
   have g9:ab none= .pointer none:=rfl
   refine ko (And.intro @g3 @g9) ?_
   first|with_reducible refine ks [] @g3 ?_|refine kp @g3 ?_
   refine⟨_,(ke @g3), ?_⟩
   exact⟨bU,rfl,aS⟩
  |some n=>
   have kw: (some k).bind (fun k=>aV (S.dir k).seen name)=some n:=hf
   rw[kw]
   have cH:=hP.ok.seenN k aa _ (mu hf)
   have hp: ∀q:Nat,ab (some q)=vp q 0:=fun _=>rfl
   have rD:G.bd∈keys L1:=bV aS.disk
   refine ko (And.intro @g3 @hp) ?_
   first|with_reducible refine ks [] @g3 ?_|refine kp @g3 ?_
   refine Ow.callM rfl rfl Tryz.call81 rD (fun w' aB=>Bf G.bd G.bm S w' hP.ok.fuse (aB.has _ _ (bh aS.disk))) ?_
   obtain⟨bE,bG,gM⟩:=la S
   have aw:=aS.setDisk (aG S).1 bE bG (oF hP.ok)
   have aj:=bU.setB (b:=G.bd) (o:=bF G.bm (aG S).1)
   generalize setB L1 G.bd (bF G.bm (aG S).1)=L2 at*
   by_cases eA: (aG S).2=0
   ·have bP:=aw.file n (by rw[bG];exact cH)
    have ce:=aL (w0:=w) bP
    have e2: (((aG S).2:Int) !=0)=false:=by rw[eA];rfl
    rw[if_neg (by rw[eA];simp)]
    have gm:=qj hP.ok cH
    have dy:=aw.setFile (n:=n) (by rw[bG];exact cH) ⟨(aR S n).data,(aR S n).data.length⟩ (vv (oF hP.ok) ⟨gm.1,Nat.le_refl _⟩)
    have dq: (aG S).1.files.getD n dC=aR S n:=by rw[bG];rfl
    rw[dq] at bP ce
    refine ko (And.intro @g3 @e2) ?_
    first|with_reducible refine ks [] (And.intro @g3 (And.intro @ce (@bP))) ?_|refine kp (And.intro @g3 (And.intro @ce (@bP))) ?_
    refine⟨_,(ke @g3), ?_⟩
    exact⟨aj.setB,rfl,dy⟩
   ·have e2:=jN eA
    rw[if_pos eA]
    refine ko (And.intro @g3 @e2) ?_
    first|with_reducible refine ks [] @g3 ?_|refine kp @g3 ?_
    refine⟨_,(ke @g3), ?_⟩
    exact⟨aj,rfl,aw⟩
end Go.Proofs
end
section
open Go Go.Proofs Go.Sx Go.StP
namespace Go.Proofs
set_option maxRecDepth 10000
set_option maxHeartbeats 400000
set_option linter.unusedSimpArgs false
def jS (S:DiskL) (n:Nat) (s:List UInt8):Bool:=decide ((1048576:Int) - ((aR S n).data.length:Int)< (s.length:Int)) ||decide (S.max< (gV S:Int)) ||decide (S.max - (gV S:Int)< (s.length:Int))
def oI (S:DiskL) (dir name s:List UInt8):DiskL×Nat:=
 if dV S dir [name]≠0 then(S,dV S dir [name]) else match atD S dir name with
  |none=>(S,6)
  |some n=>if jS S n s=true then(S,8) else if(aG S).2≠0 then aG S else(nA (aG S).1 n ⟨(aR S n).data++s,(aR S n).stl⟩,0)
set_option linter.defProp false
def cu:=And.intro (And.intro (And.intro (And.intro (@ay) (@ax)) (And.intro (@lD) (@vd))) (And.intro (And.intro (@mT) (@mR)) (And.intro (@mS) (@uc)))) (And.intro (And.intro (And.intro (@ud) (@Ec)) (And.intro (@ET) (@lw))) (And.intro (And.intro (@uq) (@nQ)) (And.intro (@nH) (And.intro (@Sx.tup2_0) (@Sx.tup2_1)))))
theorem FV (X:aA) (G:DkG) (S:DiskL) (dir name s:List UInt8) (w:World) (hX: ∀p,p∈X→w.heap[p.1]? =some p.2) (hn: (keys X).Nodup) (hP:DkP X G S) (eF:name.length<1099511627776) (cT:s.length<1099511627776) (hu:gV S<4611686018427387904):
  Rets Tryz.prog 73 #[vp G.bd 0,vs dir,vs name,vs s] w (XS w X (fun v D=>v=vi ((oI S dir name s).2:Nat)∧DkP D G (oI S dir name s).1)):=by
 refine Rets.enterX Tryz.func73 rfl (rs:= [.tmp 8]) Tryz.results73 Tryz.ntmps73 hX hn ?_
 refine kf ?_
 first|with_reducible refine ks [] @cu ?_|refine kp @cu ?_
 refine Ow.buildSlice (e:=9) #[vs name] rfl rfl (by kernel_rfl) fun b1 bE aJ=> ?_
 have aS:=hP.mono (X':=X++ [(b1,Obj.cells #[vs name] 9 (0,0))]) fun b o h=>aq h
 have bU:=(Ext.refl w X).app (o:=Obj.cells #[vs name] 9 (0,0)) aJ
 have eO: (b1,Obj.cells #[vs name] 9 (0,0))∈X++ [(b1,Obj.cells #[vs name] 9 (0,0))]:=by simp
 generalize X++ [(b1,Obj.cells #[vs name] 9 (0,0))]=L1 at*
 refine ko @cu ?_
 refine Ow.callC rfl rfl Tryz.call80 (fun w' aB=>Rets.toX (rk w' G S dir (vsl b1 0 1 1) [name] (aS.world aB) (nI (aB.has _ _ eO)) (by simp) (by simpa using eF))) (fun B2 v2 D2 ai fh bw bl=> ?_)
 obtain⟨rfl,bl⟩:=bl
 rw[List.append_nil]
 clear eO ai bw
 unfold oI atD
 rcases bl with⟨he,rfl⟩ | ⟨he,k,hk,rfl⟩
 ·rw[if_pos he]
  have e1:=jN he
  refine ko @cu ?_
  first|with_reducible refine ks [] (And.intro @cu @e1) ?_|refine kp (And.intro @cu @e1) ?_
  refine⟨_,(ke @cu), ?_⟩
  exact⟨bU,rfl,aS⟩
 ·rw[if_neg (by rw[he];simp),hk]
  have aa:=(g5 hk).1
  have et:=aL (w0:=w) (aS.dir k aa)
  obtain⟨os,ms,fq,fG,gP⟩:=aS.seen k aa
  have kG:=aL (w0:=w) fq
  have e1: ((0:Int) !=0)=false:=rfl
  refine ko @cu ?_
  first|with_reducible refine ks [] (And.intro @cu (And.intro @e1 (@et))) ?_|refine kp (And.intro @cu (And.intro @e1 (@et))) ?_
  refine Ow.mapGetG (encK:=vs) (encV:=ab) (k:=name) (z:=none) rfl rfl Tryz.underlying127 gr zrPf rfl rfl kG fG ?_
  rw[gP.get (hP.ok.seen k aa).nodup]
  show Ow _ _ _ _ _ _ _ _
  cases hf:aV (S.dir k).seen name with
  |none=>
   have kw: (some k).bind (fun k=>aV (S.dir k).seen name)=none:=hf
   rw[kw]
   have g9:ab none= .pointer none:=rfl
   refine ko (And.intro @cu @g9) ?_
   first|with_reducible refine ks [] @cu ?_|refine kp @cu ?_
   refine⟨_,(ke @cu), ?_⟩
   exact⟨bU,rfl,aS⟩
  |some n=>
   have kw: (some k).bind (fun k=>aV (S.dir k).seen name)=some n:=hf
   rw[kw]
   have cH:n<S.files.length:=hP.ok.seenN k aa _ (mu hf)
   have gm:=qj hP.ok cH
   have hp: ∀q:Nat,ab (some q)=vp q 0:=fun _=>rfl
   have rD:G.bd∈keys L1:=bV aS.disk
   have lA:=aL (w0:=w) (aS.file n cH)
   have kF:=aL (w0:=w) aS.disk
   have BQ:aM w L1 (G.fb.getD n 0)=some (cQ (aR S n)):=lA
   have hmx:=hP.ok.max
   refine ko (And.intro @cu @hp) ?_
   first|with_reducible refine ks [] @cu ?_|refine kp @cu ?_
   refine Cw.regionS [G.fb.getD n 0,G.bd] [0,1,2,3,4,5,6,7,8,9,10,12,13,14,15,11,16,17,18,19,20,21,22,23,25,24,26,27,28,29,30] [] (by kernel_rfl) (by kernel_rfl) (by kernel_rfl) ?_
   simp only[ar, ↓ap, ↓ag, ↓an, ↓am,ah]
   cases h1:decide ((1048576:Int) - ((aR S n).data.length:Int)< (s.length:Int)) with
   |true=>
    refine kq (And.intro @cu (And.intro @BQ (And.intro @kF (@h1)))) ?_
    have hF:jS S n s=true:=by unfold jS;rw[h1];simp
    rw[if_pos hF]
    try with_reducible refine Ow.nil ?_
    first|with_reducible refine ks [] @cu ?_|refine kp @cu ?_
    refine⟨_,(ke @cu), ?_⟩
    exact⟨bU,rfl,aS⟩
   |false=>
    refine kq (And.intro @cu (And.intro @BQ (And.intro @kF (@h1)))) ?_
    refine Ow.soft rfl rfl rfl ?_
    refine Ow.callFV rfl Tryz.call24 (fun w' aB=>EY w' G S (aS.world aB) hu) ?_
    with_reducible refine Ow.nil ?_
    refine⟨by intro b hb;simp only[List.mem_cons,List.not_mem_nil,or_false] at hb;(try subst hb);rfl, ?_⟩
    cases h2:decide (S.max< (gV S:Int)) with
    |true=>
     refine kq (And.intro @cu (And.intro @kF (@h2))) ?_
     have hF:jS S n s=true:=by unfold jS;rw[h2];simp
     rw[if_pos hF]
     try with_reducible refine Ow.nil ?_
     first|with_reducible refine ks [] @cu ?_|refine kp @cu ?_
     refine⟨_,(ke @cu), ?_⟩
     exact⟨bU,rfl,aS⟩
    |false=>
     have Rn:=of_decide_eq_false h2
     refine kq (And.intro @cu (And.intro @kF (@h2))) ?_
     refine Ow.soft rfl rfl rfl ?_
     refine Ow.callFV rfl Tryz.call24 (fun w' aB=>EY w' G S (aS.world aB) hu) ?_
     with_reducible refine Ow.nil ?_
     refine⟨by intro b hb;simp only[List.mem_cons,List.not_mem_nil,or_false] at hb;(try subst hb);rfl, ?_⟩
     cases h3:decide (S.max - (gV S:Int)< (s.length:Int)) with
     |true=>
      refine kq (And.intro @cu (And.intro @kF (@h3))) ?_
      have hF:jS S n s=true:=by unfold jS;rw[h3];simp
      rw[if_pos hF]
      try with_reducible refine Ow.nil ?_
      first|with_reducible refine ks [] @cu ?_|refine kp @cu ?_
      refine⟨_,(ke @cu), ?_⟩
      exact⟨bU,rfl,aS⟩
     |false=>
      have hF:jS S n s=false:=by unfold jS;rw[h1,h2,h3];rfl
      rw[if_neg (by rw[hF];simp)]
      have pp:=of_decide_eq_false h1
      refine kq (And.intro @cu (And.intro @kF (@h3))) ?_
      try with_reducible refine Ow.nil ?_
      first|with_reducible refine ks [] @cu ?_|refine kp @cu ?_
      refine Ow.callM rfl rfl Tryz.call81 rD (fun w' aB=>Bf G.bd G.bm S w' hP.ok.fuse (aB.has _ _ (bh aS.disk))) ?_
      obtain⟨bE,bG,gM⟩:=la S
      have aw:=aS.setDisk (aG S).1 bE bG (oF hP.ok)
      have aj:=bU.setB (b:=G.bd) (o:=bF G.bm (aG S).1)
      generalize setB L1 G.bd (bF G.bm (aG S).1)=L2 at*
      by_cases eA: (aG S).2=0
      ·have bP:=aw.file n (by rw[bG];exact cH)
       have ce:=aL (w0:=w) bP
       have e2: (((aG S).2:Int) !=0)=false:=by rw[eA];rfl
       rw[if_neg (by rw[eA];simp)]
       have dy:=aw.setFile (n:=n) (by rw[bG];exact cH) ⟨(aR S n).data++s,(aR S n).stl⟩ (vv (oF hP.ok) ⟨by simp only[List.length_append];omega,by simp only[List.length_append];omega⟩)
       have dq: (aG S).1.files.getD n dC=aR S n:=by rw[bG];rfl
       rw[dq] at bP ce
       refine ko (And.intro @cu @e2) ?_
       first|with_reducible refine ks [] (And.intro @cu (And.intro @ce (@bP))) ?_|refine kp (And.intro @cu (And.intro @ce (@bP))) ?_
       refine⟨_,(ke @cu), ?_⟩
       exact⟨aj.setB,rfl,dy⟩
      ·have e2:=jN eA
       rw[if_pos eA]
       refine ko (And.intro @cu @e2) ?_
       first|with_reducible refine ks [] @cu ?_|refine kp @cu ?_
       refine⟨_,(ke @cu), ?_⟩
       exact⟨aj,rfl,aw⟩
end Go.Proofs
end
section
open Go Go.Proofs Go.Sx Go.StP
namespace Go.Proofs
set_option maxRecDepth 10000
set_option maxHeartbeats 400000
set_option linter.unusedSimpArgs false
structure Only (X D:aA) (bs:Nat) (o:Obj):Prop where
 keys:Sx.keys D=Sx.keys X
 at_:Sx.look D bs=some o
 rest: ∀b,b≠bs→Sx.look D b=Sx.look X b
theorem Only.set {X:aA} {bs:Nat} {o o':Obj} (h:Sx.look X bs=some o):Only X (setB X bs o') bs o':=⟨j9 _ _ _,ee h,fun _ hb=>bH (Ne.symm hb)⟩
theorem Only.trans {X D D':aA} {bs:Nat} {o o':Obj} (h:Only X D bs o) (h':Only D D' bs o'):Only X D' bs o':=⟨h'.keys.trans h.keys,h'.at_,fun b hb=>(h'.rest b hb).trans (h.rest b hb)⟩
theorem wT (s:List UInt8) (n:Nat):aF (some (false,n)) (some (dI s)) 0=some (vs s):=(rfl)
theorem Mt (b:Nat) (n:Nat):aF (some (false,n)) (some (iC b)) 0=some (vp b 0):=(rfl)
set_option linter.defProp false
def kQ:=And.intro (And.intro (@ay) (@ax)) (And.intro (@wT) (@Mt))
theorem Ye (X:aA) (b1 b2 bs fbn:Nat) (a:List UInt8) (o:Obj) (m:List (List UInt8×Option Nat)) (w:World) (hX: ∀p,p∈X→w.heap[p.1]? =some p.2) (hn: (keys X).Nodup)
  (h1:Sx.look X b1=some (iC fbn)) (h2:Sx.look X b2=some (dI a)) (hs:Sx.look X bs=some o) (hm:eD vs ab o m):
  Rets Tryz.prog 159 #[vm bs,vp b1 0,vp b2 0] w (XS w X (fun v D=>v=ck []∧ ∃o',Only X D bs o'∧eD vs ab o' (updG a (some fbn) m))):=by
 have r1:=aL (w0:=w) h1
 have r2:=aL (w0:=w) h2
 refine Rets.enterX Tryz.func159 rfl (rs:= []) Tryz.results159 Tryz.ntmps159 hX hn ?_
 refine kf ?_
 first|with_reducible refine ks [] (And.intro @kQ (And.intro @r1 (@r2))) ?_|refine kp (And.intro @kQ (And.intro @r1 (@r2))) ?_
 refine Ow.mapUpdateG (encK:=vs) (encV:=ab) (k:=a) (v:=some fbn) rfl rfl Tryz.underlying127 gr rfl rfl rfl hs hm (fun o' gO=> ?_)
 refine ko @kQ ?_
 refine⟨_,(ke @kQ), ?_⟩
 exact⟨(Ext.refl w X).setB,rfl,o',Only.set hs,gO⟩
theorem YI (X:aA) (b1 bs:Nat) (a:List UInt8) (o:Obj) (m:List (List UInt8×Option Nat)) (w:World) (hX: ∀p,p∈X→w.heap[p.1]? =some p.2) (hn: (keys X).Nodup)
  (h1:Sx.look X b1=some (dI a)) (hs:Sx.look X bs=some o) (hm:eD vs ab o m):
  Rets Tryz.prog 161 #[vm bs,vp b1 0] w (XS w X (fun v D=>v=ck []∧ ∃o',Only X D bs o'∧eD vs ab o' (delG a m))):=by
 have r1:=aL (w0:=w) h1
 refine Rets.enterX Tryz.func161 rfl (rs:= []) Tryz.results161 Tryz.ntmps161 hX hn ?_
 refine kf ?_
 first|with_reducible refine ks [] (And.intro @kQ @r1) ?_|refine kp (And.intro @kQ @r1) ?_
 refine Ow.mapDeleteG (encK:=vs) (encV:=ab) (k:=a) rfl rfl Tryz.underlying127 gr rfl rfl hs hm (fun o' gO=> ?_)
 refine ko @kQ ?_
 refine⟨_,(ke @kQ), ?_⟩
 exact⟨(Ext.refl w X).setB,rfl,o',Only.set hs,gO⟩
theorem GA (X:aA) (b1 b2 bs:Nat) (a b:List UInt8) (o:Obj) (m:List (List UInt8×Option Nat)) (w:World) (hX: ∀p,p∈X→w.heap[p.1]? =some p.2) (hn: (keys X).Nodup)
  (h1:Sx.look X b1=some (dI a)) (h2:Sx.look X b2=some (dI b)) (hs:Sx.look X bs=some o) (hm:eD vs ab o m):
  Rets Tryz.prog 121 #[vm bs,vp b1 0,vp b2 0] w (XS w X (fun v D=>v=ck []∧ ∃o',Only X D bs o'∧eD vs ab o' (delG a (updG b (getG a none m) m)))):=by
 have r1:=aL (w0:=w) h1
 have r2:=aL (w0:=w) h2
 refine Rets.enterX Tryz.func121 rfl (rs:= []) Tryz.results121 Tryz.ntmps121 hX hn ?_
 refine kf ?_
 first|with_reducible refine ks [] (And.intro @kQ (And.intro @r1 (@r2))) ?_|refine kp (And.intro @kQ (And.intro @r1 (@r2))) ?_
 refine Ow.mapGetG (encK:=vs) (encV:=ab) (k:=a) (z:=none) rfl rfl Tryz.underlying127 gr zrPf rfl rfl (aL hs) hm ?_
 refine ko @kQ ?_
 refine Ow.mapUpdateG (encK:=vs) (encV:=ab) (k:=b) (v:=getG a none m) rfl rfl Tryz.underlying127 gr rfl rfl rfl hs hm (fun o1 eO=> ?_)
 have vN:Only X (setB X bs o1) bs o1:=Only.set hs
 have ad:b1≠bs:=by
  rintro rfl
  rw[hs] at h1;cases h1
  obtain⟨es,c,h,-⟩:=hm;cases h
 have r3:=aL (w0:=w) ((vN.rest b1 ad).trans h1)
 have hE:=(Ext.refl w X).setB (b:=bs) (o:=o1)
 generalize setB X bs o1=L1 at*
 refine ko @kQ ?_
 first|with_reducible refine ks [] (And.intro @kQ @r3) ?_|refine kp (And.intro @kQ @r3) ?_
 refine Ow.mapDeleteG (encK:=vs) (encV:=ab) (k:=a) rfl rfl Tryz.underlying127 gr rfl rfl vN.at_ eO (fun o' gO=> ?_)
 refine ko @kQ ?_
 refine⟨_,(ke @kQ), ?_⟩
 exact⟨hE.setB,rfl,o',vN.trans (Only.set vN.at_),gO⟩
end Go.Proofs
end
section
open Go Go.Proofs Go.Sx Go.StP
namespace Go.Proofs
set_option maxRecDepth 10000
set_option maxHeartbeats 400000
set_option linter.unusedSimpArgs false
def okC (l:NmL) (c:CallL):Prop:=c.kind=1→aV l c.a≠none∧c.a≠c.b
theorem NmP.ren {fb:List Nat} {l:NmL} {m:List (List UInt8×Option Nat)} (h:NmP fb l m) (hs:SrtN l) {a b:List UInt8} {n:Nat} (jF:a≠b):NmP fb (gY (ci l a) (b,n)) (delG a (updG b (some (fb.getD n 0)) m)):=by
 have h1:=h.put hs.nodup b n
 have h2:=h1.wipe (CF (b,n) hs).nodup a
 refine h2.trans (List.Perm.map _ ?_)
 unfold gY
 refine(List.Perm.filter _ (s8 (b,n) (ci l b))).trans ?_
 refine List.Perm.trans ?_ (s8 (b,n) (ci (ci l a) b)).symm
 have e: (a==b)=false:=beq_eq_false_iff_ne.2 jF
 rw[List.filter_cons]
 simp only[e,Bool.not_false, ↓reduceIte]
 unfold ci
 rw[List.filter_filter,List.filter_filter]
 refine List.Perm.cons _ (List.Perm.of_eq (List.filter_congr fun p _=>Bool.and_comm _ _))
theorem Ez {l:NmL} (c:CallL) (h:SrtN l):SrtN (cJ l c):=by
 unfold cJ
 split
 ·exact CF _ h
 ·exact CF _ (F7 _ h)
 ·exact F7 _ h
theorem EI {X:aA} {fb:List Nat} {v:Value} {c:CallL} {bs:Nat} {l:NmL} (hv:FnP X fb v c) (hN:NmM X fb bs l) (hs:SrtN l) (eX:okC l c):
  ∃k cap,v= .func (.func k) #[] cap∧(∀a w,(callFunc k a).run Tryz.prog w= .ok (.enter k a) w)∧ ∀w,(∀p,p∈X→w.heap[p.1]? =some p.2)→(keys X).Nodup→Rets Tryz.prog k (#[vm bs]++cap) w (XS w X (fun r D=>r=ck []∧ ∃o',Only X D bs o'∧NmM D fb bs (cJ l c))):=by
 obtain⟨o,m,ho,hm,hp⟩:=hN
 unfold FnP at hv
 split at hv
 ·rename_i hk
  obtain⟨b1,b2,rfl,h1,h2⟩:=hv
  refine⟨_,_,rfl,Tryz.call159,fun w hX hn=>Rets.mono (Ye X b1 b2 bs _ c.a o m w hX hn h1 h2 ho hm) ?_⟩
  rintro r D ⟨hE,hr,o',hO,gO⟩
  refine⟨hE,hr,o',hO,o',_,hO.at_,gO, ?_⟩
  unfold cJ
  rw[hk]
  exact hp.put hs.nodup c.a c.n
 ·rename_i hk
  obtain⟨b1,b2,rfl,h1,h2⟩:=hv
  obtain⟨hf,jF⟩:=eX hk
  refine⟨_,_,rfl,Tryz.call121,fun w hX hn=>Rets.mono (GA X b1 b2 bs c.a c.b o m w hX hn h1 h2 ho hm) ?_⟩
  rintro r D ⟨hE,hr,o',hO,gO⟩
  refine⟨hE,hr,o',hO,o',_,hO.at_,gO, ?_⟩
  unfold cJ
  rw[hk,hp.get hs.nodup]
  cases e:aV l c.a with
  |none=>exact absurd e hf
  |some n=>exact hp.ren hs jF
 ·rename_i h0 pp
  obtain⟨b1,rfl,h1⟩:=hv
  refine⟨_,_,rfl,Tryz.call161,fun w hX hn=>Rets.mono (YI X b1 bs c.a o m w hX hn h1 ho hm) ?_⟩
  rintro r D ⟨hE,hr,o',hO,gO⟩
  refine⟨hE,hr,o',hO,o',_,hO.at_,gO, ?_⟩
  have e:cJ l c=ci l c.a:=by
   unfold cJ
   split
   ·rename_i e;exact absurd e h0
   ·rename_i e;exact absurd e pp
   ·rfl
  rw[e]
  exact hp.wipe hs.nodup c.a
end Go.Proofs
end
section
open Go Go.Proofs Go.Sx Go.StP
namespace Go.Proofs
set_option maxRecDepth 10000
set_option maxHeartbeats 400000
set_option linter.unusedSimpArgs false
theorem wA {α:Type} {a b:List α} (z:α) (k:Nat) (h:k<a.length): (a++b).getD k z=a.getD k z:=by
 rw[List.getD_eq_getElem?_getD,List.getElem?_append_left h,←List.getD_eq_getElem?_getD]
theorem ut {α:Type} {a:List α} (z x:α) {k:Nat} (h:a.length=k): (a++ [x]).getD k z=x:=by
 subst h
 rw[List.getD_eq_getElem?_getD,List.getElem?_append_right (Nat.le_refl _),Nat.sub_self];rfl
def setP (G:DkG) (k:Nat) (v:Value):DkG:={G with p:=fun j=>if j=k then v else G.p j}
theorem CJ {l:NmL} {c:CallL} {n:Nat} (hl: ∀p,p∈l→p.2<n) (eX:okC l c) (hc:c.kind=0→c.n<n): ∀p,p∈cJ l c→p.2<n:=by
 intro p hp
 have hput: ∀ {l:NmL} {x:List UInt8×Nat},(∀p,p∈l→p.2<n)→x.2<n→p∈gY l x→p.2<n:=by
  intro l x h1 h2 h3
  rcases List.mem_cons.1 ((s8 x (ci l x.1)).mem_iff.1 h3) with rfl|h3
  ·exact h2
  ·exact h1 _ ((List.mem_filter.1 h3).1)
 unfold cJ at hp
 split at hp
 ·rename_i hk;exact hput hl (hc hk) hp
 ·rename_i hk
  refine hput (fun q hq=>hl q ((List.mem_filter.1 hq).1)) ?_ hp
  cases e:aV l c.a with
  |none=>exact absurd e (eX hk).1
  |some m=>
   have:=hl _ (mu e)
   exact this
 ·exact hl _ ((List.mem_filter.1 hp).1)
theorem va {S:DiskL} (h:DkOk S) {k:Nat} (d:DirL) (h1:SrtN d.seen) (h2:SrtN d.stl) (h3: ∀p,p∈d.seen→p.2<S.files.length) (h4: ∀p,p∈d.stl→p.2<S.files.length) (h5: ∀c,c∈d.pend→c.kind=0→c.n<S.files.length):DkOk (dX S k d):=by
 refine⟨fun j hj=> ?_,fun j hj=> ?_,fun j hj=> ?_,fun j hj=> ?_,fun j hj=> ?_,h.file,h.fuse,h.max⟩<;>unfold dX<;>simp only<;>by_cases e:j=k
 ·rw[if_pos e];exact h1
 ·rw[if_neg e];exact h.seen j hj
 ·rw[if_pos e];exact h2
 ·rw[if_neg e];exact h.stl j hj
 ·rw[if_pos e];exact h3
 ·rw[if_neg e];exact h.seenN j hj
 ·rw[if_pos e];exact h4
 ·rw[if_neg e];exact h.stlN j hj
 ·rw[if_pos e];exact h5
 ·rw[if_neg e];exact h.pendN j hj
theorem oE {G:DkG} (h: [G.s 0,G.s 1,G.s 2,G.t 0,G.t 1,G.t 2].Nodup) {i j:Nat} (hi:i<3) (hj:j<3): (i≠j→G.s i≠G.s j)∧(i≠j→G.t i≠G.t j)∧G.s i≠G.t j:=by
 simp only[List.nodup_cons,List.mem_cons,List.not_mem_nil,not_or,or_false,List.nodup_nil,and_true,not_false_eq_true] at h
 have a:i=0∨i=1∨i=2:=by omega
 have b:j=0∨j=1∨j=2:=by omega
 rcases a with rfl|rfl|rfl<;>rcases b with rfl|rfl|rfl<;>refine⟨fun ad=> ?_,fun ad=> ?_, ?_⟩<;>first|omega| (exact absurd rfl ad)
theorem zh {G:DkG} (h: [G.d 0,G.d 1,G.d 2].Nodup) {i j:Nat} (hi:i<3) (hj:j<3):i≠j→G.d i≠G.d j:=by
 simp only[List.nodup_cons,List.mem_cons,List.not_mem_nil,not_or,or_false,List.nodup_nil,and_true,not_false_eq_true] at h
 have a:i=0∨i=1∨i=2:=by omega
 have b:j=0∨j=1∨j=2:=by omega
 rcases a with rfl|rfl|rfl<;>rcases b with rfl|rfl|rfl<;>intro ad<;>first|omega| (exact absurd rfl ad)
structure DkP.Turn (X L:aA) (G:DkG) (k:Nat):Prop where
 keep: ∀b o,Sx.look X b=some o→b≠G.s k→b≠G.d k→slB (G.p k)≠some b→Sx.look L b=some o
theorem DkP.turn {X L:aA} {G:DkG} {S:DiskL} (h:DkP X G S) {k:Nat} (hk:k<3) {c:CallL} {v v2:Value} {vals:List Value} (hT:DkP.Turn X L G k)
  (hs:NmM L G.fb (G.s k) (cJ (S.dir k).seen c)) (hd:Sx.look L (G.d k)=some (cG (G.s k) (G.t k) v2)) (hv:vals.length=(S.dir k).pend.length)
  (hF: ∀i,i<vals.length→FnP X G.fb (vals.getD i undef) ((S.dir k).pend.getD i jx)) (Zk:Gr X 137 1 (G.p k) vals.length vals)
  (cw:Gr L 137 1 v2 (vals.length+1) (vals++ [v])) (Zi:FnP X G.fb v c) (cT:slB v2=slB (G.p k)∨ ∃b,slB v2=some b∧b∉keys X) (eX:okC (S.dir k).seen c) (rF:c.kind=0→c.n<S.files.length):
  DkP L (setP G k v2) (dX S k ⟨cJ (S.dir k).seen c,(S.dir k).stl,(S.dir k).pend++ [c]⟩):=by
 have Ti: ∀b o,Sx.look X b=some o→tyO o≠some 137→slB (G.p k)≠some b:=by
  intro b o hb ht e
  obtain⟨arr,ha⟩:=gd Zk e
  rw[hb] at ha;cases ha;exact ht rfl
 obtain⟨osk,msk,ns,nk,-⟩:=h.seen k hk
 have dN: ∀b o,Sx.look X b=some o→tyO o≠none→b≠G.s k:=by
  rintro b o hb ht rfl
  rw[ns] at hb;cases hb;exact ht (iQ nk)
 have av: ∀b o,Sx.look X b=some o→tyO o≠some 130→b≠G.d k:=by
  rintro b o hb ht rfl
  rw[h.dir k hk] at hb;cases hb;exact ht rfl
 have K: ∀b o,Sx.look X b=some o→tyO o≠none→tyO o≠some 130→tyO o≠some 137→Sx.look L b=some o:=fun b o hb h1 h2 h3=>hT.keep b o hb (dN b o hb h1) (av b o hb h2) (Ti b o hb h3)
 have KM: ∀b o,Sx.look X b=some o→tyO o=none→b≠G.s k→Sx.look L b=some o:=fun b o hb h1 h2=>hT.keep b o hb h2 (av b o hb (by rw[h1];intro e;cases e)) (Ti b o hb (by rw[h1];intro e;cases e))
 have KF: ∀ {w c},FnP X G.fb w c→FnP L G.fb w c:=fun hw=>hw.keep fun b o hb hx=>K b o hb (by rcases hx with⟨s,rfl⟩ | ⟨a,rfl⟩<;>simp[tyO,dI,iC]) (by rcases hx with⟨s,rfl⟩ | ⟨a,rfl⟩<;>simp[tyO,dI,iC]) (by rcases hx with⟨s,rfl⟩ | ⟨a,rfl⟩<;>simp[tyO,dI,iC])
 refine⟨?_, ?_, ?_, ?_, ?_, ?_, ?_,h.len,h.nodf,h.nodm,h.nodd,h.nodb, ?_, ?_⟩
 ·exact K _ _ h.disk (by simp[tyO,bF]) (by simp[tyO,bF]) (by simp[tyO,bF])
 ·obtain⟨o,h1,h2⟩:=h.dirs
  exact⟨o,KM _ _ h1 (iQ h2) (h.nodb k hk).1,h2⟩
 ·intro j hj
  by_cases e:j=k
  ·subst e
   show Sx.look L (G.d j)=some (cG (G.s j) (G.t j) (if j=j then v2 else G.p j))
   rw[if_pos rfl];exact hd
  ·show Sx.look L (G.d j)=some (cG (G.s j) (G.t j) (if j=k then v2 else G.p j))
   rw[if_neg e]
   exact hT.keep _ _ (h.dir j hj) (dN _ _ (h.dir j hj) (by simp[tyO,cG])) (zh h.nodd hj hk e) (Ti _ _ (h.dir j hj) (by simp[tyO,cG]))
 ·intro j hj
  show NmM L G.fb (G.s j) (if j=k then _ else S.dir j).seen
  by_cases e:j=k
  ·subst e;rw[if_pos rfl];exact hs
  ·rw[if_neg e]
   obtain⟨o,m,h1,h2,h3⟩:=h.seen j hj
   exact⟨o,m,KM _ _ h1 (iQ h2) ((oE h.nodm hj hk).1 e),h2,h3⟩
 ·intro j hj
  show NmM L G.fb (G.t j) (if j=k then _ else S.dir j).stl
  have e2: (if j=k then⟨cJ (S.dir k).seen c,(S.dir k).stl,(S.dir k).pend++ [c]⟩ else S.dir j:DirL).stl=(S.dir j).stl:=by
   by_cases e:j=k
   ·subst e;rw[if_pos rfl]
   ·rw[if_neg e]
  rw[e2]
  obtain⟨o,m,h1,h2,h3⟩:=h.stl j hj
  exact⟨o,m,KM _ _ h1 (iQ h2) (Ne.symm (oE h.nodm hk hj).2.2),h2,h3⟩
 ·intro j hj
  by_cases e:j=k
  ·subst e
   refine⟨vals++ [v], ?_, ?_, ?_⟩
   ·show(vals++ [v]).length=(if j=j then _ else S.dir j:DirL).pend.length
    rw[if_pos rfl,List.length_append,List.length_append,hv];rfl
   ·show Gr L _ 1 (if j=j then v2 else G.p j) (vals++ [v]).length (vals++ [v])
    rw[if_pos rfl,List.length_append];exact cw
   ·intro i hi
    show FnP L G.fb ((vals++ [v]).getD i undef) ((if j=j then _ else S.dir j:DirL).pend.getD i jx)
    rw[if_pos rfl]
    rw[List.length_append,List.length_singleton] at hi
    by_cases ei:i=vals.length
    ·subst ei
     rw[ut _ _ rfl,ut _ _ hv.symm]
     exact KF Zi
    ·rw[wA _ _ (by omega),wA _ _ (by omega)]
     exact KF (hF i (by omega))
  ·obtain⟨vj,h1,h2,h3⟩:=h.pend j hj
   refine⟨vj, ?_, ?_, ?_⟩
   ·show vj.length=(if j=k then _ else S.dir j:DirL).pend.length
    rw[if_neg e];exact h1
   ·show Gr L _ 1 (if j=k then v2 else G.p j) vj.length vj
    rw[if_neg e]
    refine h2.keep fun b o hb ho=> ?_
    obtain⟨arr,ha⟩:=gd h2 hb
    rw[ho] at ha;cases ha
    exact hT.keep _ _ ho (dN _ _ ho (by simp[tyO])) (av _ _ ho (by simp[tyO])) (h.nodp j k hj hk e b hb)
   ·intro i hi
    show FnP L G.fb (vj.getD i undef) ((if j=k then _ else S.dir j:DirL).pend.getD i jx)
    rw[if_neg e]
    exact KF (h3 i hi)
 ·intro n hn
  exact K _ _ (h.file n hn) (by simp[tyO,cQ]) (by simp[tyO,cQ]) (by simp[tyO,cQ])
 ·intro i j hi hj kC b hb
  have key: ∀j,j<3→ ∀b,slB (G.p j)=some b→b∈keys X:=fun j hj b hb=>by
   obtain⟨vj,-,h2,-⟩:=h.pend j hj
   obtain⟨arr,ha⟩:=gd h2 hb
   exact bV ha
  show slB (if j=k then v2 else G.p j)≠some b
  have dZ:slB (if i=k then v2 else G.p i)=some b:=hb
  by_cases ei:i=k
  ·subst ei
   rw[if_pos rfl] at dZ
   rw[if_neg (Ne.symm kC)]
   rcases cT with e| ⟨b',e,bG⟩
   ·exact h.nodp i j hi hj kC b (by rw[←e];exact dZ)
   ·rw[e] at dZ;cases dZ
    exact fun h'=>bG (key j hj _ h')
  ·rw[if_neg ei] at dZ
   by_cases ej:j=k
   ·subst ej
    rw[if_pos rfl]
    rcases cT with e| ⟨b',e,bG⟩
    ·rw[e];exact h.nodp i j hi hj kC b dZ
    ·rw[e]
     intro h';cases h'
     exact bG (key i hi _ dZ)
   ·rw[if_neg ej];exact h.nodp i j hi hj kC b dZ
 ·exact va h.ok _ (Ez c (h.ok.seen k hk)) (h.ok.stl k hk) (CJ (h.ok.seenN k hk) eX rF) (h.ok.stlN k hk) (fun d hd h0=>by
   rcases List.mem_append.1 hd with hd|hd
   ·exact h.ok.pendN k hk d hd h0
   ·rw[List.mem_singleton.1 hd] at h0 ⊢;exact rF h0)
end Go.Proofs
end
section
open Go Go.Proofs Go.Sx Go.StP
namespace Go.Proofs
set_option maxRecDepth 10000
set_option maxHeartbeats 400000
set_option linter.unusedSimpArgs false
def lH (S:DiskL) (k:Nat) (c:CallL):DiskL:=dX S k ⟨cJ (S.dir k).seen c,(S.dir k).stl,(S.dir k).pend++ [c]⟩
theorem ES (a b:Nat) (v q:Value) (x:Bool) (hq:Value.oneCell' q=true∧q.cells= #[q]):ac (some (x,1)) (some (cG a b v)) 2 q=some (cG a b q):=d9 [vm a,vm b] [v] [q] [] x _ 130 rfl rfl hq.2 rfl (by simp[hq.1])
set_option linter.defProp false
def k5:=And.intro (And.intro (@ay) (And.intro (@ax) (@lD))) (And.intro (And.intro (@vd) (@mT)) (And.intro (@mR) (@mS)))
theorem UP (X:aA) (G:DkG) (S:DiskL) (k:Nat) (c:CallL) (v:Value) (w:World) (hX: ∀p,p∈X→w.heap[p.1]? =some p.2) (hn: (keys X).Nodup) (hP:DkP X G S) (hk:k<3) (hv:FnP X G.fb v c) (eX:okC (S.dir k).seen c) (rF:c.kind=0→c.n<S.files.length) (fT: (S.dir k).pend.length<1000000):
  Rets Tryz.prog 116 #[vp G.bd 0,vp (G.d k) 0,v] w (XS w X (fun r D=>r=vi ((aG S).2:Nat)∧if(aG S).2≠0 then D=setB X G.bd (bF G.bm (aG S).1) else∃v2,DkP D (setP G k v2) (lH (aG S).1 k c))):=by
 obtain⟨fk,cap,rfl,-,-⟩:=EI hv (hP.seen k hk) (hP.ok.seen k hk) eX
 refine Rets.enterX Tryz.func116 rfl (rs:= [.tmp 6]) Tryz.results116 Tryz.ntmps116 hX hn ?_
 refine kf ?_
 first|with_reducible refine ks [] @k5 ?_|refine kp @k5 ?_
 refine Ow.callM rfl rfl Tryz.call81 (bV hP.disk) (fun w' aB=>Bf G.bd G.bm S w' hP.ok.fuse (aB.has _ _ (bh hP.disk))) ?_
 obtain⟨bE,bG,gM⟩:=la S
 have aS:=hP.setDisk (aG S).1 bE bG (oF hP.ok)
 have bU:=(Ext.refl w X).setB (b:=G.bd) (o:=bF G.bm (aG S).1)
 have vR:FnP (setB X G.bd (bF G.bm (aG S).1)) G.fb (.func (.func fk) #[] cap) c:=hv.keep fun b o ho hx=>fv hP.disk ho (by rcases hx with⟨s,rfl⟩ | ⟨a,rfl⟩<;>simp[tyO,bF,dI,iC])
 generalize hL1:setB X G.bd (bF G.bm (aG S).1)=L1 at*
 by_cases eA: (aG S).2=0
 ·have e2: (((aG S).2:Int) !=0)=false:=by rw[eA];rfl
  have rX:SrtN ((aG S).1.dir k).seen:=aS.ok.seen k hk
  have qO:okC ((aG S).1.dir k).seen c:=by rw[bE];exact eX
  obtain⟨fk',cap',he,fo,iI⟩:=EI vR (aS.seen k hk) rX qO
  cases he
  have et:=aL (w0:=w) (aS.dir k hk)
  obtain⟨os,ms,fq,fG,-⟩:=aS.seen k hk
  have DY:G.d k≠G.s k:=by
   intro e
   have h1:=aS.dir k hk
   rw[e,fq] at h1;cases h1
   obtain⟨es,cl,h,-⟩:=fG;cases h
  obtain⟨vals,Ba,cw,hF⟩:=aS.pend k hk
  refine ko (And.intro @k5 @e2) ?_
  first|with_reducible refine ks [] (And.intro @k5 @et) ?_|refine kp (And.intro @k5 @et) ?_
  refine Ow.callFnXC (b:=vm (G.s k)) (cap:=cap) (ars:= #[vm (G.s k)]++cap) rfl (X:=L1) (Y:= []) (List.append_nil _).symm rfl rfl rfl rfl fo (fun w' aB aQ aN=>iI w' aQ aN) (fun r D hC hS=> ?_)
  rw[List.append_nil]
  obtain⟨rfl,o',hO,bw⟩:=hS
  have aj:=bU.came0 hC
  have gl:Sx.look D (G.d k)=some (cG (G.s k) (G.t k) (G.p k)):=(hO.rest _ DY).trans (aS.dir k hk)
  have qE:=aL (w0:=w) gl
  have WL:Gr D 137 1 (G.p k) vals.length vals:=cw.keep fun b o hb ho=>by
   obtain⟨arr,ha⟩:=gd cw hb
   rw[ho] at ha;cases ha
   refine(hO.rest b ?_).trans ho
   rintro rfl
   rw[fq] at ho;cases ho
   obtain⟨es,cl,h,-⟩:=fG;cases h
  refine ko @k5 ?_
  first|with_reducible refine ks [] (And.intro @k5 @qE) ?_|refine kp (And.intro @k5 @qE) ?_
  refine Ow.buildSlice (e:=137) #[.func (.func fk) #[] cap] rfl rfl (by kernel_rfl) fun ba rC lC=> ?_
  refine ko @k5 ?_
  refine Ow.appendG (e:=137) (k:=1) (new:= [.func (.func fk) #[] cap]) (G.p k) rfl rfl rfl Tryz.underlying128 (id (by kernel_rfl):aK Tryz.prog 137=some (false,1)) (by kernel_rfl) (id (by kernel_rfl):al Tryz.prog 137=some .nilFunc) rfl Tryz.underlying128 (by intro k h;cases h) WL.app (fun w' aB=>AppX.one1 (aB.has _ _ (List.mem_append_right _ List.mem_cons_self)) rfl rfl) rfl (by rw[Ba,bE];omega) (fun v2 L2 fh _ kz eQ=> ?_)
  have iX:=(aj.app (o:= .cells #[.func (.func fk) #[] cap] 137 (0,0)) lC).grew kz
  have jl:slB (G.p k)≠some (G.d k):=fun e=>by
   obtain⟨arr,ha⟩:=gd WL e
   rw[gl] at ha
   simp[cG] at ha
  have jG:Sx.look L2 (G.d k)=some (cG (G.s k) (G.t k) (G.p k)):=kz.look _ _ jl (aq gl)
  have nt:=aL (w0:=w) jG
  have st:=fun x=>ES (G.s k) (G.t k) (G.p k) v2 x fh.cell
  refine ko @k5 ?_
  first|with_reducible refine ks [] (And.intro @k5 (And.intro @jG (@st))) ?_|refine kp (And.intro @k5 (And.intro @jG (@st))) ?_
  refine⟨_,(ke @k5), ?_⟩
  refine⟨iX.setB,by rw[eA];rfl, ?_⟩
  rw[if_neg (by rw[eA];simp)]
  have WH: ∀b,eG (D++ [(ba, .cells #[.func (.func fk) #[] cap] 137 (0,0))]) b→b∉keys L1:=fun b hb hm=>by
   have:=cY hb (b:=b) (by rw[bO,hO.keys];exact List.mem_append_left _ hm)
   omega
  have vJ: ∀b o,Sx.look L1 b=some o→b≠G.s k→b≠G.d k→slB (G.p k)≠some b→Sx.look (setB L2 (G.d k) (cG (G.s k) (G.t k) v2)) b=some o:=fun b o hb h1 h2 h3=>by
   rw[bH (Ne.symm h2)]
   exact kz.look _ _ h3 (aq ((hO.rest b h1).trans hb))
  obtain⟨oN,mN,dY,fi,fD⟩:=bw
  have Tm:slB (G.p k)≠some (G.s k):=fun e=>by
   obtain⟨arr,ha⟩:=gd cw e
   rw[fq] at ha;cases ha
   obtain⟨es,cl,h,-⟩:=fG;cases h
  have U6:slB v2≠some (G.d k):=fun e=>by
   rcases eQ with h| ⟨b',h,ha⟩
   ·exact jl (by rw[←h];exact e)
   ·rw[h] at e;cases e
    exact WH _ ha (bV (aS.dir k hk))
  refine⟨v2,aS.turn hk (c:=c) (v:= .func (.func fk) #[] cap) (v2:=v2) (vals:=vals) ⟨vJ⟩ ⟨oN,mN, ?_,fi,fD⟩ (ee jG) Ba hF cw (fh.keep fun b o hb ho=> ?_) vR (eQ.imp id fun⟨b',h,ha⟩=>⟨b',h,WH _ ha⟩) qO (by rw[bG];exact rF)⟩
  ·rw[bH DY]
   exact kz.look _ _ Tm (aq dY)
  ·rw[bH (by rintro rfl;exact U6 hb)];exact ho
 ·have e2:=jN eA
  refine ko (And.intro @k5 @e2) ?_
  first|with_reducible refine ks [] @k5 ?_|refine kp @k5 ?_
  refine⟨_,(ke @k5), ?_⟩
  refine⟨bU,rfl, ?_⟩
  rw[if_pos eA]
end Go.Proofs
end
section
open Go Go.Proofs Go.Sx Go.StP
namespace Go.Proofs
set_option maxRecDepth 10000
set_option maxHeartbeats 400000
set_option linter.unusedSimpArgs false
def addF (G:DkG) (bf:Nat):DkG:={G with fb:=G.fb++ [bf]}
def gz (S:DiskL) (f:FileL):DiskL:={S with files:=S.files++ [f]}
theorem yI {S:DiskL} (h:DkOk S) {f:FileL} (hf:f.data.length≤1048576∧f.stl≤f.data.length):DkOk (gz S f):=by
 have e: (gz S f).files.length=S.files.length+1:=by unfold gz;simp
 refine⟨h.seen,h.stl,fun k hk p hp=>by rw[e];exact Nat.lt_succ_of_lt (h.seenN k hk p hp),fun k hk p hp=>by rw[e];exact Nat.lt_succ_of_lt (h.stlN k hk p hp),fun k hk c hc h0=>by rw[e];exact Nat.lt_succ_of_lt (h.pendN k hk c hc h0),fun g hg=> ?_,h.fuse,h.max⟩
 rcases List.mem_append.1 hg with hg|hg
 ·exact h.file g hg
 ·rw[List.mem_singleton.1 hg];exact hf
theorem zU {fb:List Nat} {bf n:Nat} (h:n<fb.length): (fb++ [bf]).getD n 0=fb.getD n 0:=wA 0 n h
theorem DkP.addFile {X:aA} {G:DkG} {S:DiskL} (h:DkP X G S) {bf:Nat} {f:FileL} (hb:Sx.look X bf=some (cQ f)) (hn:bf∉G.fb) (hf:f.data.length≤1048576∧f.stl≤f.data.length):DkP X (addF G bf) (gz S f):=by
 have hl:=h.len
 have WS: ∀ {b:Nat} {l:NmL},(∀p,p∈l→p.2<S.files.length)→NmM X G.fb b l→NmM X (G.fb++ [bf]) b l:=by
  rintro b l aC ⟨o,m,h1,h2,h3⟩
  exact⟨o,m,h1,h2,h3.mono fun p hp=>zU (by have:=aC p hp;omega)⟩
 refine⟨h.disk,h.dirs,h.dir,fun k hk=>WS (h.ok.seenN k hk) (h.seen k hk),fun k hk=>WS (h.ok.stlN k hk) (h.stl k hk),fun k hk=> ?_,fun n aN=> ?_, ?_, ?_,h.nodm,h.nodd,h.nodb,h.nodp,yI h.ok hf⟩
 ·obtain⟨vals,h1,h2,h3⟩:=h.pend k hk
  refine⟨vals,h1,h2,fun i hi=> ?_⟩
  have hF:=h3 i hi
  have hm: ((S.dir k).pend.getD i jx)∈ (S.dir k).pend:=by
   rw[List.getD_eq_getElem?_getD,List.getElem?_eq_getElem (by omega)];exact List.getElem_mem _
  have hc:=h.ok.pendN k hk _ hm
  show FnP X (G.fb++ [bf]) (vals.getD i undef) ((S.dir k).pend.getD i jx)
  generalize (S.dir k).pend.getD i jx=c at*
  unfold FnP at hF ⊢
  split at hF
  ·rename_i jg
   rw[zU (by have:=hc jg;omega)]
   exact hF
  ·exact hF
  ·exact hF
 ·have mm:n<S.files.length+1:=by
   have: (gz S f).files.length=S.files.length+1:=by unfold gz;simp
   omega
  show Sx.look X ((G.fb++ [bf]).getD n 0)=some (cQ ((S.files++ [f]).getD n dC))
  by_cases e:n=S.files.length
  ·subst e
   rw[ut _ _ hl,ut _ _ rfl];exact hb
  ·rw[wA _ _ (by omega),wA _ _ (by omega)]
   exact h.file n (by omega)
 ·show(G.fb++ [bf]).length=(S.files++ [f]).length
  rw[List.length_append,List.length_append,hl];rfl
 ·show(G.fb++ [bf]).Nodup
  refine List.nodup_append.2 ⟨h.nodf,by simp,fun a ha b dZ=> ?_⟩
  rw[List.mem_singleton.1 dZ]
  rintro rfl;exact hn ha
theorem LX:fU (cX Tryz.prog 126) (al Tryz.prog 126) []=some (.agg #[vs [],vi 0]):=by
 rw[show cX Tryz.prog 126=some [(0,1),(1,1)] from id (by kernel_rfl),show al Tryz.prog 126=some (.agg #[vs [],vi 0]) from id (by kernel_rfl)];rfl
theorem Rk:al Tryz.prog 124=some (.pointer none):=zrPf
theorem LK (b:Nat) (a:Bool):ac (some (a,1)) (some (.cells (Value.pointer none).cells 124 (0,0))) 0 (vp b 0)=some (iC b):=
 d9 [] [.pointer none] [vp b 0] [] a _ 124 rfl rfl rfl rfl rfl
set_option linter.defProp false
def ju:=And.intro (@ay) (And.intro (@ax) (@LK))
theorem XP (name:List UInt8) (w:World):Rets Tryz.prog 117 #[vs name] w (XS w [] (fun v D=> ∃bp bn bf,v= .func (.func 159) #[] #[vp bp 0,vp bn 0]∧Sx.look D bp=some (iC bf)∧Sx.look D bn=some (dI name)∧Sx.look D bf=some (cQ dC))):=by
 refine Rets.enterX Tryz.func117 rfl (rs:= [.tmp 2]) Tryz.results117 Tryz.ntmps117 (fun p hp=>by cases hp) (by simp[keys]) ?_
 refine kf ?_
 first|with_reducible refine ks [] @ju ?_|refine kp @ju ?_
 refine Ow.box rfl rfl fun bn eA o6=> ?_
 simp only[eU,eT,ed,List.nil_append]
 refine ko @ju ?_
 first|with_reducible refine ks [] @ju ?_|refine kp @ju ?_
 refine Ow.build (.agg #[vs [],vi 0]) rfl LX ?_
 refine ko @ju ?_
 refine Ow.box rfl rfl fun bf DT hwf=> ?_
 simp only[eU,eT,ed,bL]
 refine ko @ju ?_
 refine Ow.alloc rfl rfl Rk fun bp vD Bb=> ?_
 have h1:bn<bf:=cY DT (by simp[keys])
 have h2:bn<bp:=cY vD (by simp[keys])
 have h3:bf<bp:=cY vD (by simp[keys])
 refine Ow.permL (M:= [(bp, .cells (Value.pointer none).cells 124 (0,0)),(bf, .cells #[vs [],vi 0] 126 (0,0)),(bn, .cells (vs name).cells 9 (0,0))]) (by classical exact List.perm_iff_count.2 fun a=>by simp only[List.count_append,List.count_cons,List.count_nil]<;>omega) ?_
 refine ko @ju ?_
 first|with_reducible refine ks [] @ju ?_|refine kp @ju ?_
 refine⟨_,(ke @ju), ?_⟩
 refine⟨Ext.of_new ⟨Bb,hwf,o6,trivial⟩,bp,bn,bf, ?_, ?_, ?_, ?_⟩
 ·simp only[ck,List.map_toArray,List.map_cons,List.map_nil,eU,eT,ed]
 ·simp[Sx.look]
 ·simp[Sx.look,show bp≠bn by omega,show bf≠bn by omega];rfl
 ·simp[Sx.look,show bp≠bf by omega];rfl
theorem Xq (name:List UInt8) (w:World):Rets Tryz.prog 122 #[vs name] w (XS w [] (fun v D=> ∃bn,v= .func (.func 161) #[] #[vp bn 0]∧Sx.look D bn=some (dI name))):=by
 refine Rets.enterX Tryz.func122 rfl (rs:= [.tmp 2]) Tryz.results122 Tryz.ntmps122 (fun p hp=>by cases hp) (by simp[keys]) ?_
 refine kf ?_
 first|with_reducible refine ks [] @ju ?_|refine kp @ju ?_
 refine Ow.box rfl rfl fun bn eA o6=> ?_
 simp only[eU,eT,ed,List.nil_append]
 refine ko @ju ?_
 first|with_reducible refine ks [] @ju ?_|refine kp @ju ?_
 refine⟨_,(ke @ju), ?_⟩
 exact⟨Ext.of_new ⟨o6,trivial⟩,bn,by simp only[ck,List.map_toArray,List.map_cons,List.map_nil,eU,eT,ed],by simp[Sx.look];rfl⟩
end Go.Proofs
end
section
open Go Go.Proofs Go.Sx Go.StP
namespace Go.Proofs
set_option maxRecDepth 10000
set_option maxHeartbeats 400000
set_option linter.unusedSimpArgs false
def mU (S:DiskL) (dir name:List UInt8):DiskL×Nat:=
 if dV S dir [name]≠0 then(S,dV S dir [name]) else match atD S dir name with
  |some _=>(S,7)
  |none=>if(aG S).2≠0 then aG S else(lH (gz (aG S).1 dC) ((bT dir).getD 0) ⟨0,name,[],S.files.length⟩,0)
def dp (S:DiskL) (dir name:List UInt8):DiskL×Nat:=
 if dV S dir [name]≠0 then(S,dV S dir [name]) else match atD S dir name with
  |none=>(S,6)
  |some _=>if(aG S).2≠0 then aG S else(lH (aG S).1 ((bT dir).getD 0) ⟨2,name,[],0⟩,0)
def mV (S:DiskL) (dir name to:List UInt8):DiskL×Nat:=
 if dV S dir [name,to]≠0 then(S,dV S dir [name,to]) else match atD S dir name with
  |none=>(S,6)
  |some _=>if name=to then aG S else if(aG S).2≠0 then aG S else(lH (aG S).1 ((bT dir).getD 0) ⟨1,name,to,0⟩,0)
theorem K5 (S:DiskL) (f:FileL):aG (gz S f)=(gz (aG S).1 f,(aG S).2):=by
 unfold aG
 by_cases h1:S.fused=true∧S.fuse=0
 ·rw[if_pos h1,if_pos (by exact h1)];rfl
 ·rw[if_neg h1,if_neg (by exact h1)]
  by_cases h2:S.fused=true
  ·rw[if_pos h2,if_pos (by exact h2)];rfl
  ·rw[if_neg h2,if_neg (by exact h2)]
theorem Qn (b o:Nat):bA Tryz.prog .neq 124 (vp b o) (.pointer none)=some (.bool true):=by
 simp[bA,eqX,gb,gB,Tryz.underlying124,vp]
theorem Pp:bA Tryz.prog .neq 124 (.pointer none) (.pointer none)=some (.bool false):=by
 simp[bA,eqX,gb,gB,Tryz.underlying124]
theorem Cr {L D:aA} {B:Nat} (hA:eG L B) (hN:New B D) {b:Nat} {o:Obj} (h:Sx.look D b=some o):Sx.look (L++D) b=some o:=by
 rw[iB (fun hm=>by have:=cY hA hm;have:=hN.le b (bV h);omega)];exact h
theorem DkP.fb_key {X:aA} {G:DkG} {S:DiskL} (h:DkP X G S) {b:Nat} (hb:b∈G.fb):b∈keys X:=by
 obtain⟨n,hn,rfl⟩:=List.getElem_of_mem hb
 have:=h.file n (by rw[←h.len];exact hn)
 rw[List.getD_eq_getElem?_getD,List.getElem?_eq_getElem hn] at this
 exact bV this
set_option linter.defProp false
def ao:=And.intro (And.intro (And.intro (And.intro (@ay) (@ax)) (And.intro (@lD) (@vd))) (And.intro (And.intro (@mT) (@mR)) (And.intro (@mS) (And.intro (@uc) (@ud))))) (And.intro (And.intro (And.intro (@wT) (@lw)) (And.intro (@uq) (@nQ))) (And.intro (And.intro (@nH) (@Qn)) (And.intro (@Pp) (And.intro (@Sx.tup2_0) (@Sx.tup2_1)))))
theorem GB (X:aA) (G:DkG) (S:DiskL) (dir name:List UInt8) (w:World) (hX: ∀p,p∈X→w.heap[p.1]? =some p.2) (hn: (keys X).Nodup) (hP:DkP X G S) (eF:name.length<1099511627776) (fT: ∀k,k<3→(S.dir k).pend.length<1000000):
  Rets Tryz.prog 72 #[vp G.bd 0,vs dir,vs name] w (XS w X (fun v D=>v=vi ((mU S dir name).2:Nat)∧ ∃G',G'.bd=G.bd∧DkP D G' (mU S dir name).1)):=by
 refine Rets.enterX Tryz.func72 rfl (rs:= [.tmp 6]) Tryz.results72 Tryz.ntmps72 hX hn ?_
 refine kf ?_
 first|with_reducible refine ks [] @ao ?_|refine kp @ao ?_
 refine Ow.buildSlice (e:=9) #[vs name] rfl rfl (by kernel_rfl) fun b1 bE aJ=> ?_
 have aS:=hP.mono (X':=X++ [(b1,Obj.cells #[vs name] 9 (0,0))]) fun b o h=>aq h
 have bU:=(Ext.refl w X).app (o:=Obj.cells #[vs name] 9 (0,0)) aJ
 have eO: (b1,Obj.cells #[vs name] 9 (0,0))∈X++ [(b1,Obj.cells #[vs name] 9 (0,0))]:=by simp
 generalize X++ [(b1,Obj.cells #[vs name] 9 (0,0))]=L1 at*
 refine ko @ao ?_
 refine Ow.callC rfl rfl Tryz.call80 (fun w' aB=>Rets.toX (rk w' G S dir (vsl b1 0 1 1) [name] (aS.world aB) (nI (aB.has _ _ eO)) (by simp) (by simpa using eF))) (fun B2 v2 D2 ai fh bw bl=> ?_)
 obtain⟨rfl,bl⟩:=bl
 rw[List.append_nil]
 clear eO ai bw
 unfold mU atD
 rcases bl with⟨he,rfl⟩ | ⟨he,k,hk,rfl⟩
 ·have e1:=jN he
  refine ko @ao ?_
  first|with_reducible refine ks [] (And.intro @ao @e1) ?_|refine kp (And.intro @ao @e1) ?_
  refine⟨_,(ke @ao), ?_⟩
  rw[if_pos he]
  exact⟨bU,rfl,G,rfl,aS⟩
 ·have mj: ¬ (dV S dir [name]≠0):=by rw[he];simp
  have aa:=(g5 hk).1
  have et:=aL (w0:=w) (aS.dir k aa)
  obtain⟨os,ms,fq,fG,gP⟩:=aS.seen k aa
  have kG:=aL (w0:=w) fq
  have e1: ((0:Int) !=0)=false:=rfl
  refine ko @ao ?_
  first|with_reducible refine ks [] (And.intro @ao (And.intro @e1 (@et))) ?_|refine kp (And.intro @ao (And.intro @e1 (@et))) ?_
  refine Ow.mapGetG (encK:=vs) (encV:=ab) (k:=name) (z:=none) rfl rfl Tryz.underlying127 gr zrPf rfl rfl kG fG ?_
  rw[gP.get (hP.ok.seen k aa).nodup]
  show Ow _ _ _ _ _ _ _ _
  have hq: (bT dir).bind (fun k=>aV (S.dir k).seen name)=aV (S.dir k).seen name:=by rw[hk];rfl
  cases hf:aV (S.dir k).seen name with
  |some n=>
   have hp: ∀q:Nat,ab (some q)=vp q 0:=fun _=>rfl
   refine ko (And.intro @ao @hp) ?_
   first|with_reducible refine ks [] @ao ?_|refine kp @ao ?_
   refine⟨_,(ke @ao), ?_⟩
   rw[if_neg mj,hq,hf]
   exact⟨bU,rfl,G,rfl,aS⟩
  |none=>
   have g9:ab none= .pointer none:=rfl
   refine ko (And.intro @ao @g9) ?_
   first|with_reducible refine ks [] @ao ?_|refine kp @ao ?_
   refine Ow.callC rfl rfl Tryz.call117 (fun w' aB=>XP name w') (fun B3 v3 D3 cv kg dY fE=> ?_)
   obtain⟨bp,bn,bf,rfl,vD,eA,DT⟩:=fE
   have aw:=aS.mono (X':=L1++D3) fun b o h=>aq h
   have Sa:=Cr cv dY vD
   have tf:=Cr cv dY eA
   have SW:=Cr cv dY DT
   have TS:bf∉G.fb:=fun hm=>by
    have h1:=cY cv (aS.fb_key hm)
    have h2:=dY.le bf (bV DT)
    omega
   have dy:=aw.addFile SW TS (f:=dC) ⟨by decide,by decide⟩
   have aj:Ext w X (L1++D3):=⟨fun c hc=>by
    rw[bO] at hc
    rcases List.mem_append.1 hc with hc|hc
    ·exact bU.new c hc
    ·exact .inr (Nat.le_trans kg (dY.le c hc)),fun c hc=>by rw[bO];exact List.mem_append_left _ (bU.all c hc)⟩
   generalize L1++D3=L3 at*
   refine ko @ao ?_
   refine Ow.callX (X:=L3) (Y:= []) (List.append_nil _).symm rfl rfl Tryz.call116 (fun w' aB aQ aN=>UP L3 (addF G bf) (gz S dC) k ⟨0,name,[],S.files.length⟩ _ w' aQ aN dy aa ⟨bp,bn,rfl,by show Sx.look L3 bp=some (iC ((G.fb++ [bf]).getD S.files.length 0));rw[ut _ _ hP.len];exact Sa,tf⟩ (fun h=>by cases h) (fun _=>by show S.files.length< (S.files++ [dC]).length;simp) (fT k aa)) (fun v4 D4 au aZ=> ?_)
   rw[K5] at aZ
   obtain⟨rfl,aZ⟩:=aZ
   simp only at aZ
   have dR:=aj.came0 au
   rw[List.append_nil]
   refine ko @ao ?_
   first|with_reducible refine ks [] @ao ?_|refine kp @ao ?_
   refine⟨_,(ke @ao), ?_⟩
   rw[if_neg mj,hq,hf]
   simp only
   by_cases dj: (aG S).2=0
   ·rw[if_neg (by rw[dj];simp)] at aZ
    rw[if_neg (by rw[dj];simp)]
    obtain⟨v5,mh⟩:=aZ
    rw[hk]
    exact⟨dR,by rw[dj];rfl,setP (addF G bf) k v5,rfl,mh⟩
   ·rw[if_pos dj] at aZ
    rw[if_pos dj]
    subst aZ
    obtain⟨bE,bG,gM⟩:=la S
    exact⟨dR,rfl,G,rfl,aw.setDisk (aG S).1 bE bG (oF hP.ok)⟩
theorem UG (X:aA) (G:DkG) (S:DiskL) (dir name:List UInt8) (w:World) (hX: ∀p,p∈X→w.heap[p.1]? =some p.2) (hn: (keys X).Nodup) (hP:DkP X G S) (eF:name.length<1099511627776) (fT: ∀k,k<3→(S.dir k).pend.length<1000000):
  Rets Tryz.prog 77 #[vp G.bd 0,vs dir,vs name] w (XS w X (fun v D=>v=vi ((dp S dir name).2:Nat)∧ ∃G',G'.bd=G.bd∧DkP D G' (dp S dir name).1)):=by
 refine Rets.enterX Tryz.func77 rfl (rs:= [.tmp 6]) Tryz.results77 Tryz.ntmps77 hX hn ?_
 refine kf ?_
 first|with_reducible refine ks [] @ao ?_|refine kp @ao ?_
 refine Ow.buildSlice (e:=9) #[vs name] rfl rfl (by kernel_rfl) fun b1 bE aJ=> ?_
 have aS:=hP.mono (X':=X++ [(b1,Obj.cells #[vs name] 9 (0,0))]) fun b o h=>aq h
 have bU:=(Ext.refl w X).app (o:=Obj.cells #[vs name] 9 (0,0)) aJ
 have eO: (b1,Obj.cells #[vs name] 9 (0,0))∈X++ [(b1,Obj.cells #[vs name] 9 (0,0))]:=by simp
 generalize X++ [(b1,Obj.cells #[vs name] 9 (0,0))]=L1 at*
 refine ko @ao ?_
 refine Ow.callC rfl rfl Tryz.call80 (fun w' aB=>Rets.toX (rk w' G S dir (vsl b1 0 1 1) [name] (aS.world aB) (nI (aB.has _ _ eO)) (by simp) (by simpa using eF))) (fun B2 v2 D2 ai fh bw bl=> ?_)
 obtain⟨rfl,bl⟩:=bl
 rw[List.append_nil]
 clear eO ai bw
 unfold dp atD
 rcases bl with⟨he,rfl⟩ | ⟨he,k,hk,rfl⟩
 ·have e1:=jN he
  refine ko @ao ?_
  first|with_reducible refine ks [] (And.intro @ao @e1) ?_|refine kp (And.intro @ao @e1) ?_
  refine⟨_,(ke @ao), ?_⟩
  rw[if_pos he]
  exact⟨bU,rfl,G,rfl,aS⟩
 ·have mj: ¬ (dV S dir [name]≠0):=by rw[he];simp
  have aa:=(g5 hk).1
  have et:=aL (w0:=w) (aS.dir k aa)
  obtain⟨os,ms,fq,fG,gP⟩:=aS.seen k aa
  have kG:=aL (w0:=w) fq
  have e1: ((0:Int) !=0)=false:=rfl
  refine ko @ao ?_
  first|with_reducible refine ks [] (And.intro @ao (And.intro @e1 (@et))) ?_|refine kp (And.intro @ao (And.intro @e1 (@et))) ?_
  refine Ow.mapGetG (encK:=vs) (encV:=ab) (k:=name) (z:=none) rfl rfl Tryz.underlying127 gr zrPf rfl rfl kG fG ?_
  rw[gP.get (hP.ok.seen k aa).nodup]
  show Ow _ _ _ _ _ _ _ _
  have hq: (bT dir).bind (fun k=>aV (S.dir k).seen name)=aV (S.dir k).seen name:=by rw[hk];rfl
  cases hf:aV (S.dir k).seen name with
  |none=>
   have g9:ab none= .pointer none:=rfl
   refine ko (And.intro @ao @g9) ?_
   first|with_reducible refine ks [] @ao ?_|refine kp @ao ?_
   refine⟨_,(ke @ao), ?_⟩
   rw[if_neg mj,hq,hf]
   exact⟨bU,rfl,G,rfl,aS⟩
  |some n=>
   have hp: ∀q:Nat,ab (some q)=vp q 0:=fun _=>rfl
   refine ko (And.intro @ao @hp) ?_
   first|with_reducible refine ks [] @ao ?_|refine kp @ao ?_
   refine Ow.callC rfl rfl Tryz.call122 (fun w' aB=>Xq name w') (fun B3 v3 D3 cv kg dY fE=> ?_)
   obtain⟨bn,rfl,eA⟩:=fE
   have aw:=aS.mono (X':=L1++D3) fun b o h=>aq h
   have tf:=Cr cv dY eA
   have aj:Ext w X (L1++D3):=⟨fun c hc=>by
    rw[bO] at hc
    rcases List.mem_append.1 hc with hc|hc
    ·exact bU.new c hc
    ·exact .inr (Nat.le_trans kg (dY.le c hc)),fun c hc=>by rw[bO];exact List.mem_append_left _ (bU.all c hc)⟩
   generalize L1++D3=L3 at*
   refine ko @ao ?_
   refine Ow.callX (X:=L3) (Y:= []) (List.append_nil _).symm rfl rfl Tryz.call116 (fun w' aB aQ aN=>UP L3 G S k ⟨2,name,[],0⟩ _ w' aQ aN aw aa ⟨bn,rfl,tf⟩ (fun h=>by cases h) (fun h=>by cases h) (fT k aa)) (fun v4 D4 au aZ=> ?_)
   obtain⟨rfl,aZ⟩:=aZ
   have dR:=aj.came0 au
   rw[List.append_nil]
   refine ko @ao ?_
   first|with_reducible refine ks [] @ao ?_|refine kp @ao ?_
   refine⟨_,(ke @ao), ?_⟩
   rw[if_neg mj,hq,hf]
   simp only
   by_cases dj: (aG S).2=0
   ·rw[if_neg (by rw[dj];simp)] at aZ
    rw[if_neg (by rw[dj];simp)]
    obtain⟨v5,mh⟩:=aZ
    rw[hk]
    exact⟨dR,by rw[dj];rfl,setP G k v5,rfl,mh⟩
   ·rw[if_pos dj] at aZ
    rw[if_pos dj]
    subst aZ
    obtain⟨bE,bG,gM⟩:=la S
    exact⟨dR,rfl,G,rfl,aw.setDisk (aG S).1 bE bG (oF hP.ok)⟩
theorem G6 (X:aA) (G:DkG) (S:DiskL) (dir name to:List UInt8) (w:World) (hX: ∀p,p∈X→w.heap[p.1]? =some p.2) (hn: (keys X).Nodup) (hP:DkP X G S) (eF:name.length<1099511627776) (hto:to.length<1099511627776) (fT: ∀k,k<3→(S.dir k).pend.length<1000000):
  Rets Tryz.prog 76 #[vp G.bd 0,vs dir,vs name,vs to] w (XS w X (fun v D=>v=vi ((mV S dir name to).2:Nat)∧ ∃G',G'.bd=G.bd∧DkP D G' (mV S dir name to).1)):=by
 refine Rets.enterX Tryz.func76 rfl (rs:= [.tmp 8]) Tryz.results76 Tryz.ntmps76 hX hn ?_
 refine kf ?_
 first|with_reducible refine ks [] @ao ?_|refine kp @ao ?_
 refine Ow.box rfl rfl fun b6 SQ XA=> ?_
 simp only[eU,eT,ed]
 refine ko @ao ?_
 refine Ow.box rfl rfl fun b7 vC o5=> ?_
 simp only[eU,eT,ed]
 refine Ow.permL (M:=X++ [(b6,dI name)]++ [(b7,dI to)]) (List.Perm.refl _) ?_
 have kl:=hP.mono (X':=X++ [(b6,dI name)]++ [(b7,dI to)]) fun b o h=>aq (aq h)
 have k7:=((Ext.refl w X).app (o:=dI name) XA).app (o:=dI to) o5
 have Ao:Sx.look (X++ [(b6,dI name)]++ [(b7,dI to)]) b6=some (dI name):=aq (p5 SQ)
 have rO:Sx.look (X++ [(b6,dI name)]++ [(b7,dI to)]) b7=some (dI to):=p5 vC
 generalize X++ [(b6,dI name)]++ [(b7,dI to)]=L0 at*
 have ob:=aL (w0:=w) Ao
 have jJ:=aL (w0:=w) rO
 refine ko @ao ?_
 first|with_reducible refine ks [] (And.intro @ao (And.intro @ob (@jJ))) ?_|refine kp (And.intro @ao (And.intro @ob (@jJ))) ?_
 refine Ow.buildSlice (e:=9) #[vs name,vs to] rfl rfl (by kernel_rfl) fun b1 bE aJ=> ?_
 have aS:=kl.mono (X':=L0++ [(b1,Obj.cells #[vs name,vs to] 9 (0,0))]) fun b o h=>aq h
 have bU:=k7.app (o:=Obj.cells #[vs name,vs to] 9 (0,0)) aJ
 have eO: (b1,Obj.cells #[vs name,vs to] 9 (0,0))∈L0++ [(b1,Obj.cells #[vs name,vs to] 9 (0,0))]:=by simp
 have Ao:=aq (M:= [(b1,Obj.cells #[vs name,vs to] 9 (0,0))]) Ao
 have rO:=aq (M:= [(b1,Obj.cells #[vs name,vs to] 9 (0,0))]) rO
 generalize L0++ [(b1,Obj.cells #[vs name,vs to] 9 (0,0))]=L1 at*
 have ob:=aL (w0:=w) Ao
 have jJ:=aL (w0:=w) rO
 have BA: ∀s,s∈ [name,to]→s.length<1099511627776:=by
  intro s hs
  simp only[List.mem_cons,List.not_mem_nil,or_false] at hs
  rcases hs with rfl|rfl
  ·exact eF
  ·exact hto
 refine ko @ao ?_
 refine Ow.callC rfl rfl Tryz.call80 (fun w' aB=>Rets.toX (rk w' G S dir (vsl b1 0 2 2) [name,to] (aS.world aB) (Qd (aB.has _ _ eO)) (by simp) BA)) (fun B2 v2 D2 ai fh bw bl=> ?_)
 obtain⟨rfl,bl⟩:=bl
 rw[List.append_nil]
 clear eO ai bw BA
 unfold mV atD
 rcases bl with⟨he,rfl⟩ | ⟨he,k,hk,rfl⟩
 ·have e1:=jN he
  refine ko @ao ?_
  first|with_reducible refine ks [] (And.intro @ao @e1) ?_|refine kp (And.intro @ao @e1) ?_
  refine⟨_,(ke @ao), ?_⟩
  rw[if_pos he]
  exact⟨bU,rfl,G,rfl,aS⟩
 ·have mj: ¬ (dV S dir [name,to]≠0):=by rw[he];simp
  have aa:=(g5 hk).1
  have et:=aL (w0:=w) (aS.dir k aa)
  obtain⟨os,ms,fq,fG,gP⟩:=aS.seen k aa
  have kG:=aL (w0:=w) fq
  have e1: ((0:Int) !=0)=false:=rfl
  have hq: (bT dir).bind (fun k=>aV (S.dir k).seen name)=aV (S.dir k).seen name:=by rw[hk];rfl
  refine ko @ao ?_
  first|with_reducible refine ks [] (And.intro @ao @e1) ?_|refine kp (And.intro @ao @e1) ?_
  refine Cw.regionS [G.d k,b6] [0,1,2,3,4,5,6,7] [] (by kernel_rfl) (by kernel_rfl) (by kernel_rfl) ?_
  simp only[ar, ↓ap, ↓ag, ↓an, ↓am,ah]
  refine kq (And.intro @ao (And.intro @et (@ob))) ?_
  refine Ow.soft rfl rfl rfl ?_
  refine Ow.mapGetG (encK:=vs) (encV:=ab) (k:=name) (z:=none) rfl rfl Tryz.underlying127 gr zrPf rfl rfl kG fG ?_
  with_reducible refine Ow.nil ?_
  refine⟨by intro b hb;simp only[List.mem_cons,List.not_mem_nil,or_false] at hb;(try subst hb);rfl, ?_⟩
  rw[gP.get (hP.ok.seen k aa).nodup]
  show Ow _ _ _ _ _ _ _ _
  cases hf:aV (S.dir k).seen name with
  |none=>
   have g9:ab none= .pointer none:=rfl
   refine kq (And.intro @ao @g9) ?_
   try with_reducible refine Ow.nil ?_
   first|with_reducible refine ks [] @ao ?_|refine kp @ao ?_
   refine⟨_,(ke @ao), ?_⟩
   rw[if_neg mj,hq,hf]
   exact⟨bU,rfl,G,rfl,aS⟩
  |some n=>
   have hp: ∀q:Nat,ab (some q)=vp q 0:=fun _=>rfl
   have rD:G.bd∈keys L1:=bV aS.disk
   obtain⟨bE,bG,gM⟩:=la S
   refine kq (And.intro @ao @hp) ?_
   try with_reducible refine Ow.nil ?_
   cases nq: (name==to) with
   |true=>
    have qM:name=to:=eq_of_beq nq
    first|with_reducible refine ks [] (And.intro @ao (And.intro @ob (And.intro @jJ (@nq)))) ?_|refine kp (And.intro @ao (And.intro @ob (And.intro @jJ (@nq)))) ?_
    refine Ow.callM rfl rfl Tryz.call81 rD (fun w' aB=>Bf G.bd G.bm S w' hP.ok.fuse (aB.has _ _ (bh aS.disk))) ?_
    have aw:=aS.setDisk (aG S).1 bE bG (oF hP.ok)
    have aj:=bU.setB (b:=G.bd) (o:=bF G.bm (aG S).1)
    generalize setB L1 G.bd (bF G.bm (aG S).1)=L2 at*
    refine ko @ao ?_
    first|with_reducible refine ks [] @ao ?_|refine kp @ao ?_
    refine⟨_,(ke @ao), ?_⟩
    rw[if_neg mj,hq,hf]
    simp only
    rw[if_pos qM]
    exact⟨aj,rfl,G,rfl,aw⟩
   |false=>
    have qM:name≠to:=fun e=>by rw[e] at nq;simp at nq
    first|with_reducible refine ks [] (And.intro @ao (And.intro @ob (And.intro @jJ (@nq)))) ?_|refine kp (And.intro @ao (And.intro @ob (And.intro @jJ (@nq)))) ?_
    simp only[List.map_toArray,List.map_cons,List.map_nil,eU,eT,ed]
    refine Ow.callX (X:=L1) (Y:= []) (List.append_nil _).symm rfl rfl Tryz.call116 (fun w' aB aQ aN=>UP L1 G S k ⟨1,name,to,0⟩ (.func (.func 121) #[] #[vp b6 0,vp b7 0]) w' aQ aN aS aa ⟨b6,b7,rfl,Ao,rO⟩ (fun _=>⟨by rw[hf];simp,qM⟩) (fun h=>by cases h) (fT k aa)) (fun v4 D4 au aZ=> ?_)
    obtain⟨rfl,aZ⟩:=aZ
    have dR:=bU.came0 au
    rw[List.append_nil]
    refine ko @ao ?_
    first|with_reducible refine ks [] @ao ?_|refine kp @ao ?_
    refine⟨_,(ke @ao), ?_⟩
    rw[if_neg mj,hq,hf]
    simp only
    rw[if_neg qM]
    by_cases dj: (aG S).2=0
    ·rw[if_neg (by rw[dj];simp)] at aZ
     rw[if_neg (by rw[dj];simp)]
     obtain⟨v5,mh⟩:=aZ
     rw[hk]
     exact⟨dR,by rw[dj];rfl,setP G k v5,rfl,mh⟩
    ·rw[if_pos dj] at aZ
     rw[if_pos dj]
     subst aZ
     exact⟨dR,rfl,G,rfl,aS.setDisk (aG S).1 bE bG (oF hP.ok)⟩
end Go.Proofs
end
section
open Go Go.Proofs Go.Sx Go.StP
namespace Go.Proofs
set_option maxRecDepth 10000
set_option maxHeartbeats 400000
set_option linter.unusedSimpArgs false
structure CpG where
 L:aA
 it:Obj
 o:Obj
 dn:List (List UInt8×Option Nat)
 lf:List (List UInt8×Option Nat)
theorem EQ {α β:Type} [BEq α] [LawfulBEq α] {k:α} {v:β}: ∀ {m:List (α×β)},(∀p,p∈m→p.1≠k)→updG k v m=m++ [(k,v)]
 | [],_=>rfl
 |p::r,h=>by
  have h1: (k==p.1)=false:=beq_eq_false_iff_ne.2 fun e=>h p List.mem_cons_self e.symm
  unfold updG
  rw[if_neg (by rw[h1];simp),EQ fun q hq=>h q (List.mem_cons_of_mem _ hq)];rfl
set_option linter.defProp false
def iL:=And.intro (And.intro (And.intro (@ay) (@ax)) (And.intro (@Sx.tup2_0) (@Sx.tup2_1))) (And.intro (And.intro (@qu) (@Sx.tup3_0)) (And.intro (@Sx.tup3_1) (@Sx.tup3_2)))
theorem Jb (X:aA) (bt bs:Nat) (ot os:Obj) (m:List (List UInt8×Option Nat)) (w:World) (hX: ∀p,p∈X→w.heap[p.1]? =some p.2) (hn: (keys X).Nodup)
  (ht:Sx.look X bt=some ot) (jh:eD vs ab ot ([]:List (List UInt8×Option Nat))) (hs:Sx.look X bs=some os) (fG:eD vs ab os m) (ad:bt≠bs) (av: (m.map Prod.fst).Nodup):
  Rets Tryz.prog 120 #[vm bt,vm bs] w (XS w X (fun v D=>v=ck []∧(∀b o,b≠bt→Sx.look X b=some o→Sx.look D b=some o)∧ ∃o' m',Sx.look D bt=some o'∧eD vs ab o' m'∧m'.Perm m)):=by
 refine Rets.enterX Tryz.func120 rfl (rs:= []) Tryz.results120 Tryz.ntmps120 hX hn ?_
 refine kf ?_
 first|with_reducible refine ks [] @iL ?_|refine kp @iL ?_
 refine Ow.rangeMapG (encK:=vs) (encV:=ab) rfl rfl Tryz.underlying127 rfl (aL hs) fG fun bi oi AQ gp hI=> ?_
 have tc: ∀b o,Sx.look X b=some o→b≠bi:=fun b o hb e=>by
  have:=cY AQ (bV hb)
  omega
 refine ko @iL ?_
 first|with_reducible refine ks [] @iL ?_|refine kp @iL ?_
 refine Cw.loopG (G:=CpG) [8,9,10,11,12,4,5,13,14,15] (fun g=> []) (fun g=>g.L) (fun g=>Sx.look g.L bi=some g.it∧Sx.look g.L bt=some g.o∧eD vs ab g.o g.dn∧(∀b o,b≠bt→Sx.look X b=some o→Sx.look g.L b=some o)∧Ext w X g.L∧ItG vs ab g.it bs os m g.dn g.lf) (fun g=>g.lf.length) ⟨X++ [(bi,oi)],oi,ot,[],m⟩ rfl rfl ?_ ?_
 ·exact⟨p5 AQ,aq ht,jh,fun b o _ hb=>aq hb,(Ext.refl w X).app gp,hI⟩
 intro g j hg
 refine kv ?_
 clear hI
 obtain⟨L,it,o,dn,lf⟩:=g
 simp only at hg ⊢
 obtain⟨Aq,aC,rP,fZ,hE,hI⟩:=hg
 have Wp:=fZ bs os (Ne.symm ad) hs
 have cS:bt≠bi:=tc _ _ ht
 have Tz:bs≠bi:=tc _ _ hs
 first|with_reducible refine ks [] @iL ?_|refine kp @iL ?_
 refine Ow.nextMapG rfl rfl rfl Aq (aL Wp) hI (fun kD=> ?_) (fun p it' lf' l6 kj=> ?_)
 ·subst kD
  have hp:=rr hI
  rw[List.append_nil] at hp
  refine ko @iL ?_
  first|with_reducible refine ks [] @iL ?_|refine kp @iL ?_
  refine⟨_,(ke @iL), ?_⟩
  exact⟨hE,rfl,fZ,o,dn,aC,rP,hp⟩
 ·have h1:Sx.look (setB L bi it') bi=some it':=ee Aq
  have h2:Sx.look (setB L bi it') bt=some o:=by rw[bH (Ne.symm cS)];exact aC
  have h3:Sx.look (setB L bi it') bs=some os:=by rw[bH (Ne.symm Tz)];exact Wp
  have h4: ∀b o,b≠bt→Sx.look X b=some o→Sx.look (setB L bi it') b=some o:=fun b o hb hx=>by rw[bH (Ne.symm (tc _ _ hx))];exact fZ b o hb hx
  have bU:=hE.setB (b:=bi) (o:=it')
  generalize setB L bi it'=L1 at*
  refine ko @iL ?_
  first|with_reducible refine ks [] @iL ?_|refine kp @iL ?_
  refine Ow.entryMapG (encK:=vs) (encV:=ab) rfl rfl rfl (aL h1) (aL h3) kj ?_
  obtain⟨s,q⟩:=p
  have hp:=rr kj
  have DY: ∀p,p∈dn→p.1≠s:=by
   have h5:=((hp.map Prod.fst).nodup_iff).2 av
   rw[List.map_append,List.map_append,List.nodup_append] at h5
   have h6:=h5.1
   rw[List.nodup_append] at h6
   intro p qR e
   exact h6.2.2 p.1 (List.mem_map_of_mem qR) s (by simp) e
  refine ko @iL ?_
  first|with_reducible refine ks [] @iL ?_|refine kp @iL ?_
  refine Ow.mapUpdateG (encK:=vs) (encV:=ab) (k:=s) (v:=q) rfl rfl Tryz.underlying127 gr rfl rfl rfl h2 rP (fun o2 lV=> ?_)
  rw[EQ DY] at lV
  refine ko @iL ?_
  first|with_reducible refine ks [] @iL ?_|refine kp @iL ?_
  exact Again.mk ⟨setB L1 bt o2,it',o2,dn++ [(s,q)],lf'⟩ (by show lf'.length<lf.length;omega) ⟨by show Sx.look (setB L1 bt o2) bi=_;rw[bH cS];exact h1,ee h2,lV,fun b o hb hx=>by show Sx.look (setB L1 bt o2) b=_;rw[bH (Ne.symm hb)];exact h4 b o hb hx,bU.setB,kj⟩ rfl rfl
end Go.Proofs
end
section
open Go Go.Proofs Go.Sx Go.StP
namespace Go.Proofs
set_option maxRecDepth 10000
set_option maxHeartbeats 400000
set_option linter.unusedSimpArgs false
def nM (G:DkG) (k s':Nat):DkG:={G with s:=fun j=>if j=k then s' else G.s j,p:=fun j=>if j=k then .slice none 0 0 else G.p j}
theorem DkP.calm {X L:aA} {G:DkG} {S:DiskL} (h:DkP X G S) {k:Nat} (hk:k<3) {s':Nat} (d:DirL) (rG:d.pend= [])
  (keep: ∀b o,Sx.look X b=some o→b≠G.t k→b≠G.d k→Sx.look L b=some o) (hs:NmM L G.fb s' d.seen) (ht:NmM L G.fb (G.t k) d.stl)
  (hd:Sx.look L (G.d k)=some (cG s' (G.t k) (.slice none 0 0))) (iq:s'=G.s k∨s'∉keys X) (h1:SrtN d.seen) (h2:SrtN d.stl) (h3: ∀p,p∈d.seen→p.2<S.files.length) (h4: ∀p,p∈d.stl→p.2<S.files.length):
  DkP L (nM G k s') (dX S k d):=by
 obtain⟨otk,mtk,Tb,TN,-⟩:=h.stl k hk
 have nq: ∀b o,Sx.look X b=some o→tyO o≠none→b≠G.t k:=by
  rintro b o hb ht rfl
  rw[Tb] at hb;cases hb;exact ht (iQ TN)
 have av: ∀b o,Sx.look X b=some o→tyO o≠some 130→b≠G.d k:=by
  rintro b o hb ht rfl
  rw[h.dir k hk] at hb;cases hb;exact ht rfl
 have K: ∀b o,Sx.look X b=some o→tyO o≠none→tyO o≠some 130→Sx.look L b=some o:=fun b o hb h1 h2=>keep b o hb (nq b o hb h1) (av b o hb h2)
 have KM: ∀b o,Sx.look X b=some o→tyO o=none→b≠G.t k→Sx.look L b=some o:=fun b o hb h1 h2=>keep b o hb h2 (av b o hb (by rw[h1];intro e;cases e))
 have KF: ∀ {w c},FnP X G.fb w c→FnP L G.fb w c:=fun hw=>hw.keep fun b o hb hx=>K b o hb (by rcases hx with⟨s,rfl⟩ | ⟨a,rfl⟩<;>simp[tyO,dI,iC]) (by rcases hx with⟨s,rfl⟩ | ⟨a,rfl⟩<;>simp[tyO,dI,iC])
 have mK: ∀j,j<3→j≠k→s'≠G.s j:=fun j hj Dd=>by
  rcases iq with e|e
  ·rw[e];exact(oE h.nodm hk hj).1 (Ne.symm Dd)
  ·obtain⟨o,m,ho,-⟩:=h.seen j hj
   rintro rfl;exact e (bV ho)
 have eQ: ∀j,j<3→s'≠G.t j:=fun j hj=>by
  rcases iq with e|e
  ·rw[e];exact(oE h.nodm hk hj).2.2
  ·obtain⟨o,m,ho,-⟩:=h.stl j hj
   rintro rfl;exact e (bV ho)
 have hs3:G.bm≠s':=by
  rcases iq with e|e
  ·rw[e];exact(h.nodb k hk).1
  ·obtain⟨o,ho,-⟩:=h.dirs
   rintro rfl;exact e (bV ho)
 refine⟨?_, ?_, ?_, ?_, ?_, ?_, ?_,h.len,h.nodf, ?_,h.nodd, ?_, ?_, ?_⟩
 ·exact K _ _ h.disk (by simp[tyO,bF]) (by simp[tyO,bF])
 ·obtain⟨o,h1,h2⟩:=h.dirs
  exact⟨o,KM _ _ h1 (iQ h2) (h.nodb k hk).2,h2⟩
 ·intro j hj
  show Sx.look L (G.d j)=some (cG (if j=k then s' else G.s j) (G.t j) (if j=k then .slice none 0 0 else G.p j))
  by_cases e:j=k
  ·subst e;rw[if_pos rfl,if_pos rfl];exact hd
  ·rw[if_neg e,if_neg e]
   exact keep _ _ (h.dir j hj) (nq _ _ (h.dir j hj) (by simp[tyO,cG])) (zh h.nodd hj hk e)
 ·intro j hj
  show NmM L G.fb (if j=k then s' else G.s j) (if j=k then d else S.dir j).seen
  by_cases e:j=k
  ·subst e;rw[if_pos rfl,if_pos rfl];exact hs
  ·rw[if_neg e,if_neg e]
   obtain⟨o,m,h1,h2,h3⟩:=h.seen j hj
   exact⟨o,m,KM _ _ h1 (iQ h2) (oE h.nodm hj hk).2.2,h2,h3⟩
 ·intro j hj
  show NmM L G.fb (G.t j) (if j=k then d else S.dir j).stl
  by_cases e:j=k
  ·subst e;rw[if_pos rfl];exact ht
  ·rw[if_neg e]
   obtain⟨o,m,h1,h2,h3⟩:=h.stl j hj
   exact⟨o,m,KM _ _ h1 (iQ h2) ((oE h.nodm hj hk).2.1 e),h2,h3⟩
 ·intro j hj
  by_cases e:j=k
  ·subst e
   refine⟨[], ?_, ?_,fun i hi=>absurd hi (Nat.not_lt_zero _)⟩
   ·show 0=(if j=j then d else S.dir j:DirL).pend.length
    rw[if_pos rfl,rG];rfl
   ·show Gr L _ 1 (if j=j then .slice none 0 0 else G.p j) 0 []
    rw[if_pos rfl];exact Gr.nl
  ·obtain⟨vj,h1,h2,h3⟩:=h.pend j hj
   refine⟨vj, ?_, ?_, ?_⟩
   ·show vj.length=(if j=k then _ else S.dir j:DirL).pend.length
    rw[if_neg e];exact h1
   ·show Gr L _ 1 (if j=k then .slice none 0 0 else G.p j) vj.length vj
    rw[if_neg e]
    refine h2.keep fun b o hb ho=> ?_
    obtain⟨arr,ha⟩:=gd h2 hb
    rw[ho] at ha;cases ha
    exact K _ _ ho (by simp[tyO]) (by simp[tyO])
   ·intro i hi
    show FnP L G.fb (vj.getD i undef) ((if j=k then _ else S.dir j:DirL).pend.getD i jx)
    rw[if_neg e]
    exact KF (h3 i hi)
 ·intro n hn
  exact K _ _ (h.file n hn) (by simp[tyO,cQ]) (by simp[tyO,cQ])
 ·have hn:=h.nodm
  have cb:k=0∨k=1∨k=2:=by omega
  rcases cb with rfl|rfl|rfl
  ·show [s',G.s 1,G.s 2,G.t 0,G.t 1,G.t 2].Nodup
   exact List.nodup_cons.2 ⟨by simp only[List.mem_cons,List.not_mem_nil,or_false,not_or];exact⟨mK 1 (by omega) (by omega),mK 2 (by omega) (by omega),eQ 0 (by omega),eQ 1 (by omega),eQ 2 (by omega)⟩,(List.nodup_cons.1 hn).2⟩
  ·show [G.s 0,s',G.s 2,G.t 0,G.t 1,G.t 2].Nodup
   refine(List.Perm.swap (G.s 0) s' _).nodup_iff.1 ?_
   exact List.nodup_cons.2 ⟨by simp only[List.mem_cons,List.not_mem_nil,or_false,not_or];exact⟨mK 0 (by omega) (by omega),mK 2 (by omega) (by omega),eQ 0 (by omega),eQ 1 (by omega),eQ 2 (by omega)⟩,(List.nodup_cons.1 ((List.Perm.swap (G.s 0) (G.s 1) _).nodup_iff.2 hn)).2⟩
  ·show [G.s 0,G.s 1,s',G.t 0,G.t 1,G.t 2].Nodup
   have hp: ∀x:Nat,(x:: [G.s 0,G.s 1,G.t 0,G.t 1,G.t 2]).Perm [G.s 0,G.s 1,x,G.t 0,G.t 1,G.t 2]:=fun x=>((List.perm_middle (l₁:= [G.s 0,G.s 1]) (a:=x) (l₂:= [G.t 0,G.t 1,G.t 2]))).symm
   refine(hp s').nodup_iff.1 ?_
   exact List.nodup_cons.2 ⟨by simp only[List.mem_cons,List.not_mem_nil,or_false,not_or];exact⟨mK 0 (by omega) (by omega),mK 1 (by omega) (by omega),eQ 0 (by omega),eQ 1 (by omega),eQ 2 (by omega)⟩,(List.nodup_cons.1 ((hp (G.s 2)).nodup_iff.2 hn)).2⟩
 ·intro j hj
  show G.bm≠ (if j=k then s' else G.s j)∧G.bm≠G.t j
  by_cases e:j=k
  ·rw[if_pos e];exact⟨hs3,(h.nodb j hj).2⟩
  ·rw[if_neg e];exact h.nodb j hj
 ·intro i j hi hj kC b hb
  show slB (if j=k then .slice none 0 0 else G.p j)≠some b
  have dZ:slB (if i=k then .slice none 0 0 else G.p i)=some b:=hb
  by_cases ei:i=k
  ·rw[if_pos ei] at dZ;cases dZ
  ·rw[if_neg ei] at dZ
   by_cases ej:j=k
   ·rw[if_pos ej];intro e;cases e
   ·rw[if_neg ej];exact h.nodp i j hi hj kC b dZ
 ·exact va h.ok _ h1 h2 h3 h4 (fun c hc=>by rw[rG] at hc;cases hc)
set_option linter.defProp false
def pA:=And.intro (And.intro (And.intro (@ay) (@ax)) (And.intro (@lD) (@mT))) (And.intro (And.intro (@mR) (@mS)) (And.intro (@Sx.tup2_0) (@Sx.tup2_1)))
def lY (S:DiskL) (k:Nat):DiskL:=dX S k ⟨(S.dir k).seen,(S.dir k).seen,[]⟩
theorem UZ (X:aA) (G:DkG) (S:DiskL) (k:Nat) (w:World) (hX: ∀p,p∈X→w.heap[p.1]? =some p.2) (hn: (keys X).Nodup) (hP:DkP X G S) (hk:k<3):
  Rets Tryz.prog 75 #[vp (G.d k) 0] w (XS w X (fun v D=>v=ck []∧DkP D (nM G k (G.s k)) (lY S k)∧ ∀b o,Sx.look X b=some o→b≠G.t k→b≠G.d k→Sx.look D b=some o)):=by
 obtain⟨ot,mt,oZ,jh,nq⟩:=hP.stl k hk
 obtain⟨os,ms,fq,fG,dN⟩:=hP.seen k hk
 have gl:=hP.dir k hk
 have bQ:G.s k≠G.t k:=(oE hP.nodm hk hk).2.2
 have eF: ∀ {b:Nat} {o:Obj} {m:List (List UInt8×Option Nat)},Sx.look X b=some o→eD vs ab o m→G.d k≠b:=by
  rintro b o m hb hm rfl
  rw[gl] at hb;cases hb
  obtain⟨es,cl,h,-⟩:=hm;cases h
 have lS:=eF oZ jh
 refine Rets.enterX Tryz.func75 rfl (rs:= []) Tryz.results75 Tryz.ntmps75 hX hn ?_
 refine kf ?_
 ((try with_reducible refine Cw.go [] ?_);(try simp(disch:=(first|assumption|omega| (simp only[fM,fL,UInt64.reduceToNat];try omega))) only[↓Sx.S0,Sx.S1,Tryz.fx,pA,Nat.reduceAdd,Nat.reducePow,Int.reducePow,Nat.reduceBEq, ↓reduceIte,UInt8.reduceToNat,UInt16.reduceToNat,UInt32.reduceToNat,UInt64.reduceToNat,Int.reduceToNat,(aL (w0:=w) gl)]))
 refine Ow.mapClearG (encK:=vs) (encV:=ab) rfl rfl Tryz.underlying127 rfl oZ jh (fun o1 eO=> ?_)
 have hO:Only X (setB X (G.t k) o1) (G.t k) o1:=Only.set oZ
 have bU:=(Ext.refl w X).setB (b:=G.t k) (o:=o1)
 generalize setB X (G.t k) o1=L1 at*
 have Ae:Sx.look L1 (G.d k)=some (cG (G.s k) (G.t k) (G.p k)):=(hO.rest _ lS).trans gl
 have BF:Sx.look L1 (G.s k)=some os:=(hO.rest _ bQ).trans fq
 have rR:=aL (w0:=w) Ae
 refine ko @pA ?_
 first|with_reducible refine ks [] @pA ?_|refine kp @pA ?_
 refine Cw.regionS [G.d k] [0,1,2,4,5,6,3,7,8] [] (by kernel_rfl) (by kernel_rfl) (by kernel_rfl) ?_
 simp only[ar, ↓ap, ↓ag, ↓an, ↓am,ah]
 refine kq (And.intro @pA @rR) ?_
 refine Ow.soft rfl rfl rfl ?_
 refine Ow.callX (X:=L1) (Y:= []) (List.append_nil _).symm rfl rfl Tryz.call120 (fun w' aB aQ aN=>Jb L1 (G.t k) (G.s k) o1 os ms w' aQ aN hO.at_ eO BF fG (Ne.symm bQ) (dN.keys (hP.ok.seen k hk).nodup)) (fun v4 D4 au aZ=> ?_)
 obtain⟨rfl,rM,o2,m2,ik,lV,gQ⟩:=aZ
 have aj:=bU.came0 au
 rw[List.append_nil]
 have fP:=rM _ _ lS Ae
 have nt:=aL (w0:=w) fP
 with_reducible refine Ow.nil ?_
 refine⟨fun b hb=>by rw[List.mem_singleton] at hb;subst hb;rw[rR,nt], ?_⟩
 refine kq @pA ?_
 try with_reducible refine Ow.nil ?_
 have st:=fun x=>ES (G.s k) (G.t k) (G.p k) (.slice none 0 0) x ⟨rfl,rfl⟩
 first|with_reducible refine ks [] (And.intro @pA (And.intro @fP (@st))) ?_|refine kp (And.intro @pA (And.intro @fP (@st))) ?_
 refine⟨_,(ke @pA), ?_⟩
 have fZ: ∀b o,Sx.look X b=some o→b≠G.t k→b≠G.d k→Sx.look (setB D4 (G.d k) (cG (G.s k) (G.t k) (.slice none 0 0))) b=some o:=fun b o hb h1 h2=>by
  rw[bH (Ne.symm h2)]
  exact rM _ _ h1 ((hO.rest _ h1).trans hb)
 refine⟨aj.setB,rfl, ?_,fZ⟩
 have qQ:=rM _ _ bQ BF
 refine hP.calm hk ⟨(S.dir k).seen,(S.dir k).seen,[]⟩ rfl fZ ⟨os,ms, ?_,fG,dN⟩ ⟨o2,m2, ?_,lV,gQ.trans dN⟩ (ee fP) (.inl rfl) (hP.ok.seen k hk) (hP.ok.seen k hk) (hP.ok.seenN k hk) (hP.ok.seenN k hk)
 ·rw[bH (eF fq fG)];exact qQ
 ·rw[bH lS];exact ik
end Go.Proofs
end
section
open Go Go.Proofs Go.Sx Go.StP
namespace Go.Proofs
set_option maxRecDepth 10000
set_option maxHeartbeats 400000
set_option linter.unusedSimpArgs false
def fC (S:DiskL) (dir:List UInt8):DiskL×Nat:=
 if dV S dir []≠0 then(S,dV S dir []) else if(aG S).2≠0 then aG S else(lY (aG S).1 ((bT dir).getD 0),0)
set_option linter.defProp false
def iM:=And.intro (And.intro (And.intro (@ay) (@ax)) (And.intro (@lD) (@mT))) (And.intro (And.intro (@mR) (@mS)) (And.intro (@Sx.tup2_0) (@Sx.tup2_1)))
theorem W2 (X:aA) (G:DkG) (S:DiskL) (dir:List UInt8) (w:World) (hX: ∀p,p∈X→w.heap[p.1]? =some p.2) (hn: (keys X).Nodup) (hP:DkP X G S):
  Rets Tryz.prog 21 #[vp G.bd 0,vs dir] w (XS w X (fun v D=>v=vi ((fC S dir).2:Nat)∧ ∃G',G'.bd=G.bd∧DkP D G' (fC S dir).1)):=by
 refine Rets.enterX Tryz.func21 rfl (rs:= [.tmp 4]) Tryz.results21 Tryz.ntmps21 hX hn ?_
 refine kf ?_
 first|with_reducible refine ks [] @iM ?_|refine kp @iM ?_
 refine Ow.callC rfl rfl Tryz.call80 (fun w' aB=>Rets.toX (rk w' G S dir (.slice none 0 0) [] (hP.world aB) (SlV.nil w') (by simp) (fun s hs=>by cases hs))) (fun B2 v2 D2 ai fh bw bl=> ?_)
 obtain⟨rfl,bl⟩:=bl
 rw[List.append_nil]
 unfold fC
 rcases bl with⟨he,rfl⟩ | ⟨he,k,hk,rfl⟩
 ·have e1:=jN he
  refine ko @iM ?_
  first|with_reducible refine ks [] (And.intro @iM @e1) ?_|refine kp (And.intro @iM @e1) ?_
  refine⟨_,(ke @iM), ?_⟩
  rw[if_pos he]
  exact⟨Ext.refl w X,rfl,G,rfl,hP⟩
 ·have mj: ¬ (dV S dir []≠0):=by rw[he];simp
  have aa:=(g5 hk).1
  have e1: ((0:Int) !=0)=false:=rfl
  obtain⟨bE,bG,gM⟩:=la S
  refine ko @iM ?_
  first|with_reducible refine ks [] (And.intro @iM @e1) ?_|refine kp (And.intro @iM @e1) ?_
  refine Ow.callM rfl rfl Tryz.call81 (bV hP.disk) (fun w' aB=>Bf G.bd G.bm S w' hP.ok.fuse (aB.has _ _ (bh hP.disk))) ?_
  have aw:=hP.setDisk (aG S).1 bE bG (oF hP.ok)
  have aj:=(Ext.refl w X).setB (b:=G.bd) (o:=bF G.bm (aG S).1)
  generalize setB X G.bd (bF G.bm (aG S).1)=L2 at*
  by_cases eA: (aG S).2=0
  ·have e2: (((aG S).2:Int) !=0)=false:=by rw[eA];rfl
   refine ko (And.intro @iM @e2) ?_
   first|with_reducible refine ks [] @iM ?_|refine kp @iM ?_
   refine Ow.callX (X:=L2) (Y:= []) (List.append_nil _).symm rfl rfl Tryz.call75 (fun w' aB aQ aN=>UZ L2 G (aG S).1 k w' aQ aN aw aa) (fun v4 D4 au aZ=> ?_)
   obtain⟨rfl,aZ,-⟩:=aZ
   have dR:=aj.came0 au
   rw[List.append_nil]
   refine ko @iM ?_
   first|with_reducible refine ks [] @iM ?_|refine kp @iM ?_
   refine⟨_,(ke @iM), ?_⟩
   rw[if_neg mj,if_neg (by rw[eA];simp),hk]
   exact⟨dR,rfl,nM G k (G.s k),rfl,aZ⟩
  ·have e2:=jN eA
   refine ko (And.intro @iM @e2) ?_
   first|with_reducible refine ks [] @iM ?_|refine kp @iM ?_
   refine⟨_,(ke @iM), ?_⟩
   rw[if_neg mj,if_pos eA]
   exact⟨aj,rfl,G,rfl,aw⟩
def mX (w:World):Prop:= ∃e fz,w.heap[0]? =some (.cells #[vs fB,vs jV,vs jC] e fz)
def eV (quota:Int):DiskL:=⟨fun _=>⟨[],[],[]⟩,[],quota,0,false,false⟩
theorem Le (b:Nat) (q:Int):fU (cX Tryz.prog 123) (al Tryz.prog 123) [(0,vm b),(1,vi q)]=some (.agg #[vm b,vi q,vi 0, .bool false, .bool false]):=by
 rw[show cX Tryz.prog 123=some [(0,1),(1,1),(2,1),(3,1),(4,1)] from id (by kernel_rfl),show al Tryz.prog 123=some (.agg #[.map none,vi 0,vi 0, .bool false, .bool false]) from id (by kernel_rfl)];rfl
theorem Ll (a b:Nat):fU (cX Tryz.prog 130) (al Tryz.prog 130) [(0,vm a),(1,vm b)]=some (.agg #[vm a,vm b, .slice none 0 0]):=by
 rw[show cX Tryz.prog 130=some [(0,1),(1,1),(2,1)] from id (by kernel_rfl),show al Tryz.prog 130=some (.agg #[.map none, .map none, .slice none 0 0]) from id (by kernel_rfl)];rfl
theorem rx (e:TypeId) (fz:Nat×Nat):aF (some (true,3)) (some (.cells #[vs fB,vs jV,vs jC] e fz)) 0=some (.agg #[vs fB,vs jV,vs jC]):=p6 _ e fz 3 rfl
theorem Bt {k:Nat} (hk:k<3):oD (.arr 3 (false,1)) (.agg #[vs fB,vs jV,vs jC]) (some (k:Int))=some (vs (aH k)):=by
 have:k=0∨k=1∨k=2:=by omega
 rcases this with rfl|rfl|rfl<;>rfl
def r6 (d:Nat→Nat):Nat→List (List UInt8×Option Nat)
 |0=> []
 |k+1=>r6 d k++ [(aH k,some (d k))]
theorem Vo {d d':Nat→Nat}: ∀ {k:Nat},(∀j,j<k→d' j=d j)→r6 d' k=r6 d k
 |0,_=>rfl
 |k+1,h=>by
  unfold r6
  rw[Vo fun j hj=>h j (by omega),h k (by omega)]
theorem xi {d:Nat→Nat} {j:Nat} (hj:j<3): ∀ {k:Nat},k≤j→ ∀p,p∈r6 d k→p.1≠aH j
 |0,_,_,hp=>by cases hp
 |k+1,hk,p,hp=>by
  rcases List.mem_append.1 hp with hp|hp
  ·exact xi hj (by omega) p hp
  ·rw[List.mem_singleton.1 hp]
   intro e
   have h1:=og (k:=k) (by omega)
   have h2:=og hj
   have e':aH k=aH j:=e
   rw[e',h2] at h1
   cases h1;omega
structure NwG where
 L:aA
 o:Obj
 k:Nat
 d:Nat→Nat
 s:Nat→Nat
 t:Nat→Nat
def mtM (L:aA) (b:Nat):Prop:= ∃o,Sx.look L b=some o∧eD vs ab o ([]:List (List UInt8×Option Nat))
set_option linter.defProp false
def iy:=And.intro (And.intro (@ay) (And.intro (@ax) (@lD))) (And.intro (@mT) (And.intro (@mR) (@mS)))
theorem wb (quota:Int) (w:World) (hq: -9223372036854775808≤quota∧quota<9223372036854775808) (hG:mX w):
  Rets Tryz.prog 28 #[vi quota] w (XS w [] (fun v D=> ∃G,v=vp G.bd 0∧DkP D G (eV quota))):=by
 obtain⟨e,fz,hg⟩:=hG
 refine Rets.enterX Tryz.func28 rfl (rs:= [.tmp 2]) Tryz.results28 Tryz.ntmps28 (fun p hp=>by cases hp) (by simp[keys]) ?_
 refine kf ?_
 first|with_reducible refine ks [] @iy ?_|refine kp @iy ?_
 refine Ow.makeMapG (encK:=vs) (encV:=ab) rfl rfl (fun bm om te hwm hM=> ?_)
 rw[List.nil_append]
 refine ko @iy ?_
 refine Ow.build (.agg #[vm bm,vi quota,vi 0, .bool false, .bool false]) rfl (Le bm quota) ?_
 refine ko @iy ?_
 refine Ow.box rfl rfl fun bd bJ rg=> ?_
 simp only[eU,eT,ed,bL]
 have nj:bm<bd:=cY bJ (by simp[keys])
 refine Ow.permL (M:= [(bm,om)]++ [(bd,bF bm (eV quota))]) (List.Perm.refl _) ?_
 have h0:Sx.look ([(bm,om)]++ [(bd,bF bm (eV quota))]) bm=some om:=by simp[Sx.look]
 have h1:Sx.look ([(bm,om)]++ [(bd,bF bm (eV quota))]) bd=some (bF bm (eV quota)):=p5 bJ
 have hN:New w.heap.size ([(bm,om)]++ [(bd,bF bm (eV quota))]):=⟨hwm,rg,trivial⟩
 generalize [(bm,om)]++ [(bd,bF bm (eV quota))]=L0 at*
 have hg0:=(Array.getElem?_eq_some_iff.1 hg).1
 have Dl:aM w L0 0=some (.cells #[vs fB,vs jV,vs jC] e fz):=by rw[j7 (hN.not hg0)];exact hg
 refine ko @iy ?_
 first|with_reducible refine ks [] (And.intro @iy (And.intro @Dl (@rx))) ?_|refine kp (And.intro @iy (And.intro @Dl (@rx))) ?_
 refine Cw.loopG (G:=NwG) [12,13,5,14,15,16,17,18,19,20,21,22,23,11] (fun g=> [(11,vi g.k)]) (fun g=>g.L) (fun g=>g.k≤3∧Sx.look g.L bm=some g.o∧eD vs ab g.o (r6 g.d g.k)∧Sx.look g.L bd=some (bF bm (eV quota))∧New w.heap.size g.L∧ ∀j,j<g.k→Sx.look g.L (g.d j)=some (cG (g.s j) (g.t j) (.slice none 0 0))∧mtM g.L (g.s j)∧mtM g.L (g.t j)∧g.s j<g.t j∧g.t j<g.d j∧bd<g.s j∧ ∀i,i<j→g.d i<g.s j) (fun g=>3 - g.k) ⟨L0,om,0,fun _=>0,fun _=>0,fun _=>0⟩ rfl rfl ?_ ?_
 ·exact⟨Nat.zero_le _,h0,hM,h1,hN,fun j hj=>absurd hj (Nat.not_lt_zero _)⟩
 intro g j hg
 refine kv ?_
 clear h0 hM h1 hN Dl
 obtain⟨L,o,k,d,s,t⟩:=g
 simp only at hg ⊢
 obtain⟨hk,eE,hM,qJ,hN,fj⟩:=hg
 by_cases aC:k<3
 ·have d1:decide ((k:Int)<3)=true:=decide_eq_true (by omega)
  have ixk:=Bt aC
  have rdd:=aL (w0:=w) qJ
  first|with_reducible refine ks [] (And.intro @iy (And.intro @d1 (And.intro @ixk (@rdd)))) ?_|refine kp (And.intro @iy (And.intro @d1 (And.intro @ixk (@rdd)))) ?_
  refine Ow.makeMapG (encK:=vs) (encV:=ab) rfl rfl (fun bs os iZ hws Zo=> ?_)
  refine ko @iy ?_
  refine Ow.makeMapG (encK:=vs) (encV:=ab) rfl rfl (fun bt ot mA hwt Zp=> ?_)
  refine ko @iy ?_
  refine Ow.build (.agg #[vm bs,vm bt, .slice none 0 0]) rfl (Ll bs bt) ?_
  refine ko @iy ?_
  refine Ow.box rfl rfl fun br lR kH=> ?_
  simp only[eU,eT,ed,bL]
  refine Ow.permL (M:=L++ [(bs,os)]++ [(bt,ot)]++ [(br,cG bs bt (.slice none 0 0))]) (List.Perm.refl _) ?_
  have up: ∀b x,Sx.look L b=some x→Sx.look (L++ [(bs,os)]++ [(bt,ot)]++ [(br,cG bs bt (.slice none 0 0))]) b=some x:=fun b x h=>aq (aq (aq h))
  have ls:Sx.look (L++ [(bs,os)]++ [(bt,ot)]++ [(br,cG bs bt (.slice none 0 0))]) bs=some os:=aq (aq (p5 iZ))
  have lt:Sx.look (L++ [(bs,os)]++ [(bt,ot)]++ [(br,cG bs bt (.slice none 0 0))]) bt=some ot:=aq (p5 mA)
  have lr:Sx.look (L++ [(bs,os)]++ [(bt,ot)]++ [(br,cG bs bt (.slice none 0 0))]) br=some (cG bs bt (.slice none 0 0)):=p5 lR
  have bX:New w.heap.size (L++ [(bs,os)]++ [(bt,ot)]++ [(br,cG bs bt (.slice none 0 0))]):=((hN.app (show New w.heap.size [(bs,os)] from⟨hws,trivial⟩)).app (show New w.heap.size [(bt,ot)] from⟨hwt,trivial⟩)).app (show New w.heap.size [(br,cG bs bt (.slice none 0 0))] from⟨kH,trivial⟩)
  have c1:bs<bt:=cY mA (by rw[bO];simp[keys])
  have c2:bt<br:=cY lR (by rw[bO];simp[keys])
  have c3:bd<bs:=cY iZ (bV qJ)
  have c4: ∀j,j<k→d j<bs:=fun j hj=>cY iZ (bV (fj j hj).1)
  have c5:bm<bs:=cY iZ (bV eE)
  generalize L++ [(bs,os)]++ [(bt,ot)]++ [(br,cG bs bt (.slice none 0 0))]=L1 at*
  refine ko @iy ?_
  refine Ow.mapUpdateG (encK:=vs) (encV:=ab) (k:=aH k) (v:=some br) rfl rfl Tryz.underlying121 gr rfl rfl rfl (up _ _ eE) hM (fun o2 lV=> ?_)
  rw[EQ (xi aC (Nat.le_refl _))] at lV
  have ne: ∀b x,b≠bm→Sx.look L1 b=some x→Sx.look (setB L1 bm o2) b=some x:=fun b x h1 h2=>by rw[bH (Ne.symm h1)];exact h2
  refine ko @iy ?_
  first|with_reducible refine ks [] @iy ?_|refine kp @iy ?_
  refine Again.mk ⟨setB L1 bm o2,o2,k+1,fun j=>if j=k then br else d j,fun j=>if j=k then bs else s j,fun j=>if j=k then bt else t j⟩ (by show 3 - (k+1)<3 - k;omega) ⟨aC,ee (up _ _ eE), ?_,ne _ _ (by omega) (up _ _ qJ),New.of_le fun q hq=>bX.le q (by rwa [j9] at hq),fun j hj=> ?_⟩ rfl rfl
  ·show eD vs ab o2 (r6 (fun j=>if j=k then br else d j) (k+1))
   unfold r6
   rw[Vo (d:=d) fun j hj=>if_neg (by omega),if_pos rfl]
   exact lV
  ·show Sx.look (setB L1 bm o2) (if j=k then br else d j)=some (cG (if j=k then bs else s j) (if j=k then bt else t j) (.slice none 0 0))∧mtM (setB L1 bm o2) (if j=k then bs else s j)∧mtM (setB L1 bm o2) (if j=k then bt else t j)∧(if j=k then bs else s j)< (if j=k then bt else t j)∧(if j=k then bt else t j)< (if j=k then br else d j)∧bd< (if j=k then bs else s j)∧ ∀i,i<j→(if i=k then br else d i)< (if j=k then bs else s j)
   by_cases e:j=k
   ·subst e
    simp only[if_pos]
    refine⟨ne _ _ (by omega) lr,⟨os,ne _ _ (by omega) ls,Zo⟩,⟨ot,ne _ _ (by omega) lt,Zp⟩,c1,c2,c3,fun i hi=> ?_⟩
    rw[if_neg (by omega)];exact c4 i hi
   ·simp only[if_neg e]
    have ew:j<k:=by have:j<k+1:=hj;omega
    obtain⟨q1,⟨oo,q2,q3⟩,⟨oo2,q4,q5⟩,q6,q7,q8,q9⟩:=fj j ew
    refine⟨ne _ _ (by omega) (up _ _ q1),⟨oo,ne _ _ (by omega) (up _ _ q2),q3⟩,⟨oo2,ne _ _ (by omega) (up _ _ q4),q5⟩,q6,q7,q8,fun i hi=> ?_⟩
    rw[if_neg (by omega)];exact q9 i hi
 ·obtain rfl:k=3:=by omega
  have d1:decide (((3:Nat):Int)<3)=false:=rfl
  first|with_reducible refine ks [] (And.intro @iy @d1) ?_|refine kp (And.intro @iy @d1) ?_
  refine⟨_,(ke @iy), ?_⟩
  obtain⟨a1,a2,a3,a4,a5,a6,a7⟩:=fj 0 (by omega)
  obtain⟨b1,b2,b3,b4,b5,b6,b7⟩:=fj 1 (by omega)
  obtain⟨c1,c2,c3,c4,c5,c6,c7⟩:=fj 2 (by omega)
  have b8:=b7 0 (by omega)
  have c8:=c7 1 (by omega)
  refine⟨Ext.of_new hN,⟨bd,bm,d,s,t,fun _=> .slice none 0 0,[]⟩,rfl,qJ,⟨o,eE,hM⟩,fun k hk=>(fj k hk).1,fun k hk=> ?_,fun k hk=> ?_,fun k hk=>⟨[],rfl,Gr.nl,fun i hi=>absurd hi (Nat.not_lt_zero _)⟩,fun n hn=>absurd hn (Nat.not_lt_zero _),rfl,List.nodup_nil, ?_, ?_,fun k hk=> ?_,fun i j hi hj kC b hb=>(by cases hb), ?_⟩
  ·obtain⟨x,y,z⟩:=(fj k hk).2.1
   exact⟨x,[],y,z,List.Perm.nil⟩
  ·obtain⟨x,y,z⟩:=(fj k hk).2.2.1
   exact⟨x,[],y,z,List.Perm.nil⟩
  ·show [s 0,s 1,s 2,t 0,t 1,t 2].Nodup
   simp only[List.nodup_cons,List.mem_cons,List.not_mem_nil,not_or,or_false,List.nodup_nil,and_true,not_false_eq_true]
   refine⟨⟨?_, ?_, ?_, ?_, ?_⟩,⟨?_, ?_, ?_, ?_⟩,⟨?_, ?_, ?_⟩,⟨?_, ?_⟩, ?_⟩<;>omega
  ·show [d 0,d 1,d 2].Nodup
   simp only[List.nodup_cons,List.mem_cons,List.not_mem_nil,not_or,or_false,List.nodup_nil,and_true,not_false_eq_true]
   refine⟨⟨?_, ?_⟩, ?_⟩<;>omega
  ·have:=(fj k hk).2.2.2
   show bm≠s k∧bm≠t k
   omega
  ·exact⟨fun _ _=>List.Pairwise.nil,fun _ _=>List.Pairwise.nil,fun _ _ p hp=>(by cases hp),fun _ _ p hp=>(by cases hp),fun _ _ c hc=>(by cases hc),fun f hf=>(by cases hf),⟨show(-9223372036854775808:Int)≤0 by decide,show(0:Int)<9223372036854775808 by decide,fun _=>show(0:Int)≤0 by decide⟩,hq⟩
end Go.Proofs
end
section
open Go Go.Proofs Go.Sx Go.StP
namespace Go.Proofs
set_option maxRecDepth 10000
set_option maxHeartbeats 400000
set_option linter.unusedSimpArgs false
structure FiL where
 dir:List UInt8
 name:List UInt8
 data:List UInt8
def fiC (r:FiL):List Value:= [vs r.dir]++ ([vs r.name]++ ([vs r.data]))
def fi0:FiL:=⟨[],[],[]⟩
theorem lX (r:FiL): (fiC r).length=3:=by simp[fiC]
theorem wF (r:FiL):Value.cells (.agg (fiC r).toArray)=(fiC r).toArray:=bL _
theorem sT (r:FiL): (fiC r).all Value.oneCell'=true:=by
 unfold fiC
 simp only[List.all_append,List.all_cons,List.all_nil,oy,Bool.and_true,Bool.true_and]
 rfl
theorem zrFi:al Tryz.prog 36=some (.agg (fiC fi0).toArray):=id (by kernel_rfl)
theorem pn:aK Tryz.prog 36=some (true,3):=id (by kernel_rfl)
theorem sf (r:FiL):fiC r=([]:List Value)++ (([vs r.dir])++ ([vs r.name]++ ([vs r.data]))):=by
 unfold fiC;simp only[List.append_assoc,List.nil_append,List.append_nil]
theorem RA (r:FiL):Sx.partV (false,1) (fiC r).toArray 0=some (vs r.dir):=by
 rw[sf];exact Et _ _ _ (by simp)
theorem NX (r:FiL) (n:Nat) (E:TypeId) (fz:Nat×Nat):aF (some (false,n)) (some (.cells (fiC r).toArray E fz)) 0=some (vs r.dir):=by
 rw[sf];exact jO _ _ _ n E fz (by simp)
theorem Oc {w:World} {v:Value} {l:List FiL} {b off:Nat} {arr:Array Value} {E:TypeId} {fz:Nat×Nat} (h:RowS 3 fiC fi0 w v l b off arr E fz) {k:Nat} (hk:k<l.length) (n:Nat):aF (some (false,n)) (some (.cells arr E fz)) (off+k*3+0)=some (vs (l.getD k fi0).dir):=by
 rw[RowS.cell h hk (by omega)];generalize l.getD k fi0=r;rw[sf];exact ru _ _ _ (by simp)
theorem sj (r:FiL):fiC r=(([vs r.dir]))++ (([vs r.name])++ ([vs r.data])):=by
 unfold fiC;simp only[List.append_assoc,List.nil_append,List.append_nil]
theorem Ri (r:FiL):Sx.partV (false,1) (fiC r).toArray 1=some (vs r.name):=by
 rw[sj];exact Et _ _ _ (by simp)
theorem Nt (r:FiL) (n:Nat) (E:TypeId) (fz:Nat×Nat):aF (some (false,n)) (some (.cells (fiC r).toArray E fz)) 1=some (vs r.name):=by
 rw[sj];exact jO _ _ _ n E fz (by simp)
theorem yi {w:World} {v:Value} {l:List FiL} {b off:Nat} {arr:Array Value} {E:TypeId} {fz:Nat×Nat} (h:RowS 3 fiC fi0 w v l b off arr E fz) {k:Nat} (hk:k<l.length) (n:Nat):aF (some (false,n)) (some (.cells arr E fz)) (off+k*3+1)=some (vs (l.getD k fi0).name):=by
 rw[RowS.cell h hk (by omega)];generalize l.getD k fi0=r;rw[sj];exact ru _ _ _ (by simp)
theorem t7 (r:FiL):fiC r=(([vs r.dir])++ ([vs r.name]))++ (([vs r.data])++ (([]:List Value))):=by
 unfold fiC;simp only[List.append_assoc,List.nil_append,List.append_nil]
theorem RG (r:FiL):Sx.partV (false,1) (fiC r).toArray 2=some (vs r.data):=by
 rw[t7];exact Et _ _ _ (by simp)
theorem OS (r:FiL) (n:Nat) (E:TypeId) (fz:Nat×Nat):aF (some (false,n)) (some (.cells (fiC r).toArray E fz)) 2=some (vs r.data):=by
 rw[t7];exact jO _ _ _ n E fz (by simp)
theorem sL {w:World} {v:Value} {l:List FiL} {b off:Nat} {arr:Array Value} {E:TypeId} {fz:Nat×Nat} (h:RowS 3 fiC fi0 w v l b off arr E fz) {k:Nat} (hk:k<l.length) (n:Nat):aF (some (false,n)) (some (.cells arr E fz)) (off+k*3+2)=some (vs (l.getD k fi0).data):=by
 rw[RowS.cell h hk (by omega)];generalize l.getD k fi0=r;rw[t7];exact ru _ _ _ (by simp)
theorem yl (r:FiL) (E:TypeId) (fz:Nat×Nat):aF (some (true,3)) (some (.cells (fiC r).toArray E fz)) 0=some (.agg (fiC r).toArray):=p6 _ E fz 3 (by rw[List.size_toArray,lX])
theorem Nu (old:Array Value) (r:FiL) (a:Bool) (E:TypeId) (h:old.size=3):ac (some (a,3)) (some (.cells old E (0,0))) 0 (.agg (fiC r).toArray)=some (.cells (fiC r).toArray E (0,0)):=ro _ a old E (lX r) (sT r) h
theorem M7 (r r':FiL) (a:Bool) (E:TypeId):ac (some (a,3)) (some (.cells (fiC r').toArray E (0,0))) 0 (.agg (fiC r).toArray)=some (.cells (fiC r).toArray E (0,0)):=Nu _ r a E (by rw[List.size_toArray,lX])
theorem zX {w:World} {v:Value} {l:List FiL} {b off:Nat} {arr:Array Value} {E:TypeId} {fz:Nat×Nat} (h:RowS 3 fiC fi0 w v l b off arr E fz) {k:Nat} (hk:k<l.length):aF (some (true,3)) (some (.cells arr E fz)) (off+k*3)=some (.agg (fiC (l.getD k fi0)).toArray):=RowS.load h lX (by omega) hk
theorem Oe:Tryz.prog.stoodInHeld 36=false:=by kernel_rfl
theorem Od:Tryz.prog.eqGuardType Tryz.prog.depth 36=false:=by kernel_rfl
theorem Rl (r r':FiL):eqD Tryz.prog 8 36 (.agg (fiC r).toArray) (.agg (fiC r').toArray)=some ((r.dir==r'.dir)&& (r.name==r'.name)&& (r.data==r'.data)):=by
 have hs: ∀ (a b:List UInt8),eqD Tryz.prog 7 9 (vs a) (vs b)=some (a==b):=by
  intro a b;unfold eqD;rw[Tryz.underlying9];simp only[vs,uk]
 have ags:aK Tryz.prog 9=some (false,1):=id (by kernel_rfl)
 unfold eqD
 rw[Tryz.underlying36]
 simp only
 rw[Oe]
 simp only[Bool.false_eq_true, ↓reduceIte,vZ,qf,ags,RA,Ri,RG,hs]
 cases(r.dir==r'.dir)<;>cases(r.name==r'.name)<;>cases(r.data==r'.data)<;>simp
theorem neFi (r r':FiL):bA Tryz.prog .neq 36 (.agg (fiC r).toArray) (.agg (fiC r').toArray)=some (.bool (!((r.dir==r'.dir)&& (r.name==r'.name)&& (r.data==r'.data)))):=by
 unfold bA eqX;rw[Od];simp[gb,Rl]
theorem xo (r:FiL):fU (cX Tryz.prog 36) (al Tryz.prog 36) [(0,vs r.dir),(1,vs r.name),(2,vs r.data)]=some (.agg (fiC r).toArray):=by
 have hp:cX Tryz.prog 36=some [(0,1),(1,1),(2,1)]:=id (by kernel_rfl)
 rw[hp,zrFi]
 have e0: (fiC fi0).toArray=(([]:List Value)++ (([vs fi0.dir])++ ([vs fi0.name]++ ([vs fi0.data])))).toArray:=by congr 1<;>simp only[fiC,List.append_assoc,List.nil_append,List.append_nil]
 have q0:fY (([]:List Value)++ (([vs fi0.dir])++ ([vs fi0.name]++ ([vs fi0.data])))).toArray 0 ([vs r.dir])=(([]:List Value)++ (([vs r.dir])++ ([vs fi0.name]++ ([vs fi0.data])))).toArray:=w6 _ _ _ _ (by simp) (rfl)
 have s0: (([]:List Value)++ (([vs fi0.dir])++ ([vs fi0.name]++ ([vs fi0.data])))).toArray.size=3:=by simp
 have z0: (Value.cells (vs r.dir)).toList= [vs r.dir]:=by rfl
 have y0: (Value.cells (vs r.dir)).size=1:=by rw[←Array.length_toList,z0];simp
 have e1: (([]:List Value)++ (([vs r.dir])++ ([vs fi0.name]++ ([vs fi0.data])))).toArray=((([vs r.dir]))++ (([vs fi0.name])++ ([vs fi0.data]))).toArray:=by congr 1<;>simp only[fiC,List.append_assoc,List.nil_append,List.append_nil]
 have q1:fY ((([vs r.dir]))++ (([vs fi0.name])++ ([vs fi0.data]))).toArray 1 ([vs r.name])=((([vs r.dir]))++ (([vs r.name])++ ([vs fi0.data]))).toArray:=w6 _ _ _ _ (by simp) (rfl)
 have s1: ((([vs r.dir]))++ (([vs fi0.name])++ ([vs fi0.data]))).toArray.size=3:=by simp
 have z1: (Value.cells (vs r.name)).toList= [vs r.name]:=by rfl
 have y1: (Value.cells (vs r.name)).size=1:=by rw[←Array.length_toList,z1];simp
 have e2: ((([vs r.dir]))++ (([vs r.name])++ ([vs fi0.data]))).toArray=((([vs r.dir])++ ([vs r.name]))++ (([vs fi0.data])++ (([]:List Value)))).toArray:=by congr 1<;>simp only[fiC,List.append_assoc,List.nil_append,List.append_nil]
 have q2:fY ((([vs r.dir])++ ([vs r.name]))++ (([vs fi0.data])++ (([]:List Value)))).toArray 2 ([vs r.data])=((([vs r.dir])++ ([vs r.name]))++ (([vs r.data])++ (([]:List Value)))).toArray:=w6 _ _ _ _ (by simp) (rfl)
 have s2: ((([vs r.dir])++ ([vs r.name]))++ (([vs fi0.data])++ (([]:List Value)))).toArray.size=3:=by simp
 have z2: (Value.cells (vs r.data)).toList= [vs r.data]:=by rfl
 have y2: (Value.cells (vs r.data)).size=1:=by rw[←Array.length_toList,z2];simp
 have e3: ((([vs r.dir])++ ([vs r.name]))++ (([vs r.data])++ (([]:List Value)))).toArray=(fiC r).toArray:=by congr 1<;>simp only[fiC,List.append_assoc,List.nil_append,List.append_nil]
 simp only[fU]
 rw[e0]
 unfold Sx.fillV
 simp only[List.getElem?_cons_zero,List.getElem?_cons_succ,z0,y0]
 rw[if_pos ⟨trivial,by rw[s0];decide⟩,q0]
 rw[e1]
 unfold Sx.fillV
 simp only[List.getElem?_cons_zero,List.getElem?_cons_succ,z1,y1]
 rw[if_pos ⟨trivial,by rw[s1];decide⟩,q1]
 rw[e2]
 unfold Sx.fillV
 simp only[List.getElem?_cons_zero,List.getElem?_cons_succ,z2,y2]
 rw[if_pos ⟨trivial,by rw[s2];decide⟩,q2]
 rw[e3];rfl
abbrev FiSl (w:World) (v:Value) (l:List FiL):Prop:=SlV 3 fiC fi0 w v l
theorem DkP.seen1 {X L:aA} {G:DkG} {S:DiskL} (h:DkP X G S) {k:Nat} (hk:k<3) {l':NmL} (keep: ∀b o,Sx.look X b=some o→b≠G.s k→Sx.look L b=some o) (hs:NmM L G.fb (G.s k) l') (h1:SrtN l') (h3: ∀p,p∈l'→p.2<S.files.length):
  DkP L G (dX S k ⟨l',(S.dir k).stl,(S.dir k).pend⟩):=by
 obtain⟨osk,msk,ns,nk,-⟩:=h.seen k hk
 have dN: ∀b o,Sx.look X b=some o→tyO o≠none→b≠G.s k:=by
  rintro b o hb ht rfl
  rw[ns] at hb;cases hb;exact ht (iQ nk)
 have K: ∀b o,Sx.look X b=some o→tyO o≠none→Sx.look L b=some o:=fun b o hb h1=>keep b o hb (dN b o hb h1)
 have es: ∀j,(dX S k ⟨l',(S.dir k).stl,(S.dir k).pend⟩).dir j=if j=k then⟨l',(S.dir k).stl,(S.dir k).pend⟩ else S.dir j:=fun _=>rfl
 have e2: ∀j,((dX S k ⟨l',(S.dir k).stl,(S.dir k).pend⟩).dir j).stl=(S.dir j).stl:=fun j=>by
  rw[es];by_cases e:j=k
  ·subst e;rw[if_pos rfl]
  ·rw[if_neg e]
 have e3: ∀j,((dX S k ⟨l',(S.dir k).stl,(S.dir k).pend⟩).dir j).pend=(S.dir j).pend:=fun j=>by
  rw[es];by_cases e:j=k
  ·subst e;rw[if_pos rfl]
  ·rw[if_neg e]
 refine⟨K _ _ h.disk (by simp[tyO,bF]), ?_,fun j hj=>K _ _ (h.dir j hj) (by simp[tyO,cG]),fun j hj=> ?_,fun j hj=> ?_,fun j hj=> ?_,fun n hn=>K _ _ (h.file n hn) (by simp[tyO,cQ]),h.len,h.nodf,h.nodm,h.nodd,h.nodb,h.nodp,va h.ok _ h1 (h.ok.stl k hk) h3 (h.ok.stlN k hk) (h.ok.pendN k hk)⟩
 ·obtain⟨o,h1,h2⟩:=h.dirs
  exact⟨o,keep _ _ h1 (h.nodb k hk).1,h2⟩
 ·rw[es]
  by_cases e:j=k
  ·subst e;rw[if_pos rfl];exact hs
  ·rw[if_neg e]
   obtain⟨o,m,h1,h2,h3⟩:=h.seen j hj
   exact⟨o,m,keep _ _ h1 ((oE h.nodm hj hk).1 e),h2,h3⟩
 ·rw[e2]
  obtain⟨o,m,h1,h2,h3⟩:=h.stl j hj
  exact⟨o,m,keep _ _ h1 (Ne.symm (oE h.nodm hk hj).2.2),h2,h3⟩
 ·rw[e3]
  obtain⟨vals,h1,h2,h3⟩:=h.pend j hj
  refine⟨vals,h1,h2.keep fun b o hb ho=> ?_,fun i hi=>(h3 i hi).keep fun b o ho hx=>K b o ho ?_⟩
  ·obtain⟨arr,ha⟩:=gd h2 hb
   rw[ho] at ha;cases ha
   exact K _ _ ho (by simp[tyO])
  ·rcases hx with⟨s,rfl⟩ | ⟨a,rfl⟩<;>simp[tyO,dI,iC]
def co (S:DiskL) (f:FiL):DiskL:=match bT f.dir with
 |some k=>if cI f.name=true∧f.data.length≤1048576 then dX (gz S ⟨f.data,f.data.length⟩) k ⟨gY (S.dir k).seen (f.name,S.files.length),(S.dir k).stl,(S.dir k).pend⟩ else S
 |none=>S
def setV (S:DiskL) (vis:List Nat):DiskL:={S with dir:=fun k=>if k∈vis then⟨(S.dir k).seen,(S.dir k).seen,[]⟩ else S.dir k}
theorem N3 (S:DiskL):setV S []=S:=by
 unfold setV
 simp
theorem I4 (S:DiskL) (vis:List Nat) (k:Nat):lY (setV S vis) k=setV S (vis++ [k]):=by
 unfold lY dX setV
 simp only
 congr 1
 funext j
 by_cases e:j=k
 ·subst e
  rw[if_pos rfl,if_pos (List.mem_append_right _ (List.mem_singleton.2 rfl))]
  by_cases h:j∈vis
  ·rw[if_pos h]
  ·rw[if_neg h]
 ·rw[if_neg e]
  by_cases h:j∈vis
  ·rw[if_pos h,if_pos (List.mem_append_left _ h)]
  ·rw[if_neg h,if_neg (fun hm=>by
    rcases List.mem_append.1 hm with hm|hm
    ·exact h hm
    ·exact e (List.mem_singleton.1 hm))]
theorem JY (S:DiskL) {a b:List Nat} (h: ∀k,k∈a↔k∈b):setV S a=setV S b:=by
 unfold setV
 congr 1
 funext j
 by_cases e:j∈a
 ·rw[if_pos e,if_pos ((h j).1 e)]
 ·rw[if_neg e,if_neg (fun e2=>e ((h j).2 e2))]
def ofD (quota:Int) (l:List FiL):DiskL:=setV (l.foldl co (eV quota)) [0,1,2]
end Go.Proofs
end
section
open Go Go.Proofs Go.Sx Go.StP
namespace Go.Proofs
set_option maxRecDepth 10000
set_option maxHeartbeats 400000
set_option linter.unusedSimpArgs false
theorem QQ (b o:Nat):bA Tryz.prog .neq 120 (vp b o) (.pointer none)=some (.bool true):=by
 simp[bA,eqX,gb,gB,Tryz.underlying120,vp]
theorem Or:bA Tryz.prog .neq 120 (.pointer none) (.pointer none)=some (.bool false):=by
 simp[bA,eqX,gb,gB,Tryz.underlying120]
theorem Jr (s:List UInt8) (n:Nat):fU (cX Tryz.prog 126) (al Tryz.prog 126) [(0,vs s),(1,vi (n:Int))]=some (.agg #[vs s,vi (n:Int)]):=by
 rw[show cX Tryz.prog 126=some [(0,1),(1,1)] from id (by kernel_rfl),show al Tryz.prog 126=some (.agg #[vs [],vi 0]) from id (by kernel_rfl)];rfl
theorem w3 {X:aA} {c:Nat} {x:Obj} (h:eG X c) {b:Nat} {o:Obj} (hb:Sx.look X b=some o):Sx.look ((c,x)::X) b=some o:=by
 have:=cY h (bV hb)
 simp only[Sx.look]
 rw[if_neg (by omega)];exact hb
structure OfKG where
 i:Nat
 G:DkG
 X:aA
structure OvKG where
 vis:List Nat
 dn:List (List UInt8×Option Nat)
 lf:List (List UInt8×Option Nat)
 it:Obj
 G:DkG
 X:aA
def FiB (l:List FiL):Prop:= ∀f,f∈l→f.name.length<1099511627776∧f.data.length<1099511627776
set_option linter.defProp false
def bq:=And.intro (And.intro (And.intro (And.intro (@ay) (@ax)) (And.intro (@lD) (And.intro (@mT) (@mR)))) (And.intro (And.intro (@mS) (@QQ)) (And.intro (@Or) (And.intro (@Sx.tup2_0) (@Sx.tup2_1))))) (And.intro (And.intro (And.intro (@wF) (@yl)) (And.intro (@NX) (And.intro (@Nt) (@OS)))) (And.intro (And.intro (@M7) (@qu)) (And.intro (@Sx.tup3_0) (And.intro (@Sx.tup3_1) (@Sx.tup3_2)))))
theorem Mr (quota:Int) (v:Value) (l:List FiL) (w:World) (hq: -9223372036854775808≤quota∧quota<9223372036854775808) (hG:mX w) (hv:FiSl w v l) (hl:l.length<1000000) (hb:FiB l):
  Rets Tryz.prog 16 #[vi quota,v] w (XS w [] (fun v D=> ∃G,v=vp G.bd 0∧DkP D G (ofD quota l))):=by
 have ln:=hv.len
 obtain⟨rb,off,arr,E,fz,hr⟩:=hv.row
 refine Rets.enterX Tryz.func16 rfl (rs:= [.tmp 4]) Tryz.results16 Tryz.ntmps16 (fun p hp=>by cases hp) (by simp[keys]) ?_
 refine kf ?_
 first|with_reducible refine ks [] @bq ?_|refine kp @bq ?_
 refine Ow.callC rfl rfl Tryz.call28 (fun w' aB=>wb quota w' hq (by obtain⟨e,f,hg⟩:=hG;exact⟨e,f,by rw[aB.old _ (Array.getElem?_eq_some_iff.1 hg).1 (by simp[keys])];exact hg⟩)) (fun B2 v2 D2 ai fh bw bl=> ?_)
 obtain⟨G0,rfl,kl⟩:=bl
 rw[List.nil_append]
 have k8:New w.heap.size D2:=bw.mono fh
 refine ko @bq ?_
 first|with_reducible refine ks [] (And.intro @bq @ln) ?_|refine kp (And.intro @bq @ln) ?_
 refine Cw.loopG (G:=OfKG) [16,17,18,7,19,20,21,22,23,24,25,8,26,27,28,29,30,31,32,33,34,35,36,37,38,39,40,41,42,43,44,45,46,47,48,49,50,51,52,15] (fun g=> [(15,vi g.i)]) (fun g=>g.X) (fun g=>g.i≤l.length∧DkP g.X g.G ((l.take g.i).foldl co (eV quota))∧g.G.bd=G0.bd∧New w.heap.size g.X) (fun g=>l.length - g.i) ⟨0,G0,D2⟩ rfl rfl ?_ ?_
 ·exact⟨Nat.zero_le _,kl,rfl,k8⟩
 intro g j hg
 refine kv ?_
 clear kl k8
 obtain⟨i,G,X⟩:=g
 simp only at hg ⊢
 obtain⟨hi,hP,bJ,hN⟩:=hg
 rw[←bJ]
 by_cases aC:i<l.length
 ·have d1:decide ((i:Int)< (l.length:Int))=true:=decide_eq_true (by omega)
  have rV:=hr.lt (by omega)
  have ixl:=hr.idx true i aC
  have ldl:=hr.load lX (by omega) aC
  have rdl:aM w X rb=some (.cells arr E fz):=by rw[j7 (hN.not rV)];exact hr.has (by omega)
  have jo: (l.take (i+1)).foldl co (eV quota)=co ((l.take i).foldl co (eV quota)) (l.getD i fi0):=by
   rw[StP.take_snoc (z:=fi0) aC,List.foldl_append];rfl
  have vG:=hb (l.getD i fi0) (by rw[List.getD_eq_getElem?_getD,List.getElem?_eq_getElem aC];exact List.getElem_mem _)
  generalize l.getD i fi0=r at*
  generalize (l.take i).foldl co (eV quota)=S at*
  first|with_reducible refine ks [] (And.intro @bq (And.intro @d1 (And.intro @ixl (And.intro @rdl (@ldl))))) ?_|refine kp (And.intro @bq (And.intro @d1 (And.intro @ixl (And.intro @rdl (@ldl))))) ?_
  refine Ow.alloc rfl rfl zrFi fun b7 vC o5=> ?_
  simp only[bL,List.nil_append,List.cons_append]
  refine Ow.permL (M:=(b7, .cells (fiC fi0).toArray 36 (0,0))::X) (by classical exact List.perm_iff_count.2 fun a=>by simp only[List.count_append,List.count_cons,List.count_nil]<;>omega) ?_
  refine ko @bq ?_
  have aS:DkP ((b7, .cells (fiC r).toArray 36 (0,0))::X) G S:=hP.mono fun b o h=>w3 vC h
  have rO:Sx.look ((b7,Obj.cells (fiC r).toArray 36 (0,0))::X) b7=some (.cells (fiC r).toArray 36 (0,0)):=by simp[Sx.look]
  have bX:New w.heap.size ((b7,Obj.cells (fiC r).toArray 36 (0,0))::X):=⟨o5,hN⟩
  generalize (b7,Obj.cells (fiC r).toArray 36 (0,0))::X=L1 at*
  have jJ:=aL (w0:=w) rO
  have kF:=aL (w0:=w) aS.disk
  obtain⟨om,jI,hM⟩:=aS.dirs
  first|with_reducible refine ks [] @bq ?_|refine kp @bq ?_
  refine Cw.regionS [G.bd,b7] [0,1,2,4,3,5,6,7] [] (by kernel_rfl) (by kernel_rfl) (by kernel_rfl) ?_
  simp only[ar, ↓ap, ↓ag, ↓an, ↓am,ah]
  refine kq (And.intro @bq (And.intro @kF (@jJ))) ?_
  refine Ow.soft rfl rfl rfl ?_
  refine Ow.mapGetG (encK:=vs) (encV:=ab) (k:=r.dir) (z:=none) rfl rfl Tryz.underlying121 gr zrPd rfl rfl (aL jI) hM ?_
  with_reducible refine Ow.nil ?_
  refine⟨by intro b hb;simp only[List.mem_cons,List.not_mem_nil,or_false] at hb;(try subst hb);rfl, ?_⟩
  rw[wJ]
  cases rg:bT r.dir with
  |none=>
   have g9:ab none= .pointer none:=rfl
   refine kq (And.intro @bq @g9) ?_
   try with_reducible refine Ow.nil ?_
   first|with_reducible refine ks [] @bq ?_|refine kp @bq ?_
   exact Again.mk ⟨i+1,G,L1⟩ (by show l.length - (i+1)<l.length - i;omega) ⟨aC,by show DkP L1 G ((l.take (i+1)).foldl co (eV quota));rw[jo];unfold co;rw[rg];exact aS,rfl,bX⟩ rfl rfl
  |some k=>
   have hp: ∀q:Nat,ab (some q)=vp q 0:=fun _=>rfl
   have aa:=(g5 rg).1
   refine kq (And.intro @bq @hp) ?_
   try with_reducible refine Ow.nil ?_
   first|with_reducible refine ks [] (And.intro @bq @jJ) ?_|refine kp (And.intro @bq @jJ) ?_
   refine Ow.callFV rfl Tryz.call74 (fun w' aB=>V0 r.name w' vG.1) ?_
   have mn: ¬ (cI r.name=true∧r.data.length≤1048576)→co S r=S:=fun h=>by unfold co;rw[rg];simp only;rw[if_neg h]
   cases eu:cI r.name with
   |false=>
    refine ko @bq ?_
    first|with_reducible refine ks [] @bq ?_|refine kp @bq ?_
    exact Again.mk ⟨i+1,G,L1⟩ (by show l.length - (i+1)<l.length - i;omega) ⟨aC,by show DkP L1 G ((l.take (i+1)).foldl co (eV quota));rw[jo,mn (fun h=>by rw[eu] at h;cases h.1)];exact aS,rfl,bX⟩ rfl rfl
   |true=>
    by_cases gl:r.data.length≤1048576
    ·have d2:decide ((r.data.length:Int)≤1048576)=true:=decide_eq_true (by omega)
     have ce:=aL (w0:=w) (aS.dir k aa)
     obtain⟨os,ms,fq,fG,gP⟩:=aS.seen k aa
     refine ko (And.intro @bq (And.intro @jJ (@d2))) ?_
     first|with_reducible refine ks [] @bq ?_|refine kp @bq ?_
     refine Cw.regionS [G.d k,b7] [0,1,2,4,6,8,3,5,7,9,10,11,12,13] [13] (by kernel_rfl) (by kernel_rfl) (by kernel_rfl) ?_
     simp only[ar, ↓ap, ↓ag, ↓an, ↓am,ah]
     refine kq (And.intro @bq (And.intro @ce (@jJ))) ?_
     refine Ow.build (.agg #[vs r.data,vi (r.data.length:Int)]) rfl (Jr r.data r.data.length) ?_
     refine kq @bq ?_
     refine Ow.soft rfl rfl rfl ?_
     refine Ow.box rfl rfl fun b8 rB Dr=> ?_
     simp only[eU,eT,ed,bL]
     have aw:=(aS.mono (X':=L1++ [(b8,cQ ⟨r.data,r.data.length⟩)]) fun b o h=>aq h).addFile (p5 rB) (fun hm=>by have:=cY rB (aS.fb_key hm);omega) ⟨gl,Nat.le_refl _⟩
     have bw:New w.heap.size (L1++ [(b8,cQ ⟨r.data,r.data.length⟩)]):=bX.app (show New w.heap.size [(b8,cQ ⟨r.data,r.data.length⟩)] from⟨Dr,trivial⟩)
     refine Ow.permL (M:=L1++ [(b8,cQ ⟨r.data,r.data.length⟩)]) (List.Perm.refl _) ?_
     have U4:=aL (w0:=w) (aq (M:= [(b8,cQ ⟨r.data,r.data.length⟩)]) (aS.dir k aa))
     have hu2:=aL (w0:=w) (aq (M:= [(b8,cQ ⟨r.data,r.data.length⟩)]) rO)
     generalize L1++ [(b8,cQ ⟨r.data,r.data.length⟩)]=L2 at*
     with_reducible refine Ow.nil ?_
     refine⟨fun b hb=>by
      simp only[List.mem_cons,List.not_mem_nil,or_false] at hb
      rcases hb with rfl|rfl
      ·rw[U4,ce]
      ·rw[hu2,jJ], ?_⟩
     obtain⟨os2,ms2,qQ,TM,TT⟩:=aw.seen k aa
     refine kq @bq ?_
     refine Ow.mapUpdateG (encK:=vs) (encV:=ab) (k:=r.name) (v:=some b8) rfl rfl Tryz.underlying127 gr rfl rfl rfl qQ TM (fun o3 hm3=> ?_)
     have BC:=TT.put (aw.ok.seen k aa).nodup r.name S.files.length
     have dq: (addF G b8).fb.getD S.files.length 0=b8:=ut _ _ hP.len
     rw[dq] at BC
     have dy:=aw.seen1 (L:=setB L2 (G.s k) o3) aa (l':=gY (S.dir k).seen (r.name,S.files.length)) (fun b o hb h1=>(bH (Ne.symm h1)).trans hb) ⟨o3,_,ee qQ,hm3,BC⟩ (CF _ (aw.ok.seen k aa)) (CJ (c:=⟨0,r.name,[],S.files.length⟩) (aw.ok.seenN k aa) (fun h=>by cases h) (fun _=>by show S.files.length< (S.files++ [_]).length;simp))
     have dY:New w.heap.size (setB L2 (G.s k) o3):=New.of_le fun q hq=>bw.le q (by rwa [j9] at hq)
     refine ko @bq ?_
     first|with_reducible refine ks [] @bq ?_|refine kp @bq ?_
     exact Again.mk ⟨i+1,addF G b8,setB L2 (G.s k) o3⟩ (by show l.length - (i+1)<l.length - i;omega) ⟨aC,by show DkP (setB L2 (G.s k) o3) (addF G b8) ((l.take (i+1)).foldl co (eV quota));rw[jo];unfold co;rw[rg];simp only;rw[if_pos ⟨eu,gl⟩];exact dy,rfl,dY⟩ rfl rfl
    ·have d2:decide ((r.data.length:Int)≤1048576)=false:=decide_eq_false (by omega)
     refine ko (And.intro @bq (And.intro @jJ (@d2))) ?_
     first|with_reducible refine ks [] @bq ?_|refine kp @bq ?_
     exact Again.mk ⟨i+1,G,L1⟩ (by show l.length - (i+1)<l.length - i;omega) ⟨aC,by show DkP L1 G ((l.take (i+1)).foldl co (eV quota));rw[jo,mn (fun h=>gl h.2)];exact aS,rfl,bX⟩ rfl rfl
 ·obtain rfl:i=l.length:=by omega
  have d1:decide ((l.length:Int)< (l.length:Int))=false:=decide_eq_false (by omega)
  rw[List.take_length] at hP
  unfold ofD
  generalize l.foldl co (eV quota)=S at*
  have kF:=aL (w0:=w) hP.disk
  obtain⟨om,jI,hM⟩:=hP.dirs
  first|with_reducible refine ks [] (And.intro @bq (And.intro @d1 (@kF))) ?_|refine kp (And.intro @bq (And.intro @d1 (@kF))) ?_
  refine Ow.rangeMapG (encK:=vs) (encV:=ab) rfl rfl Tryz.underlying121 rfl (aL jI) hM fun bi oi AQ gp hI=> ?_
  refine Ow.permL (M:=(bi,oi)::X) (by classical exact List.perm_iff_count.2 fun a=>by simp only[List.count_append,List.count_cons,List.count_nil]<;>omega) ?_
  have AO:bi∉keys X:=fun hm=>by have:=cY AQ hm;omega
  refine ko @bq ?_
  first|with_reducible refine ks [] @bq ?_|refine kp @bq ?_
  refine Cw.loopG (G:=OvKG) [58,59,60,61,10,62,63] (fun g=> []) (fun g=>(bi,g.it)::g.X) (fun g=>ItG vs ab g.it G.bm om (ma G) g.dn g.lf∧DkP g.X g.G (setV S g.vis)∧g.dn.map Prod.fst=g.vis.map aH∧(∀k,k∈g.vis→k<3)∧bi∉keys g.X∧g.G.d=G.d∧g.G.bm=G.bm∧g.G.bd=G.bd∧Sx.look g.X G.bm=some om∧New w.heap.size g.X) (fun g=>g.lf.length) ⟨[],[],ma G,oi,G,X⟩ rfl rfl ?_ ?_
  ·exact⟨hI,by rw[N3];exact hP,rfl,fun k hk=>(by cases hk),AO,rfl,rfl,rfl,jI,hN⟩
  intro g j hg
  refine kv ?_
  clear hI hP hN AO kF
  obtain⟨vis,dn,lf,it,G1,X1⟩:=g
  simp only at hg ⊢
  obtain⟨hI,hP,X9,U7,AO,Aj,Wg,Wf,qP,hN⟩:=hg
  have TU: ∀x b o,Sx.look X1 b=some o→Sx.look ((bi,x)::X1) b=some o:=fun x b o hb=>by
   simp only[Sx.look]
   rw[if_neg (fun e=>AO (by have e':b=bi:=(by omega);rw[←e'];exact bV hb))]
   exact hb
  first|with_reducible refine ks [] @bq ?_|refine kp @bq ?_
  refine Ow.nextMapG rfl rfl rfl (sA _ _ _) (aL (TU _ _ _ qP)) hI (fun kD=> ?_) (fun p it' lf' l6 kj=> ?_)
  ·subst kD
   have hp:=rr hI
   rw[List.append_nil] at hp
   refine ko @bq ?_
   first|with_reducible refine ks [] @bq ?_|refine kp @bq ?_
   refine⟨_,(ke @bq), ?_⟩
   refine⟨Ext.of_new ⟨gp,hN⟩,G1,by rw[Wf];rfl, ?_⟩
   rw[show setV S [0,1,2]=setV S vis from JY S fun k=>⟨fun hk=> ?_,fun hk=> ?_⟩]
   ·exact hP.mono fun b o hb=>TU _ _ _ hb
   ·have aa:k<3:=by simp only[List.mem_cons,List.not_mem_nil,or_false] at hk;omega
    have hm:aH k∈dn.map Prod.fst:=by
     refine List.mem_map.2 ⟨(aH k,some (G.d k)),hp.mem_iff.2 ?_,rfl⟩
     have:k=0∨k=1∨k=2:=by omega
     rcases this with rfl|rfl|rfl<;>simp[ma,aH]
    rw[X9] at hm
    obtain⟨j,hj,e⟩:=List.mem_map.1 hm
    have h1:=og (U7 j hj)
    rw[e,og aa] at h1
    cases h1;exact hj
   ·have:=U7 k hk
    simp only[List.mem_cons,List.not_mem_nil,or_false];omega
  ·refine kn ?_
   refine ko @bq ?_
   first|with_reducible refine ks [] @bq ?_|refine kp @bq ?_
   refine Ow.entryMapG (encK:=vs) (encV:=ab) rfl rfl rfl (qc _ _ _ _) (aL (TU _ _ _ qP)) kj ?_
   have hp:=rr kj
   obtain⟨k,aa,rfl⟩:=wg (hp.mem_iff.1 (List.mem_append_left _ (List.mem_append_right _ List.mem_cons_self)))
   have hpp: ∀q:Nat,ab (some q)=vp q 0:=fun _=>rfl
   refine ko (And.intro @bq @hpp) ?_
   first|with_reducible refine ks [] @bq ?_|refine kp @bq ?_
   refine Ow.permL (M:=X1++ [(bi,it')]) (by classical exact List.perm_iff_count.2 fun a=>by simp only[List.count_append,List.count_cons,List.count_nil]<;>omega) ?_
   refine Ow.callX (X:=X1) (Y:= [(bi,it')]) rfl rfl rfl Tryz.call75 (fun w' aB aQ aN=>by rw[show vp (G.d k) 0=vp (G1.d k) 0 by rw[Aj]];exact UZ X1 G1 (setV S vis) k w' aQ aN hP aa) (fun v4 D4 au aZ=> ?_)
   obtain⟨rfl,di,fZ⟩:=aZ
   rw[I4] at di
   have hbm2:=hP.dirs
   have Ta:Sx.look D4 G.bm=some om:=fZ _ _ qP (by rw[←Wg];exact(hP.nodb k aa).2) (fun e=>by
    have h1:=hP.dir k aa
    rw[←e,qP] at h1
    cases h1
    obtain⟨es,cl,h,-⟩:=hM;cases h)
   have hbD:bi∉keys D4:=fun hm=>by
    rcases au.new bi hm with h| ⟨h,-⟩
    ·exact AO h
    ·have:=cY h (b:=bi) (by rw[bO];simp[keys]);omega
   have fi:New w.heap.size D4:=qd au hN
   refine Ow.permL (M:=(bi,it')::D4) (by classical exact List.perm_iff_count.2 fun a=>by simp only[List.count_append,List.count_cons,List.count_nil]<;>omega) ?_
   refine ko @bq ?_
   first|with_reducible refine ks [] @bq ?_|refine kp @bq ?_
   exact Again.mk ⟨vis++ [k],dn++ [(aH k,some (G.d k))],lf',it',nM G1 k (G1.s k),D4⟩ (by show lf'.length<lf.length;omega) ⟨kj,di,by show(dn++ [_]).map Prod.fst=(vis++ [k]).map aH;rw[List.map_append,List.map_append,X9];rfl,fun j hj=>by
    rcases List.mem_append.1 hj with hj|hj
    ·exact U7 j hj
    ·rw[List.mem_singleton.1 hj];exact aa,hbD,Aj,Wg,Wf,Ta,fi⟩ rfl rfl
end Go.Proofs
end
section
namespace Go.Proofs
open Go Go.Sx Go.StP Go.Shelf
set_option maxRecDepth 100000
def Tryz.keysL_ren:Go.Shelf.Ren:=⟨fun|7=>124|10=>164|n=>n,fun|23=>127|26=>9|3=>124|28=>185|0=>0|27=>184|33=>74|4=>4|n=>n,fun|n=>n⟩
theorem Tryz.keysL:Go.Proofs.SlLaysZ.n7 Tryz.prog Tryz.keysL_ren:={
 mixed:=by kernel_rfl
 f7:=⟨Tryz.f124.name,by decide,Tryz.func124.trans (congrArg some (by kernel_rfl))⟩
 f10:=⟨Tryz.f164.name,by decide,Tryz.func164.trans (congrArg some (by kernel_rfl))⟩
 t0:=Tryz.underlying0
 a0:=Tryz.isAgg0
 z0:=Tryz.sizeOf0
 v0:=Tryz.zeroValue0
 t4:=Tryz.underlying4
 a4:=Tryz.isAgg4
 z4:=Tryz.sizeOf4
 v4:=Tryz.zeroValue4
 t23:=Tryz.underlying127
 a23:=Tryz.isAgg127
 z23:=Tryz.sizeOf127
 v23:=Tryz.zeroValue127
 t26:=Tryz.underlying9
 a26:=Tryz.isAgg9
 z26:=Tryz.sizeOf9
 v26:=Tryz.zeroValue9
 t27:=Tryz.underlying184
 a27:=Tryz.isAgg184
 z27:=Tryz.sizeOf184
 v27:=Tryz.zeroValue184
 t28:=Tryz.underlying185
 a28:=Tryz.isAgg185
 z28:=Tryz.sizeOf185
 v28:=Tryz.zeroValue185
 t33:=Tryz.underlying74
 a33:=Tryz.isAgg74
 z33:=Tryz.sizeOf74
 v33:=Tryz.zeroValue74}
def Tryz.sortedL_ren:Go.Shelf.Ren:=⟨fun|6=>123|8=>162|9=>163|11=>192|13=>194|12=>193|23=>225|24=>226|14=>216|15=>217|16=>218|17=>219|18=>220|19=>221|20=>222|21=>223|22=>224|25=>236|26=>237|27=>238|28=>239|29=>240|30=>241|31=>248|n=>n,fun|26=>9|28=>185|24=>72|0=>0|3=>3|37=>219|48=>207|50=>252|4=>4|40=>284|39=>283|45=>288|5=>5|9=>9|51=>301|55=>305|57=>316|58=>77|33=>74|n=>n,fun|n=>n⟩
theorem Tryz.sortedL:Go.Proofs.SlLaysZ.n6 Tryz.prog Tryz.sortedL_ren:={
 mixed:=by kernel_rfl
 f6:=⟨Tryz.f123.name,by decide,Tryz.func123.trans (congrArg some (by kernel_rfl))⟩
 f8:=⟨Tryz.f162.name,by decide,Tryz.func162.trans (congrArg some (by kernel_rfl))⟩
 f11:=⟨Tryz.f192.name,by decide,Tryz.func192.trans (congrArg some (by kernel_rfl))⟩
 t0:=Tryz.underlying0
 a0:=Tryz.isAgg0
 z0:=Tryz.sizeOf0
 v0:=Tryz.zeroValue0
 t24:=Tryz.underlying72
 a24:=Tryz.isAgg72
 z24:=Tryz.sizeOf72
 v24:=Tryz.zeroValue72
 t26:=Tryz.underlying9
 a26:=Tryz.isAgg9
 z26:=Tryz.sizeOf9
 v26:=Tryz.zeroValue9
 t28:=Tryz.underlying185
 a28:=Tryz.isAgg185
 z28:=Tryz.sizeOf185
 v28:=Tryz.zeroValue185
 i26:=by kernel_rfl}
def Tryz.sortL_ren:Go.Shelf.Ren:=⟨fun|6=>163|8=>194|9=>193|19=>225|20=>226|21=>216|22=>217|23=>218|24=>219|25=>220|26=>221|27=>222|28=>223|29=>224|36=>236|31=>237|32=>238|37=>239|38=>240|39=>241|41=>248|n=>n,fun|27=>72|29=>9|3=>3|32=>219|26=>72|0=>0|44=>207|46=>252|4=>4|36=>284|35=>283|41=>288|5=>5|9=>9|53=>301|57=>305|63=>316|64=>77|n=>n,fun|n=>n⟩
theorem Tryz.sortL:Go.Proofs.SlLaysM.n6 Tryz.prog Tryz.sortL_ren:={
 mixed:=by kernel_rfl
 f6:=⟨Tryz.f163.name,by decide,Tryz.func163.trans (congrArg some (by kernel_rfl))⟩
 f8:=Tryz.func194.trans (congrArg some (by kernel_rfl))
 f9:=⟨Tryz.f193.name,by decide,Tryz.func193.trans (congrArg some (by kernel_rfl))⟩
 f19:=Tryz.func225.trans (congrArg some (by kernel_rfl))
 f20:=Tryz.func226.trans (congrArg some (by kernel_rfl))
 f21:=⟨Tryz.f216.name,by decide,Tryz.func216.trans (congrArg some (by kernel_rfl))⟩
 f22:=⟨Tryz.f217.name,by decide,Tryz.func217.trans (congrArg some (by kernel_rfl))⟩
 f23:=⟨Tryz.f218.name,by decide,Tryz.func218.trans (congrArg some (by kernel_rfl))⟩
 f24:=⟨Tryz.f219.name,by decide,Tryz.func219.trans (congrArg some (by kernel_rfl))⟩
 f25:=⟨Tryz.f220.name,by decide,Tryz.func220.trans (congrArg some (by kernel_rfl))⟩
 f26:=⟨Tryz.f221.name,by decide,Tryz.func221.trans (congrArg some (by kernel_rfl))⟩
 f27:=⟨Tryz.f222.name,by decide,Tryz.func222.trans (congrArg some (by kernel_rfl))⟩
 f28:=⟨Tryz.f223.name,by decide,Tryz.func223.trans (congrArg some (by kernel_rfl))⟩
 f29:=⟨Tryz.f224.name,by decide,Tryz.func224.trans (congrArg some (by kernel_rfl))⟩
 f31:=Tryz.func237.trans (congrArg some (by kernel_rfl))
 f32:=Tryz.func238.trans (congrArg some (by kernel_rfl))
 f36:=⟨Tryz.f236.name,by decide,Tryz.func236.trans (congrArg some (by kernel_rfl))⟩
 f37:=⟨Tryz.f239.name,by decide,Tryz.func239.trans (congrArg some (by kernel_rfl))⟩
 f38:=⟨Tryz.f240.name,by decide,Tryz.func240.trans (congrArg some (by kernel_rfl))⟩
 f39:=⟨Tryz.f241.name,by decide,Tryz.func241.trans (congrArg some (by kernel_rfl))⟩
 f41:=⟨Tryz.f248.name,by decide,Tryz.func248.trans (congrArg some (by kernel_rfl))⟩
 t0:=Tryz.underlying0
 a0:=Tryz.isAgg0
 z0:=Tryz.sizeOf0
 v0:=Tryz.zeroValue0
 t3:=Tryz.underlying3
 a3:=Tryz.isAgg3
 z3:=Tryz.sizeOf3
 v3:=Tryz.zeroValue3
 t4:=Tryz.underlying4
 a4:=Tryz.isAgg4
 z4:=Tryz.sizeOf4
 v4:=Tryz.zeroValue4
 t5:=Tryz.underlying5
 a5:=Tryz.isAgg5
 z5:=Tryz.sizeOf5
 v5:=Tryz.zeroValue5
 t9:=Tryz.underlying9
 a9:=Tryz.isAgg9
 z9:=Tryz.sizeOf9
 v9:=Tryz.zeroValue9
 t26:=Tryz.underlying72
 a26:=Tryz.isAgg72
 z26:=Tryz.sizeOf72
 v26:=Tryz.zeroValue72
 t27:=Tryz.underlying72
 a27:=Tryz.isAgg72
 z27:=Tryz.sizeOf72
 v27:=Tryz.zeroValue72
 t29:=Tryz.underlying9
 a29:=Tryz.isAgg9
 z29:=Tryz.sizeOf9
 v29:=Tryz.zeroValue9
 t32:=Tryz.underlying219
 a32:=Tryz.isAgg219
 z32:=Tryz.sizeOf219
 v32:=Tryz.zeroValue219
 t35:=Tryz.underlying283
 a35:=Tryz.isAgg283
 z35:=Tryz.sizeOf283
 v35:=Tryz.zeroValue283
 t36:=Tryz.underlying284
 a36:=Tryz.isAgg284
 z36:=Tryz.sizeOf284
 v36:=Tryz.zeroValue284
 t41:=Tryz.underlying288
 a41:=Tryz.isAgg288
 z41:=Tryz.sizeOf288
 v41:=Tryz.zeroValue288
 t44:=Tryz.underlying207
 a44:=Tryz.isAgg207
 z44:=Tryz.sizeOf207
 v44:=Tryz.zeroValue207
 t46:=Tryz.underlying252
 a46:=Tryz.isAgg252
 z46:=Tryz.sizeOf252
 v46:=Tryz.zeroValue252
 t53:=Tryz.underlying301
 a53:=Tryz.isAgg301
 z53:=Tryz.sizeOf301
 v53:=Tryz.zeroValue301
 t57:=Tryz.underlying305
 a57:=Tryz.isAgg305
 z57:=Tryz.sizeOf305
 v57:=Tryz.zeroValue305
 t63:=Tryz.underlying316
 a63:=Tryz.isAgg316
 z63:=Tryz.sizeOf316
 v63:=Tryz.zeroValue316
 t64:=Tryz.underlying77
 a64:=Tryz.isAgg77
 z64:=Tryz.sizeOf77
 v64:=Tryz.zeroValue77}
open Go.RowKit Go.Maps Go.Sort
theorem QU (m:Nat):AnyZ.SortsIn Tryz.prog Tryz.sortedL_ren Fence.wide m:=
 ⟨fun blk off cap ss W hH SZ fr=>callsIn_wide.2 (AnyM.slices_Sort_string Tryz.sortL blk off cap ss W hH SZ fr),
 fun p cap W=>callsIn_wide.2 (AnyM.slices_Sort_string_none Tryz.sortL p cap W)⟩
theorem KA {a b:List UInt8} (h:ltB a b=true):leB a b=true:=by
 rw[un,decide_eq_true_eq] at h
 simp only[leB,decide_eq_true_eq]
 exact List.le_of_lt h
theorem LQ {l:NmL} (h:SrtN l) {ss:List (List UInt8)} (hp:ss.Perm (l.map Prod.fst)):ss.mergeSort (fun x y=>decide (x≤y))=l.map Prod.fst:=by
 show ss.mergeSort leB=_
 rw[mergeSort_of_perm hp]
 refine List.mergeSort_of_pairwise ?_
 exact List.pairwise_map.2 (h.imp fun h=>KA h)
theorem QN {W:World} {base n:Nat} {T:TypeId} {v:Value} {xs:List Value} (h:W.ownsRow base T 1 v n xs): ∃D:aA,(∀p,p∈D→W.heap[p.1]? =some p.2∧base≤p.1)∧(keys D).Nodup∧Gr D T 1 v n xs:=by
 obtain⟨hl,h⟩:=h
 rcases h with⟨rfl,rfl⟩ | ⟨g,cap,cur,rfl,hb,hg,hc,hm,hs,ht⟩
 ·obtain rfl:xs= []:=List.eq_nil_of_length_eq_zero (by simpa using hl)
  exact⟨[],fun p hp=>(by cases hp),List.nodup_nil,Gr.nl⟩
 ·refine⟨[(g, .cells cur T (0,0))], ?_,by simp[keys], ?_⟩
  ·intro p hp
   simp only[List.mem_singleton] at hp
   subst hp
   exact⟨hg,hb⟩
  ·by_cases h0:0<cap
   ·refine .inl (Buf.at_ (rest:=cur.toList.drop (n*1)) ?_ hl ?_ hc h0)
    ·rw[←ht,List.take_append_drop]
     simp[Sx.look]
    ·rw[List.length_drop,Array.length_toList,hs];omega
   ·obtain rfl:cap=0:=by omega
    obtain rfl:n=0:=by omega
    refine .inr ⟨rfl,List.eq_nil_of_length_eq_zero (by simpa using hl),g,rfl, ?_⟩
    have:cur= #[]:=Array.eq_empty_of_size_eq_zero (by simpa using hs)
    simp[Sx.look,this]
def RN (_:Value):Option (DataW Unit×List MemPlace):=some (.nil,[])
theorem OD {w:World} {b:Nat} {o:Obj} {m:List (List UInt8×Option Nat)} (ho:w.heap[b]? =some o) (hM:eD vs ab o m) (hn: (m.map Prod.fst).Nodup) (hk: ∀p,p∈m→p.1.length≤1000000) (hs:m.length≤1000000):
  ∃D0:DataW Unit,w.ownsMap Tryz.prog 9 RN b m.length D0∧Maps.size D0≤1000000∧(strKeys D0).Perm (m.map Prod.fst):=by
 obtain⟨es,clock,rfl,he,hb⟩:=hM
 have aP:es.size=m.length:=by have:=congrArg List.length he;simpa using this
 have tz:es.toList.map (·.key)=m.map fun p=>vs p.1:=by
  have:=congrArg (List.map Prod.fst) he
  simpa [gS,Function.comp_def] using this
 have ce: ∀x,x∈es.toList→ ∃s:List UInt8,x.key=vs s∧s.length≤1000000:=by
  intro x hx
  have:x.key∈m.map fun p=>vs p.1:=by rw[←tz];exact List.mem_map.2 ⟨x,hx,rfl⟩
  obtain⟨p,hp,e⟩:=List.mem_map.1 this
  exact⟨p.1,e.symm,hk p hp⟩
 have mJ: ∀x,x∈es.toList→ ∀s:List UInt8,x.key=vs s→s.length≤1000000→WideElems.rd Tryz.prog 9 RN x=some (.string s, .nil):=by
  intro x hx s hs hl
  have hL:s.length≤maxLen:=Nat.le_trans hl (by decide)
  have Zl: (ByteArray.mk s.toArray).size≤maxLen:=hL
  simp[WideElems.rd,keyOf,Tryz.underlying9,mapKey,hs,RN,vs,Zl]
 have iY:=List.pairwise_append.1 hb
 refine⟨_,⟨es,clock,ho,⟨?_,⟨?_, ?_, ?_⟩, ?_⟩,by omega,rfl⟩, ?_, ?_⟩
 ·rw[aP];exact Nat.le_trans hs (by decide)
 ·intro x hx
  exact iY.2.2 x.born (List.mem_map.2 ⟨x,hx,rfl⟩) clock (by simp)
 ·exact iY.1.imp fun h=>Nat.ne_of_lt h
 ·rw[tz]
  have: (m.map Prod.fst).map vs=m.map fun p=>vs p.1:=by simp[Function.comp_def]
  rw[←this]
  refine List.pairwise_map.2 (hn.imp fun h e=>h ?_)
  simpa [vs] using e
 ·intro x hx
  obtain⟨s,e,hl⟩:=ce x hx
  exact⟨_,mJ x hx s e hl⟩
 ·rw[Maps.size_eq,(WideShapes.sorted_perm _).length_eq,List.length_map,Array.length_toList,aP];exact hs
 ·show(List.map (fun p:Lit×DataW Unit=>strOf p.1) _).Perm _
  refine((WideShapes.sorted_perm _).map _).trans (List.Perm.of_eq ?_)
  rw[List.map_map]
  refine List.map_congr_left ?_|>.trans (?_:es.toList.map (fun x=>match x.key with| .string s=>s.data.toList|_=> [])=_)
  ·intro x hx
   obtain⟨s,e,hl⟩:=ce x hx
   simp only[Function.comp]
   rw[WideElems.rg_of (mJ x hx s e hl),e]
   rfl
  ·have:es.toList.map (fun x=>match x.key with| .string s=>s.data.toList|_=> [])=(es.toList.map (·.key)).map (fun k=>match k with| .string s=>s.data.toList|_=> []):=by rw[List.map_map];rfl
   rw[this,tz,List.map_map]
   rfl
theorem Fa (X:aA) (G:DkG) (S:DiskL) (k c:Nat) (w:World) (hP:DkP X G S) (hX: ∀b o,Sx.look X b=some o→w.heap[b]? =some o) (hk:k<3) (hs: (S.dir k).seen.length≤1000000) (hl: ∀p,p∈ (S.dir k).seen→p.1.length≤1000000)
  (hc:w.heap[c]? =some (.cells #[vm (G.s k)] 127 (0,0))):
  Rets Tryz.prog 123 #[.func (.func 164) #[] #[vp c 0]] w (XS w [] (fun v D=>GrI D 9 1 v (S.dir k).seen.length ((S.dir k).seen.map fun p=>vs p.1))):=by
 obtain⟨o,m,h1,h2,h3⟩:=hP.seen k hk
 have ho:=hX _ _ h1
 have aP:m.length=(S.dir k).seen.length:=by have:=h3.length_eq;simpa using this
 have hmk: ∀p,p∈m→p.1.length≤1000000:=by
  intro p hp
  have:=h3.mem_iff.1 hp
  obtain⟨q,hq,e⟩:=List.mem_map.1 this
  rw[←e];exact hl q hq
 obtain⟨D0,Tc,fr,BJ⟩:=OD ho h2 (h3.keys (hP.ok.seen k hk).nodup) hmk (by omega)
 have qC:=(Array.getElem?_eq_some_iff.1 hc).1
 have Ty:SeqGives Fence.wide 2 Tryz.prog 164 #[.pointer (some ⟨c,0,none⟩)] encStr (fun ss=>ss.Perm (strKeys D0)) (Maps.size D0) w:=
  AnyZ.keys_gives (ρ:=Tryz.keysL_ren) {Tryz.keysL with} Fence.wide _ trivial rfl (by omega) c (G.s k) m.length D0 _ qC (by simp[World.cell?,hc,vm]) Tc
 have h:=AnyZ.sorted_in Tryz.sortedL Fence.wide 5 trivial trivial trivial trivial rfl (by omega) (QU _) (enters_of Tryz.func163 (by kernel_rfl) rfl) 164 #[.pointer (some ⟨c,0,none⟩)] trivial (enters_of Tryz.func164 (by kernel_rfl) rfl) _ (Maps.size D0) (Nat.le_trans fr (by decide)) (by omega) w Ty
 refine Calls.mono (callsIn_wide.1 h) ?_
 rintro e w' ⟨v,ss,rfl,hS,Tu,-,hb⟩
 obtain⟨D,hD,Zb,hG⟩:=QN Tu
 have X4:ss.mergeSort (fun x y=>decide (x≤y))=(S.dir k).seen.map Prod.fst:=by
  refine LQ (hP.ok.seen k hk) ((hS.trans BJ).trans ?_)
  have:=h3.map Prod.fst
  refine this.trans (List.Perm.of_eq ?_)
  rw[List.map_map];rfl
 have cT:ss.length=(S.dir k).seen.length:=by
  have:=congrArg List.length X4
  simpa using this
 refine⟨v,D,rfl,⟨fun b o hm=>(hD _ hm).1,Zb,fun b dZ _=>hb.block b dZ,hb.size,hb.tape,hb.os,hb.output⟩,⟨fun b dZ=> ?_,fun b dZ=>(by cases dZ)⟩,⟨D,fun _ h=>h, ?_⟩⟩
 ·obtain⟨p,hp,rfl⟩:=List.mem_map.1 dZ
  exact .inr (hD p hp).2
 rw[X4,cT] at hG
 have: ((S.dir k).seen.map Prod.fst).map encStr=(S.dir k).seen.map fun p=>vs p.1:=by rw[List.map_map];rfl
 rw[this] at hG
 exact hG
end Go.Proofs
end
section
open Go Go.Proofs Go.Sx Go.StP
namespace Go.Proofs
set_option maxRecDepth 10000
set_option maxHeartbeats 400000
set_option linter.unusedSimpArgs false
theorem JD (b:Nat) (w:World):
  Rets Tryz.prog 124 #[vm b] w (XS w [] (fun v' D=> ∃b1,v'= .func (.func 164) #[] #[vp b1 0]∧D= [(b1, .cells #[vm b] 127 (0,0))])):=by
 refine Rets.enter Tryz.func124 rfl (rs:= [.tmp 2]) Tryz.results124 Tryz.ntmps124 ?_
 refine kf ?_
 first|with_reducible refine ks [] @Nat.add_zero ?_|refine kp @Nat.add_zero ?_
 refine Ow.box rfl rfl fun b1 bE aJ=> ?_
 simp only[eU,eT,vm,List.nil_append]
 refine ko @Nat.add_zero ?_
 refine⟨_,(ke @Nat.add_zero), ?_⟩
 exact⟨⟨fun c hc=>(by simp only[keys,List.map_cons,List.map_nil,List.mem_singleton] at hc;exact .inr (hc▸aJ)),fun c hc=>(by cases hc)⟩,b1,by simp[ck,ev,dv],rfl⟩
def DkB (S:DiskL):Prop:= ∀k,k<3→(S.dir k).seen.length≤1000000∧ ∀p,p∈ (S.dir k).seen→p.1.length≤1000000
def dW (S:DiskL) (dir:List UInt8):List (List UInt8):=if dV S dir []≠0 then [] else(S.dir ((bT dir).getD 0)).seen.map Prod.fst
set_option linter.defProp false
def mb:=And.intro (And.intro (And.intro (@ay) (@ax)) (And.intro (@lD) (@mT))) (And.intro (And.intro (@mR) (@mS)) (And.intro (@Sx.tup2_0) (And.intro (@Sx.tup2_1) (@qu))))
theorem EA (w:World) (G:DkG) (S:DiskL) (dir:List UInt8) (hD:DkW w G S) (hB:DkB S):
  Rets Tryz.prog 79 #[vp G.bd 0,vs dir] w (XS w [] (fun v D=>GrI D 9 1 v (dW S dir).length ((dW S dir).map vs))):=by
 have A8:=hD
 obtain⟨X,hX,hP⟩:=hD
 refine Rets.enter Tryz.func79 rfl (rs:= [.tmp 4]) Tryz.results79 Tryz.ntmps79 ?_
 refine kf ?_
 first|with_reducible refine ks [] @mb ?_|refine kp @mb ?_
 have bX:New w.heap.size ([]:aA):=trivial
 refine Ow.callC rfl rfl Tryz.call80 (fun w' aB=>Rets.toX (rk w' G S dir (.slice none 0 0) [] (A8.old aB bX) (SlV.nil w') (by simp) (fun s hs=>by cases hs))) (fun B2 v2 D2 ai fh bw bl=> ?_)
 obtain⟨rfl,bl⟩:=bl
 rw[List.append_nil]
 unfold dW
 rcases bl with⟨he,rfl⟩ | ⟨he,k,hk,rfl⟩
 ·rw[if_pos he]
  have e1:=jN he
  refine ko @mb ?_
  first|with_reducible refine ks [] (And.intro @mb @e1) ?_|refine kp (And.intro @mb @e1) ?_
  refine⟨_,(ke @mb), ?_⟩
  exact⟨Ext.refl w [],Gr.nl.i fun _ h=>h⟩
 ·rw[if_neg (by rw[he];simp),hk]
  have aa:=(g5 hk).1
  have et:=hX _ _ (hP.dir k aa)
  have e1: ((0:Int) !=0)=false:=rfl
  refine ko @mb ?_
  first|with_reducible refine ks [] (And.intro @mb (And.intro @e1 (@et))) ?_|refine kp (And.intro @mb (And.intro @e1 (@et))) ?_
  refine Ow.callC rfl rfl Tryz.call124 (fun w' aB=>JD (G.s k) w') (fun B3 v3 D3 cv kg dY fE=> ?_)
  obtain⟨b1,rfl,rfl⟩:=fE
  rw[List.nil_append]
  have dw:=dY.mono kg
  refine ko @mb ?_
  refine Ow.callC rfl rfl Tryz.call123 (fun w' aB=>Fa X G S k b1 w' hP (fun b o h=>(aB.old b (Array.getElem?_eq_some_iff.1 (hX b o h)).1 (dw.not (Array.getElem?_eq_some_iff.1 (hX b o h)).1)).trans (hX b o h)) aa (hB k aa).1 (hB k aa).2 (aB.has _ _ List.mem_cons_self)) (fun B4 v4 D4 jE r7 fi aZ=> ?_)
  refine ko @mb ?_
  refine⟨_,(ke @mb), ?_⟩
  refine⟨Ext.of_new (dw.app (fi.mono r7)), ?_⟩
  rw[List.length_map,List.map_map]
  exact aZ.mono fun p hp=>List.mem_cons_of_mem _ hp
end Go.Proofs
end
section
open Go Go.Proofs Go.Sx Go.StP
namespace Go.Proofs
set_option maxRecDepth 10000
set_option maxHeartbeats 400000
set_option linter.unusedSimpArgs false
def gW (S:DiskL) (k:Nat):List FiL:=(if S.off=true then [] else(S.dir k).seen).map fun p=>⟨aH k,p.1,(S.files.getD p.2 dC).data⟩
def gC (S:DiskL):Nat→List FiL
 |0=> []
 |k+1=>gC S k++gW S k
def pG (S:DiskL):List FiL:=gC S 3
theorem DD {S:DiskL} {k:Nat} (hk:k<3):dW S (aH k)=(if S.off=true then [] else(S.dir k).seen).map Prod.fst:=by
 unfold dW dV
 rw[og hk]
 cases S.off<;>simp
theorem DB (l:List (List UInt8)): (l.map strC).flatten=l.map vs:=by
 induction l with
 |nil=>rfl
 |cons x l ih=>simp[strC,ih]
theorem UE {S:DiskL} (hB:DkB S) {k:Nat} (hk:k<3): (gW S k).length≤1000000:=by
 unfold gW
 rw[List.length_map]
 split
 ·simp
 ·exact(hB k hk).1
theorem E3 {S:DiskL} (hB:DkB S): ∀k,k≤3→(gC S k).length≤k*1000000
 |0,_=>Nat.zero_le _
 |k+1,hk=>by
  have h1:=E3 hB k (by omega)
  have h2:=UE hB (k:=k) (by omega)
  show(gC S k++gW S k).length≤_
  rw[List.length_append];omega
structure FlG where
 k:Nat
 v:Value
 D1:aA
 DG:aA
structure FjG where
 j:Nat
 v:Value
 D1:aA
 DG:aA
set_option linter.defProp false
def i8:=And.intro (And.intro (And.intro (@ay) (And.intro (@ax) (@lD))) (And.intro (@mT) (And.intro (@mR) (@mS)))) (And.intro (And.intro (@uc) (And.intro (@ud) (@Sx.tup2_0))) (And.intro (@Sx.tup2_1) (And.intro (@qu) (@wF))))
theorem HO (w:World) (G:DkG) (S:DiskL) (hD:DkW w G S) (Ry:mX w) (hB:DkB S):
  Rets Tryz.prog 19 #[vp G.bd 0] w (XS w [] (fun v D=>GrI D 36 3 v (pG S).length ((pG S).map fiC).flatten)):=by
 have A8:=hD
 obtain⟨X,hX,hP⟩:=hD
 obtain⟨eg,fzg,qG⟩:=Ry
 have hd:=hX _ _ hP.disk
 obtain⟨om,jI,hM⟩:=hP.dirs
 have te:=hX _ _ jI
 have old: ∀b o,w.heap[b]? =some o→ ∀Y,New w.heap.size Y→aM w Y b=some o:=fun b o hb Y hY=>by
  rw[j7 (hY.not (Array.getElem?_eq_some_iff.1 hb).1)];exact hb
 refine Rets.enterX Tryz.func19 rfl (rs:= [.tmp 2]) Tryz.results19 Tryz.ntmps19 (fun p hp=>by cases hp) (by simp[keys]) ?_
 refine kf ?_
 first|with_reducible refine ks [] (And.intro @i8 (And.intro @qG (@rx))) ?_|refine kp (And.intro @i8 (And.intro @qG (@rx))) ?_
 refine Cw.permL (M:= []++ []) (List.Perm.refl _) ?_
 refine Cw.loopG (G:=FlG) [10,11,5,12,13,14,15,16,17,18,19,7,20,21,22,23,24,25,26,27,28,29,30,31,32,33,34,35,36,37,38,39,3,40,41,9] (fun g=> [(3,g.v),(9,vi g.k)]) (fun g=>g.D1++g.DG) (fun g=>g.k≤3∧New w.heap.size g.D1∧New w.heap.size g.DG∧Gr g.D1 36 3 g.v (gC S g.k).length ((gC S g.k).map fiC).flatten) (fun g=>3 - g.k) ⟨0, .slice none 0 0,[],[]⟩ rfl rfl ?_ ?_
 ·exact⟨Nat.zero_le _,trivial,trivial,Gr.nl⟩
 intro g j hg
 refine kv ?_
 obtain⟨k,v,D1,DG⟩:=g
 simp only at hg ⊢
 obtain⟨hk,bX,bw,cw⟩:=hg
 by_cases aC:k<3
 ·have d1:decide ((k:Int)<3)=true:=decide_eq_true (by omega)
  have ixk:=Bt aC
  have eN:=E3 hB k hk
  have gl:=UE hB aC
  first|with_reducible refine ks [10] (And.intro @i8 (And.intro @d1 (@ixk))) ?_|refine kp (And.intro @i8 (And.intro @d1 (@ixk))) ?_
  refine Ow.callC rfl rfl Tryz.call79 (fun w' aB=>EA w' G S (aH k) (A8.old aB (bX.app bw)) hB) (fun B3 v3 D3 cv kg dY fE=> ?_)
  rw[DD aC,←DB] at fE
  obtain⟨sn,iq⟩: ∃sn,(if S.off=true then [] else(S.dir k).seen)=sn:=⟨_,rfl⟩
  have th:gW S k=sn.map fun p=>⟨aH k,p.1,(S.files.getD p.2 dC).data⟩:=by unfold gW;rw[iq]
  have hsm: ∀p,p∈sn→p∈ (S.dir k).seen:=by
   intro p hp
   rw[←iq] at hp
   split at hp
   ·cases hp
   ·exact hp
  rw[iq] at fE
  rw[th,List.length_map] at gl
  have dw:New w.heap.size D3:=dY.mono kg
  have ln3:=oG fE
  rw[List.length_map] at ln3
  refine ko (And.intro @i8 @ln3) ?_
  refine Cw.world fun w1 aJ=> ?_
  obtain⟨rb,off,arr,E,fz,lW,bP⟩:=fE.rowL (z:= []) (by rw[List.length_map]) ((aJ.perm (M:=D3++ (D1++DG)) List.perm_append_comm).part) wE
  have TA: ∀ (G:aA),0<sn.length→aM w (D3++G) rb=some (.cells arr E fz):=by
   intro G h0
   exact aL (aq (bP (by rw[List.length_map];exact h0)))
  clear aJ bP
  refine Cw.permL (M:=D3++ (D1++DG)) List.perm_append_comm ?_
  refine Cw.loopG (G:=FjG) [17,18,19,7,20,21,22,23,24,25,26,27,28,29,30,31,32,33,34,35,36,37,38,39,3,40,16] (fun g=> [(3,g.v),(16,vi g.j)]) (fun g=>D3++ (g.D1++g.DG)) (fun g=>g.j≤sn.length∧New w.heap.size g.D1∧New w.heap.size g.DG∧Gr g.D1 36 3 g.v ((gC S k).length+g.j) ((gC S k++ (gW S k).take g.j).map fiC).flatten) (fun g=>sn.length - g.j) ⟨0,v,D1,DG⟩ rfl rfl ?_ ?_
  ·exact⟨Nat.zero_le _,bX,bw,by simpa using cw⟩
  intro g j hg
  refine kv ?_
  clear cw bX bw
  obtain⟨j,v,D1,DG⟩:=g
  simp only at hg ⊢
  obtain⟨hj,bX,bw,cw⟩:=hg
  by_cases hjt:j<sn.length
  ·have d2:decide ((j:Int)< (sn.length:Int))=true:=decide_eq_true (by omega)
   have rL:j< (sn.map Prod.fst).length:=by rw[List.length_map];exact hjt
   have ix3:=lW.idx false j rL
   have ld3:=fun n=>us lW rL n
   have rd3:=TA (D1++DG) (by omega)
   have hp:sn[j]'hjt∈ (S.dir k).seen:=hsm _ (List.getElem_mem _)
   have Tx: (sn.map Prod.fst).getD j []=(sn[j]'hjt).1:=by simp[List.getD_eq_getElem?_getD,hjt]
   have jo: (gW S k).take (j+1)=(gW S k).take j++ [⟨aH k,(sn[j]'hjt).1,(S.files.getD (sn[j]'hjt).2 dC).data⟩]:=by
    rw[th,List.take_add_one]
    simp[hjt]
   rw[Tx] at ld3
   generalize sn[j]'hjt=p at*
   obtain⟨x,n⟩:=p
   simp only at hp jo ld3
   have eu:aV (S.dir k).seen x=some n:=CV (hP.ok.seen k aC).nodup hp
   have cH:n<S.files.length:=hP.ok.seenN k aC _ hp
   have AG:New w.heap.size (D3++ (D1++DG)):=dw.app (bX.app bw)
   have rdd:=old _ _ hd _ AG
   have rdm:=old _ _ te _ AG
   have rdr:=old _ _ (hX _ _ (hP.dir k aC)) _ AG
   obtain⟨os,ms,fq,fG,gP⟩:=hP.seen k aC
   have rds:=old _ _ (hX _ _ fq) _ AG
   have rdf:=old _ _ (hX _ _ (hP.file n cH)) _ AG
   first|with_reducible refine ks [] (And.intro @i8 (And.intro @d2 (And.intro @ix3 (And.intro @ld3 (And.intro @rd3 (@rdd)))))) ?_|refine kp (And.intro @i8 (And.intro @d2 (And.intro @ix3 (And.intro @ld3 (And.intro @rd3 (@rdd)))))) ?_
   refine kq (And.intro @i8 @rdd) ?_
   refine Ow.mapGetG (encK:=vs) (encV:=ab) (k:=aH k) (z:=none) rfl rfl Tryz.underlying121 gr zrPd rfl rfl rdm hM ?_
   rw[wJ,og aC]
   show Ow _ _ _ _ _ _ _ _
   have jl:ab (some (G.d k))=vp (G.d k) 0:=rfl
   refine ko (And.intro @i8 (And.intro @jl (@rdr))) ?_
   refine Ow.mapGetG (encK:=vs) (encV:=ab) (k:=x) (z:=none) rfl rfl Tryz.underlying127 gr zrPf rfl rfl rds fG ?_
   rw[gP.get (hP.ok.seen k aC).nodup,eu]
   show Ow _ _ _ _ _ _ _ _
   have Tg:ab (some (G.fb.getD n 0))=vp (G.fb.getD n 0) 0:=rfl
   refine ko (And.intro @i8 (And.intro @Tg (@rdf))) ?_
   refine Ow.build (.agg (fiC ⟨aH k,x,(S.files.getD n dC).data⟩).toArray) rfl (xo ⟨aH k,x,(S.files.getD n dC).data⟩) ?_
   refine ko @i8 ?_
   refine Ow.buildSlice (e:=36) (fiC ⟨aH k,x,(S.files.getD n dC).data⟩).toArray rfl rfl (j8 Tryz.underlying22 pn zrFi (by decide) (lX _)) fun ba rC lC=> ?_
   refine Ow.permL (M:=D1++ (D3++ (DG++ [(ba, .cells (fiC ⟨aH k,x,(S.files.getD n dC).data⟩).toArray 36 (0,0))]))) (by classical exact List.perm_iff_count.2 fun a=>by simp only[List.count_append,List.count_cons,List.count_nil]<;>omega) ?_
   refine Ow.appendXG (e:=36) (k:=1) (new:=fiC ⟨aH k,x,(S.files.getD n dC).data⟩) (X:=D1) v rfl rfl rfl rfl Tryz.underlying22 pn (by kernel_rfl) zrFi (by rw[wF,List.size_toArray,lX]) Tryz.underlying22 (by intro k h;cases h) cw (fun w' aB=>AppX.one1 (aB.has ba (.cells (fiC ⟨aH k,x,(S.files.getD n dC).data⟩).toArray 36 (0,0)) (by simp)) (lX _) (sT _)) (by omega) (fun B4 v4 D4 jE r7 mc tw l5 u3=> ?_)
   have fi:New w.heap.size D4:=New.of_le fun q hq=>by
    rcases l5 q hq with h|h
    ·exact bX.le q h
    ·omega
   refine Ow.permL (M:=D3++ (D4++ (DG++ [(ba, .cells (fiC ⟨aH k,x,(S.files.getD n dC).data⟩).toArray 36 (0,0))]))) (by classical exact List.perm_iff_count.2 fun a=>by simp only[List.count_append,List.count_cons,List.count_nil]<;>omega) ?_
   refine ko @i8 ?_
   first|with_reducible refine ks [] @i8 ?_|refine kp @i8 ?_
   refine Again.mk ⟨j+1,v4,D4,DG++ [(ba, .cells (fiC ⟨aH k,x,(S.files.getD n dC).data⟩).toArray 36 (0,0))]⟩ (by show sn.length - (j+1)<sn.length - j;omega) ⟨hjt,fi,bw.app ⟨lC,trivial⟩, ?_⟩ rfl rfl
   show Gr D4 36 3 v4 ((gC S k).length+j+1) ((gC S k++ (gW S k).take (j+1)).map fiC).flatten
   rw[jo]
   simpa only[List.map_append,List.map_cons,List.map_nil,List.flatten_append,List.flatten_cons,List.flatten_nil,List.append_nil,List.append_assoc] using mc
  ·obtain rfl:j=sn.length:=by omega
   have d2:decide ((sn.length:Int)< (sn.length:Int))=false:=decide_eq_false (by omega)
   have fP: (gW S k).length=sn.length:=by rw[th,List.length_map]
   rw[←fP,List.take_length] at cw
   first|with_reducible refine ks [10] (And.intro @i8 @d2) ?_|refine kp (And.intro @i8 @d2) ?_
   refine Cw.permL (M:=D1++ (D3++DG)) (by classical exact List.perm_iff_count.2 fun a=>by simp only[List.count_append,List.count_cons,List.count_nil]<;>omega) ?_
   first|with_reducible refine ks [] @i8 ?_|refine kp @i8 ?_
   refine Again.mk ⟨k+1,v,D1,D3++DG⟩ (by show 3 - (k+1)<3 - k;omega) ⟨aC,bX,dw.app bw, ?_⟩ rfl rfl
   show Gr D1 36 3 v (gC S k++gW S k).length ((gC S k++gW S k).map fiC).flatten
   rw[List.length_append];exact cw
 ·obtain rfl:k=3:=by omega
  have d1:decide (((3:Nat):Int)<3)=false:=rfl
  first|with_reducible refine ks [] (And.intro @i8 @d1) ?_|refine kp (And.intro @i8 @d1) ?_
  refine⟨_,(ke @i8), ?_⟩
  exact⟨Ext.of_new (bX.app bw),cw.i fun p hp=>List.mem_append_left _ hp⟩
end Go.Proofs
end
section
open Go Go.Proofs Go.Sx Go.StP
namespace Go.Proofs
set_option maxRecDepth 10000
set_option maxHeartbeats 400000
set_option linter.unusedSimpArgs false
theorem Rh (b:Nat):bA Tryz.prog .eql 127 (vm b) (.map none)=some (.bool false):=by
 simp[bA,eqX,gb,gB,Tryz.underlying127,vm]
theorem I7 (b:Nat) (o:Obj) (m:List (List UInt8×Option Nat)) (w:World) (ho:w.heap[b]? =some o) (hm:eD vs ab o m):
  Rets Tryz.prog 83 #[vm b] w (XS w [] (fun v D=> ∃c o',v=vm c∧D= [(c,o')]∧eD vs ab o' m)):=by
 refine Rets.enterX Tryz.func83 rfl (rs:= [.tmp 2]) Tryz.results83 Tryz.ntmps83 (fun p hp=>by cases hp) (by simp[keys]) ?_
 refine kf ?_
 have e1:=Rh b
 first|with_reducible refine ks [] @e1 ?_|refine kp @e1 ?_
 refine Ow.ifaceMap rfl Tryz.underlying127 rfl ?_
 refine Ow.cloneMap (encK:=vs) (encV:=ab) rfl rfl (fun a w=>run_callFunc_extern Tryz.func127 (by kernel_rfl) (by kernel_rfl) (by kernel_rfl) (e:=Extern.MapsClone.clone) (by kernel_rfl) #[a] w) rfl (by rw[j7 (by simp[keys])];exact ho) hm fun c o' hc ir gO=> ?_
 refine Ow.assertMap rfl Tryz.underlying127 rfl ?_
 refine ko @Nat.add_zero ?_
 refine⟨_,(ke @Nat.add_zero), ?_⟩
 exact⟨(Ext.refl w []).app ir,c,o',rfl,rfl,gO⟩
def u16C (x:UInt16):List Value:= [v16 x]
abbrev tM (w:World) (v:Value) (l:List UInt16):Prop:=SlV 1 u16C 0 w v l
def PkS (w:World) (v:Value) (l:List UInt16):Prop:=tM w v l∨(l= []∧ ∃a c,v= .slice (some a) 0 c)
theorem PkS.len {w:World} {v:Value} {l:List UInt16} (h:PkS w v l) (x:Bool×Nat):fe (.sl x) v=some (vi l.length):=by
 rcases h with h| ⟨rfl,a,c,rfl⟩
 ·exact SlV.len h x
 ·rfl
theorem PkS.cell {w:World} {v:Value} {l:List UInt16} (h:PkS w v l):Value.oneCell' v=true∧v.cells= #[v]:=by
 rcases h with⟨b,off,c,arr,E,fz,hr,hc,⟨rfl,-,-⟩ | ⟨rfl,-,-⟩⟩ | ⟨rfl,a,c,rfl⟩
 ·exact⟨rfl,rfl⟩
 ·exact⟨rfl,rfl⟩
 ·exact⟨rfl,rfl⟩
theorem PkS.old {w w':World} {L:aA} {v:Value} {l:List UInt16} (h:PkS w v l) (hw:Hp w L w') (hb:l≠ []→ ∀b,slB v=some b→b∉keys L):PkS w' v l:=by
 by_cases hl:l= []
 ·subst hl
  rcases h with⟨b,off,c,arr,E,fz,hr,hc,⟨rfl,-,-⟩ | ⟨rfl,-,-⟩⟩ |h
  ·exact .inl (SlV.nil w')
  ·exact .inr ⟨rfl,_,_,rfl⟩
  ·exact .inr h
 ·exact .inl ((h.resolve_right fun e=>hl e.1).old hw fun b h1 _=>hb hl b h1)
def PkB (w:World) (X:aA) (l:List UInt16) (v:Value):Prop:=l≠ []→ ∀b,slB v=some b→b<w.heap.size∧b∉keys X
theorem Oq {w:World} {v:Value} {l:List UInt16} {b off:Nat} {arr:Array Value} {E:TypeId} {fz:Nat×Nat} (h:RowS 1 u16C 0 w v l b off arr E fz) {k:Nat} (hk:k<l.length) (n:Nat):
  aF (some (false,n)) (some (.cells arr E fz)) (off+k)=some (v16 (l.getD k 0)):=by
 have:=h.cell (j:=0) (n:=n) hk (by omega)
 rwa [Nat.mul_one,Nat.add_zero] at this
def jT (l:List UInt16) (n:Nat):Nat:=match l with
 | []=>0
 |x::_=>x.toNat% (n+1)
def cg (v:Value):Obj:= .cells #[v] 24 (0,0)
theorem yN (v:Value) (n:Nat):aF (some (false,n)) (some (cg v)) 0=some v:=(rfl)
theorem Ln (v x:Value) (a:Bool) (hx:Value.oneCell' x=true∧x.cells= #[x]):ac (some (a,1)) (some (cg v)) 0 x=some (cg x):=
 d9 [] [v] [x] [] a _ 24 rfl rfl hx.2 rfl (by simp[hx.1])
theorem Q7 {m:Nat} {α:Type} {enc:α→List Value} {z:α} {w:World} {v:Value} {l:List α} (h:SlV m enc z w v l):Value.oneCell' v=true∧v.cells= #[v]:=by
 obtain⟨b,off,c,arr,E,fz,hr,hc,⟨rfl,-,-⟩ | ⟨rfl,-,-⟩⟩:=h
 ·exact⟨rfl,rfl⟩
 ·exact⟨rfl,rfl⟩
set_option linter.defProp false
def lq:=And.intro (@ay) (And.intro (@ax) (@yN))
theorem V5 (n:Nat) (b:Nat) (v:Value) (l:List UInt16) (w:World) (hn:n<4611686018427387904) (hv:PkS w v l) (hl:l.length<1000000) (oX:l≠ []→slB v≠some b) (ho:w.heap[b]? =some (cg v)):
  Rets Tryz.prog 82 #[vi n,vp b 0] w (fun r D=> ∃o,D= [(b,o)]∧r=vi (jT l n:Nat)∧ ∃v',o=cg v'∧(l= []→v'=v)∧(l≠ []→ft (.sl (false,1)) v (some (some 1)) none=some v')):=by
 refine Rets.enterM Tryz.func82 rfl (rs:= [.tmp 3]) Tryz.results82 Tryz.ntmps82 ho ?_
 refine kf ?_
 have ln:=hv.len
 cases l with
 |nil=>
  first|with_reducible refine ks [] (And.intro @lq @ln) ?_|refine kp (And.intro @lq @ln) ?_
  refine⟨_,_,_,(ke @lq),rfl,trivial, ?_⟩
  exact⟨rfl,v,rfl,fun _=>rfl,fun h=>absurd rfl h⟩
 |cons x l=>
  have hv:tM w v (x::l):=hv.resolve_right fun e=>by cases e.1
  obtain⟨v1,h1,h2,-⟩:=hv.dropE (k:=1) (by simp) false
  have dE:=Q7 h2
  have st:=fun a=>Ln v v1 a dE
  obtain⟨rb,off,c,arr,E,fz,hr,hc,⟨q1,q2,q3⟩ | ⟨rfl,hb,-⟩⟩:=hv
  ·exact absurd q2 (by simp)
  have ad:rb≠b:=fun e=>oX (by simp) (by rw[e];rfl)
  have ix:=hr.idx false 0 (by simp)
  have ld:=fun n=>Oq hr (k:=0) (by simp) n
  have e0: ((((x::l).length:Nat):Int)==0)=false:=beq_eq_false_iff_ne.2 (by simp;omega)
  have rd:aM w [(b,cg (vsl rb off (x::l).length c))] rb=some (.cells arr E fz):=by rw[j7 (by simpa [keys] using ad)];exact hb
  rw[Nat.zero_mul,Nat.add_zero] at ix
  rw[show((1:Nat):Int)=1 from rfl] at h1
  simp only[Nat.add_zero] at ld
  first|with_reducible refine ks [] (And.intro @lq (And.intro @ln (And.intro @e0 (And.intro @ix (And.intro @ld (And.intro @rd (And.intro @h1 (@st)))))))) ?_|refine kp (And.intro @lq (And.intro @ln (And.intro @e0 (And.intro @ix (And.intro @ld (And.intro @rd (And.intro @h1 (@st)))))))) ?_
  refine⟨_,_,_,(ke @lq),rfl,trivial, ?_⟩
  refine⟨?_,v1,rfl,fun h=>absurd h (by simp),fun _=>h1⟩
  show vi _=vi _
  congr 1
end Go.Proofs
end
