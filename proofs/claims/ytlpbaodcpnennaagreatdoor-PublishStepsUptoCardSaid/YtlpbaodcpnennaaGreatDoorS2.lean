/-
  Part 2 of the walk: contracts of the functions that the law reaches, and the calculus they stand on.
  No conditions.
-/
import Derived.Test.YtlpbaodcpnennaaGreatDoorS1
import GoSem.Core.Float
import Derived.Laws.MakeOwn
import Derived.Shelf.SlIter.Nil
import Derived.Shelf.SortM.Plain
import Derived.Shelf.SortM.SortNone
import Derived.Ground.GgzProg
import Derived.Ground.SlgmProg
namespace Go.Flo
open Go Ieee
abbrev F (n:Int):Nat:=FloatKind.f64.nearest n
def dat (n:Int):Datum:= .number (decide (n<0)) (n.natAbs*2^ (52 - n.natAbs.log2)) ((n.natAbs.log2:Int) - 52)
theorem anE_ {a:Nat} (h:a<8192):a.log2<13∨a=0:=by
 by_cases h0:a=0
 ·exact .inr h0
 ·exact .inl ((Nat.log2_lt h0).2 h)
theorem dec0:FloatKind.f64.decode (F 0)= .number false 0 (-1074):=by kernel_rfl
theorem amc_ (neg:Bool) (n:Nat):Toward.even.cut neg n 0=n:=by
 simp[Toward.cut,Nat.mod_one]
theorem dec {n:Int} (h0:n≠0) (h:n.natAbs<8192):FloatKind.f64.decode (F n)=dat n:=by
 have ha:n.natAbs≠0:=by omega
 generalize hm:n.natAbs=a at*
 have hl:a.log2<13:=(Nat.log2_lt ha).2 h
 have hlo:2^a.log2≤a:=Nat.log2_self_le ha
 have hhi:a<2^ (a.log2+1):=Nat.lt_log2_self
 generalize hk:a.log2=k at*
 have hp:2^ (52 - k)*2^k=2^52:=by rw[←Nat.pow_add];congr 1;omega
 have hp1:2^ (k+1)=2*2^k:=by rw[Nat.pow_succ];omega
 have e1:2^52≤a*2^ (52 - k):=by
  rw[←hp,Nat.mul_comm];exact Nat.mul_le_mul_right _ hlo
 have e2:a*2^ (52 - k)<2*2^52:=by
  have h1:=Nat.mul_lt_mul_of_pos_right hhi (show 0<2^ (52 - k) from Nat.pow_pos (by omega))
  rw[hp1,Nat.mul_assoc,Nat.mul_comm (2^k),hp] at h1
  exact h1
 have hw:F n=Ieee.double.word (decide (n<0)) ((k+1022)*2^52+a*2^ (52 - k)):=by
  show Ieee.double.nearest (decide (n<0)) n.natAbs 0=_
  rw[hm]
  unfold Format.nearest
  rw[if_neg ha,hk]
  have hlast:max ((0:Int)+ (k:Int) - (Ieee.double.fractionBits:Int)) Ieee.double.leastPlace=(k:Int) - 52:=by
   have e3:Ieee.double.leastPlace= -1074:=by decide
   have e4: (Ieee.double.fractionBits:Int)=52:=rfl
   rw[e3,e4];omega
  rw[hlast]
  have e5: ((k:Int) - 52 - 0).toNat=0:=by omega
  have e6: ((0:Int) - ((k:Int) - 52)).toNat=52 - k:=by omega
  simp only[e5,e6,amc_,Nat.shiftLeft_eq]
  have e7: ((k:Int) - 52 - Ieee.double.leastPlace).toNat=k+1022:=by
   have e3:Ieee.double.leastPlace= -1074:=by decide
   rw[e3];omega
  have e8:Ieee.double.binade=2^52:=rfl
  have e9:Ieee.double.infRung=2047*2^52:=rfl
  rw[e7,e8,e9,Nat.min_eq_left (by omega)]
 show Ieee.double.read (F n)=_
 rw[hw]
 generalize hX:a*2^ (52 - k)=X at*
 have e8:Ieee.double.binade=2^52:=rfl
 have e9:Ieee.double.infRung=2047*2^52:=rfl
 have e10:Ieee.double.signWeight=2^63:=rfl
 have e3:Ieee.double.leastPlace= -1074:=by decide
 have hneg: (Ieee.double.word (decide (n<0)) ((k+1022)*2^52+X) / 2^63%2==1)=decide (n<0)∧Ieee.double.word (decide (n<0)) ((k+1022)*2^52+X)%2^63=(k+1022)*2^52+X:=by
  unfold Format.word
  rw[e10]
  by_cases hn:n<0
  ·rw[decide_eq_true hn,if_pos rfl]
   refine⟨?_,by omega⟩
   rw[beq_iff_eq];omega
  ·rw[decide_eq_false hn,if_neg (by simp)]
   refine⟨?_,by omega⟩
   rw[beq_eq_false_iff_ne];omega
 unfold Format.read
 simp only[e10,hneg.1,hneg.2,e8,e9,e3]
 rw[if_neg (by omega),if_pos (by omega)]
 unfold dat
 rw[hm,hk,hX]
 congr 1
 ·omega
 ·omega
theorem sgn (n:Int) (u:Nat):signed (decide (n<0)) (n.natAbs*2^u) 0=n*2^u:=by
 unfold signed
 rw[Nat.shiftLeft_eq,Nat.pow_zero,Nat.mul_one]
 by_cases h:n<0
 ·rw[decide_eq_true h,if_pos rfl]
  rw[Int.natCast_mul,←Int.neg_mul]
  congr 1
  ·omega
 ·rw[decide_eq_false h,if_neg (by simp),Int.natCast_mul]
  congr 1
  omega
def plc (n:Int):Int:=if n=0 then -1074 else(n.natAbs.log2:Int) - 52
def mag (n:Int):Nat:=if n=0 then 0 else n.natAbs*2^ (52 - n.natAbs.log2)
theorem decA {n:Int} (h:n.natAbs<8192):FloatKind.f64.decode (F n)= .number (decide (n<0)) (mag n) (plc n):=by
 by_cases h0:n=0
 ·subst h0;rw[dec0];rfl
 ·rw[dec h0 h];unfold dat mag plc;rw[if_neg h0,if_neg h0]
theorem sgnU {n base:Int} (h:n.natAbs<8192) (hb:base≤plc n):signed (decide (n<0)) (mag n) (plc n - base).toNat=n*2^ (-base).toNat:=by
 by_cases h0:n=0
 ·subst h0;simp[signed,mag]
 ·have hl:n.natAbs.log2<13:=by rcases anE_ h with h1|h1;exact h1;omega
  have hu:52 - n.natAbs.log2+ (plc n - base).toNat=(-base).toNat:=by
   unfold plc at hb ⊢
   rw[if_neg h0] at hb ⊢
   omega
  have e:signed (decide (n<0)) (mag n) (plc n - base).toNat=signed (decide (n<0)) (n.natAbs*2^ (-base).toNat) 0:=by
   unfold signed mag
   rw[if_neg h0,←hu,Nat.pow_add]
   simp only[Nat.shiftLeft_eq,Nat.pow_zero,Nat.mul_one,Nat.mul_assoc]
  rw[e,sgn]
theorem anQ_ {a b k:Int} (hk:0<k):compare (a*k) (b*k)=compare a b:=by
 simp only[compare,compareOfLessAndEq]
 have h1:a*k<b*k↔a<b:=Int.mul_lt_mul_right hk
 have h2:a*k=b*k↔a=b:=Int.mul_eq_mul_right_iff (by omega)
 simp only[h1,h2]
theorem ord {a b:Int} (ha:a.natAbs<8192) (hb:b.natAbs<8192):FloatKind.f64.format.order (F a) (F b)=some (compare a b):=by
 have h1:FloatKind.f64.format.read (F a)=_:=decA ha
 have h2:FloatKind.f64.format.read (F b)=_:=decA hb
 unfold Format.order
 rw[h1,h2]
 unfold Datum.order
 simp only
 have p1:min (plc a) (plc b)≤plc a:=Int.min_le_left ..
 have p2:min (plc a) (plc b)≤plc b:=Int.min_le_right ..
 rw[sgnU ha p1,sgnU hb p2,anQ_]
 exact Int.pow_pos (by omega)
theorem intF {a:Int} (h:a.natAbs<8192): (FloatKind.f64.decode (F a)).toInt .zero=some a:=by
 rw[decA h]
 by_cases h0:a=0
 ·subst h0;rfl
 ·have hl:a.natAbs.log2<13:=by rcases anE_ h with h1|h1;exact h1;omega
  unfold Datum.toInt Datum.integral
  simp only
  have hp:plc a=(a.natAbs.log2:Int) - 52:=by unfold plc;rw[if_neg h0]
  have hm:mag a=a.natAbs*2^ (52 - a.natAbs.log2):=by unfold mag;rw[if_neg h0]
  rw[hp,hm]
  have e1: ((a.natAbs.log2:Int) - 52).toNat=0:=by omega
  have e2: (-((a.natAbs.log2:Int) - 52)).toNat=52 - a.natAbs.log2:=by omega
  rw[e1,e2,Nat.shiftLeft_zero]
  have hlog: (a.natAbs*2^ (52 - a.natAbs.log2)).log2+2≥52 - a.natAbs.log2:=by
   have:2^ (52 - a.natAbs.log2)≤a.natAbs*2^ (52 - a.natAbs.log2):=Nat.le_mul_of_pos_left _ (by omega)
   have h3:=(Nat.le_log2 (n:=a.natAbs*2^ (52 - a.natAbs.log2)) (k:=52 - a.natAbs.log2) (by have:=Nat.pow_pos (a:=2) (n:=52 - a.natAbs.log2) (by omega);omega)).2 this
   omega
  unfold Toward.cut
  simp only
  rw[Nat.min_eq_left hlog,Nat.shiftLeft_eq,Nat.one_mul,Nat.mul_div_cancel _ (Nat.pow_pos (by omega))]
  have:=sgn a 0
  rw[Nat.pow_zero,Nat.mul_one] at this
  simp only[Bool.toNat_false,Nat.add_zero]
  rw[this];simp
end Go.Flo
namespace Go.Sx
open Go Go.Flo
def fl (n:Int):Value:= .float .f64 (F n)
def cx (a b:Int):Value:= .complex .f64 (F a) (F b)
section
variable {P:Program} {w0:World} {f:Fr} {L:ze_} {N:Fr→ze_→Prop} {ops:Array Oper} {rest:List Oper} {md:Md}
 {d:Option Tmp} {ty:TypeId} {ps:String} {af:Array Edge} {g:Option (Nat×Bool)}
theorem Ow.convIF {s dt:TypeId} {x:Operand} {n:Int} {md':Md} (he:md.turn=some md') (hsk:zs_ ops f ⟨d, .convert s dt x,ty,ps,af,g⟩=false)
  (hcv:cvT P s dt= .no) (hs:P.underlying s=some (.int .i64)) (hd:P.underlying dt=some (.float .f64)) (hx:ev f x=vi n)
  (hn:Ow P w0 ops md' rest (qA_ f d (fl n)) L N):Ow P w0 ops md (⟨d, .convert s dt x,ty,ps,af,g⟩::rest) f L N:=by
 refine Ow.step he (by simp[xp_,hcv]) hsk fun w hw=> .inl ⟨fl n,w,L, ?_,hw,hn⟩
 have hc: (convert s dt (vi n)).run P w= .ok (fl n) w:=by
  unfold convert
  simp only[vi,Sem.run_bind,run_underlying hs w,run_underlying hd w,Result.andThen_ok]
  rfl
 simp only[execOp,Sem.run_bind,hx,hc]
 rfl
theorem Ow.convFI {s dt:TypeId} {x:Operand} {n:Int} {md':Md} (he:md.turn=some md') (hsk:zs_ ops f ⟨d, .convert s dt x,ty,ps,af,g⟩=false)
  (hcv:cvT P s dt= .no) (hs:P.underlying s=some (.float .f64)) (hd:P.underlying dt=some (.int .i64)) (hx:ev f x=fl n) (hn8:n.natAbs<8192)
  (hn:Ow P w0 ops md' rest (qA_ f d (vi n)) L N):Ow P w0 ops md (⟨d, .convert s dt x,ty,ps,af,g⟩::rest) f L N:=by
 refine Ow.step he (by simp[xp_,hcv]) hsk fun w hw=> .inl ⟨vi n,w,L, ?_,hw,hn⟩
 have hc: (convert s dt (fl n)).run P w= .ok (vi n) w:=by
  unfold convert
  simp only[fl,Sem.run_bind,run_underlying hs w,run_underlying hd w,Result.andThen_ok]
  show(Conv.floatToInt .f64 (F n) .i64).run P w=_
  unfold Conv.floatToInt
  simp only[intF hn8]
  have e1:IntKind.i64.min= -9223372036854775808:=rfl
  have e2:IntKind.i64.max=9223372036854775807:=rfl
  rw[if_pos (by rw[e1,e2];omega)]
  rfl
 simp only[execOp,Sem.run_bind,hx,hc]
 rfl
theorem apE_ (a b:Int): (some (compare a b)==some Ordering.lt||some (compare a b)==some Ordering.eq)=decide (a≤b):=by
 simp only[compare,compareOfLessAndEq]
 by_cases h1:a<b
 ·rw[if_pos h1,decide_eq_true (by omega)];rfl
 ·by_cases h2:a=b
  ·rw[if_neg h1,if_pos h2,decide_eq_true (by omega)];rfl
  ·rw[if_neg h1,if_neg h2,decide_eq_false (by omega)];rfl
theorem apa_ (a b:Int): (some (compare a b)==some Ordering.gt||some (compare a b)==some Ordering.eq)=decide (b≤a):=by
 simp only[compare,compareOfLessAndEq]
 by_cases h1:a<b
 ·rw[if_pos h1,decide_eq_false (by omega)];rfl
 ·by_cases h2:a=b
  ·rw[if_neg h1,if_pos h2,decide_eq_true (by omega)];rfl
  ·rw[if_neg h1,if_neg h2,decide_eq_true (by omega)];rfl
theorem anY_ (a b:Int): (some (compare a b)==some Ordering.eq)=(a==b):=by
 simp only[compare,compareOfLessAndEq]
 by_cases h1:a<b
 ·have: (a==b)=false:=by rw[beq_eq_false_iff_ne];omega
  rw[if_pos h1,this];rfl
 ·by_cases h2:a=b
  ·rw[if_neg h1,if_pos h2,h2];simp
  ·have: (a==b)=false:=by rw[beq_eq_false_iff_ne];exact h2
   rw[if_neg h1,if_neg h2,this];rfl
theorem Ow.fleq {t t':TypeId} {x y:Operand} {a b:Int} (hs:zs_ ops f ⟨d, .binOp .leq t x y t',ty,ps,af,g⟩=false) (hx:ev f x=fl a) (hy:ev f y=fl b) (ha:a.natAbs<8192) (hb:b.natAbs<8192)
  (hn:Ow P w0 ops md.next rest (qA_ f d (.bool (decide (a≤b)))) L N):Ow P w0 ops md (⟨d, .binOp .leq t x y t',ty,ps,af,g⟩::rest) f L N:=by
 refine Ow.pureV rfl hs (fun w=> ?_) hn
 simp only[execOp,Sem.run_bind,hx,hy]
 have hg: (eqGuard .leq t x y (fl a) (fl b)).run P w= .ok () w:=rfl
 have hc: (binOp .leq t (fl a) (fl b)).run P w= .ok (.bool (decide (a≤b))) w:=by
  show Result.ok (Value.bool (FloatKind.f64.format.order (F a) (F b)==some .lt||FloatKind.f64.format.order (F a) (F b)==some .eq)) w=_
  rw[ord ha hb,apE_]
 rw[hg,Result.andThen_ok,hc]
 rfl
theorem Ow.fgeq {t t':TypeId} {x y:Operand} {a b:Int} (hs:zs_ ops f ⟨d, .binOp .geq t x y t',ty,ps,af,g⟩=false) (hx:ev f x=fl a) (hy:ev f y=fl b) (ha:a.natAbs<8192) (hb:b.natAbs<8192)
  (hn:Ow P w0 ops md.next rest (qA_ f d (.bool (decide (b≤a)))) L N):Ow P w0 ops md (⟨d, .binOp .geq t x y t',ty,ps,af,g⟩::rest) f L N:=by
 refine Ow.pureV rfl hs (fun w=> ?_) hn
 simp only[execOp,Sem.run_bind,hx,hy]
 have hg: (eqGuard .geq t x y (fl a) (fl b)).run P w= .ok () w:=rfl
 have hc: (binOp .geq t (fl a) (fl b)).run P w= .ok (.bool (decide (b≤a))) w:=by
  show Result.ok (Value.bool (FloatKind.f64.format.order (F a) (F b)==some .gt||FloatKind.f64.format.order (F a) (F b)==some .eq)) w=_
  rw[ord ha hb,apa_]
 rw[hg,Result.andThen_ok,hc]
 rfl
theorem Ow.feql {t t':TypeId} {x y:Operand} {a b:Int} (hs:zs_ ops f ⟨d, .binOp .eql t x y t',ty,ps,af,g⟩=false) (hx:ev f x=fl a) (hy:ev f y=fl b) (ha:a.natAbs<8192) (hb:b.natAbs<8192)
  (hn:Ow P w0 ops md.next rest (qA_ f d (.bool (a==b))) L N):Ow P w0 ops md (⟨d, .binOp .eql t x y t',ty,ps,af,g⟩::rest) f L N:=by
 refine Ow.pureV rfl hs (fun w=> ?_) hn
 simp only[execOp,Sem.run_bind,hx,hy]
 have hg: (eqGuard .eql t x y (fl a) (fl b)).run P w= .ok () w:=rfl
 have hc: (binOp .eql t (fl a) (fl b)).run P w= .ok (.bool (a==b)) w:=by
  show Result.ok (Value.bool (FloatKind.f64.format.order (F a) (F b)==some .eq)) w=_
  rw[ord ha hb,anY_]
 rw[hg,Result.andThen_ok,hc]
 rfl
theorem Ow.real {x:Operand} {ts:Array TypeId} {a b:Int} (hs:zs_ ops f ⟨d, .call ⟨.builtin .real, #[x],ts⟩,ty,ps,af,g⟩=false) (hx:ev f x=cx a b)
  (hn:Ow P w0 ops md.next rest (qA_ f d (fl a)) L N):Ow P w0 ops md (⟨d, .call ⟨.builtin .real, #[x],ts⟩,ty,ps,af,g⟩::rest) f L N:=by
 refine Ow.calm rfl rfl hs (fun w hw=> .inl ⟨fl a,w,L, ?_,hw,rfl,rfl⟩) hn
 simp only[execOp,resolve,Sem.run_bind,Sem.run_pure,Result.andThen_ok,invoke,builtin,List.map_toArray,List.map_cons,List.map_nil,hx]
 rfl
theorem Ow.imag {x:Operand} {ts:Array TypeId} {a b:Int} (hs:zs_ ops f ⟨d, .call ⟨.builtin .imag, #[x],ts⟩,ty,ps,af,g⟩=false) (hx:ev f x=cx a b)
  (hn:Ow P w0 ops md.next rest (qA_ f d (fl b)) L N):Ow P w0 ops md (⟨d, .call ⟨.builtin .imag, #[x],ts⟩,ty,ps,af,g⟩::rest) f L N:=by
 refine Ow.calm rfl rfl hs (fun w hw=> .inl ⟨fl b,w,L, ?_,hw,rfl,rfl⟩) hn
 simp only[execOp,resolve,Sem.run_bind,Sem.run_pure,Result.andThen_ok,invoke,builtin,List.map_toArray,List.map_cons,List.map_nil,hx]
 rfl
theorem Ow.complexB {x y:Operand} {ts:Array TypeId} {a b:Int} (hs:zs_ ops f ⟨d, .call ⟨.builtin .complex, #[x,y],ts⟩,ty,ps,af,g⟩=false) (hx:ev f x=fl a) (hy:ev f y=fl b)
  (hn:Ow P w0 ops md.next rest (qA_ f d (cx a b)) L N):Ow P w0 ops md (⟨d, .call ⟨.builtin .complex, #[x,y],ts⟩,ty,ps,af,g⟩::rest) f L N:=by
 refine Ow.calm rfl rfl hs (fun w hw=> .inl ⟨cx a b,w,L, ?_,hw,rfl,rfl⟩) hn
 simp only[execOp,resolve,Sem.run_bind,Sem.run_pure,Result.andThen_ok,invoke,builtin,List.map_toArray,List.map_cons,List.map_nil,hx,hy]
 rfl
end
end Go.Sx
namespace Go.Sx
open Go Go.Flo
theorem ak5_ (P:Program) (t:TypeId) (a b:Int):q7_ P .eql t (fl a) (fl b)=none:=by
 show(qR_ (P.underlying t) (fl a) (fl b)).map _=none
 unfold qR_ fl
 split<;>simp_all
theorem ab4_ (P:Program) (t:TypeId) (a b a' b':Int):q7_ P .eql t (cx a b) (cx a' b')=none:=by
 show(qR_ (P.underlying t) (cx a b) (cx a' b')).map _=none
 unfold qR_ cx
 split<;>simp_all
section
variable {P:Program} {w0:World} {st:Bool} {f:Fr} {L:ze_} {md:Md} {d:Option Tmp} {ty:TypeId} {ps:String} {af:Array Edge} {g:Option (Nat×Bool)} {go:Fr→ze_→Prop} {stop:Prop}
theorem afF_ (a:Array Operand) (t:Array TypeId):vcB P w0 st md ⟨d, .call ⟨.builtin .real,a,t⟩,ty,ps,af,g⟩ f L go stop=stop:=(rfl)
theorem ae5_ (a:Array Operand) (t:Array TypeId):vcB P w0 st md ⟨d, .call ⟨.builtin .imag,a,t⟩,ty,ps,af,g⟩ f L go stop=stop:=(rfl)
theorem w1_ (a:Array Operand) (t:Array TypeId):vcB P w0 st md ⟨d, .call ⟨.builtin .complex,a,t⟩,ty,ps,af,g⟩ f L go stop=stop:=(rfl)
end
end Go.Sx
section
open Go Go.Proofs Go.Sx Go.StP Go.Flo
namespace Go.Proofs
set_option maxRecDepth 10000
set_option maxHeartbeats 400000
set_option linter.unusedSimpArgs false
structure PcL where
 a:Nat
 n:Nat
 x:List UInt8
def pc0:PcL:=⟨0,0,[]⟩
def pcC (p:PcL):List Value:= [cx p.a p.n,vs p.x]
def PcB (p:PcL):Prop:=p.a≤4099∧p.n≤4099
theorem w0_ (p:PcL): (pcC p).length=2:=rfl
theorem aj3_ (p:PcL): (pcC p).all Value.oneCell'=true:=rfl
def cpV (p:PcL) (b:Int):Option (Nat×Nat):=if 1≤p.n∧p.n≤4099∧p.x= []∧(p.a:Int)≤b - p.n then some (p.a,p.n) else none
def jP_ (p:PcL) (b:Int):Nat:=if p.a=0∧p.n=0∧p.x.length≤4099 then p.x.length else match cpV p b with|some q=>q.2|none=>0
theorem aeX_ (p:PcL) (b:Int):jP_ p b≤4099:=by
 unfold jP_
 split
 ·rename_i h;exact h.2.2
 ·unfold cpV
  split
  ·rename_i q h
   split at h
   ·rename_i hc;cases h;exact hc.2.1
   ·cases h
  ·omega
def v0_ (b:Int) (l:List PcL):Nat:=(l.map fun p=>jP_ p b).sum
theorem akW_ (b:Int) (l:List PcL) (p:PcL):v0_ b (l++ [p])=v0_ b l+jP_ p b:=by
 unfold v0_;rw[List.map_append,List.sum_append];simp
theorem alY_ (b:Int) (l m:List PcL):v0_ b (l++m)=v0_ b l+v0_ b m:=by
 unfold v0_;rw[List.map_append,List.sum_append]
def anyZ (b:Int) (l:List PcL):Bool:=l.any fun p=>jP_ p b==0
def WS_ (b:Int) (l:List PcL):Int×Int:=if b<0∨4099<b then(0,1) else if anyZ b l=true then(0,1) else if 4099<v0_ b l then(0,19) else((v0_ b l:Nat),0)
theorem aiW_ (b:Int): ∀ (l:List PcL),anyZ b l=false→l.length≤v0_ b l
 | [],_=>Nat.zero_le _
 |p::l,h=>by
  unfold anyZ at h
  rw[List.any_cons,Bool.or_eq_false_iff] at h
  have h1:=aiW_ b l h.2
  have h2:jP_ p b≠0:=by simpa using h.1
  unfold v0_ at h1 ⊢
  rw[List.map_cons,List.sum_cons,List.length_cons]
  omega
theorem adB_ {b m:Int} {l:List PcL} (h:WS_ b l=(m,0)):0≤b∧b≤4099∧anyZ b l=false∧v0_ b l≤4099∧m=(v0_ b l:Nat)∧l.length≤4099:=by
 unfold WS_ at h
 split at h
 ·cases h
 ·rename_i hb
  split at h
  ·cases h
  ·rename_i hz
   split at h
   ·cases h
   ·rename_i hs
    have hz':anyZ b l=false:=by simpa using hz
    have:=aiW_ b l hz'
    cases h
    exact⟨by omega,by omega,hz',by omega,rfl,by omega⟩
def pcT (base:List UInt8) (p:PcL):List UInt8:=match cpV p base.length with|some q=>(base.drop q.1).take q.2++p.x|none=>p.x
def txtP (base:List UInt8) (l:List PcL):List UInt8:=(l.map (pcT base)).flatten
def pcR (d:List UInt8) (a:Nat):PcL×Nat×Int:=
 if(zF_ d a 0 8199).1%2=1 then
  (⟨(zF_ d (zF_ d a 0 8199).2.1 (zF_ d a 0 8199).2.2 4099).1.toNat,((zF_ d a 0 8199).1 / 2).toNat,[]⟩,(zF_ d (zF_ d a 0 8199).2.1 (zF_ d a 0 8199).2.2 4099).2)
 else(⟨0,0,(jM_ d (zF_ d a 0 8199).2.1 (zF_ d a 0 8199).2.2 ((zF_ d a 0 8199).1 / 2)).1⟩,(jM_ d (zF_ d a 0 8199).2.1 (zF_ d a 0 8199).2.2 ((zF_ d a 0 8199).1 / 2)).2)
theorem ajw_ {d:List UInt8} {a:Nat} (ha:a≤d.length):a≤ (pcR d a).2.1∧(pcR d a).2.1≤d.length:=by
 have h1:=q6_ (s:=d) (a:=a) (e:=0) (most:=8199) ha
 unfold pcR
 split
 ·have h2:=q6_ (s:=d) (a:=(zF_ d a 0 8199).2.1) (e:=(zF_ d a 0 8199).2.2) (most:=4099) h1.2
  exact⟨Nat.le_trans h1.1 h2.1,h2.2⟩
 ·have h2:=VQ_ (s:=d) (a:=(zF_ d a 0 8199).2.1) (e:=(zF_ d a 0 8199).2.2) (n:=(zF_ d a 0 8199).1 / 2) h1.2
  exact⟨Nat.le_trans h1.1 h2.1,h2.2⟩
theorem aiE_ {d:List UInt8} {a:Nat} (ha:a≤d.length) (h: (pcR d a).2.2=0):a< (pcR d a).2.1:=by
 have h1:=q6_ (s:=d) (a:=a) (e:=0) (most:=8199) ha
 have hz: (zF_ d a 0 8199).2.2=0:=by
  by_cases he: (zF_ d a 0 8199).2.2=0
  ·exact he
  ·unfold pcR at h
   split at h
   ·have:=aku_ (s:=d) (a:=(zF_ d a 0 8199).2.1) (most:=4099) he
    simp only[this] at h
    exact absurd h he
   ·have:=afG_ (s:=d) (a:=(zF_ d a 0 8199).2.1) (n:=(zF_ d a 0 8199).1 / 2) he
    simp only[this] at h
    exact absurd h he
 have hup:=ajm_ hz
 unfold pcR
 split
 ·have h2:=q6_ (s:=d) (a:=(zF_ d a 0 8199).2.1) (e:=(zF_ d a 0 8199).2.2) (most:=4099) h1.2
  exact Nat.lt_of_lt_of_le hup h2.1
 ·have h2:=VQ_ (s:=d) (a:=(zF_ d a 0 8199).2.1) (e:=(zF_ d a 0 8199).2.2) (n:=(zF_ d a 0 8199).1 / 2) h1.2
  exact Nat.lt_of_lt_of_le hup h2.1
def pcsF (d:List UInt8):Nat→Nat→List PcL×Nat×Int
 |0,a=>([],a,0)
 |k+1,a=>if a<d.length then(if(pcR d a).2.2=0 then((pcR d a).1:: (pcsF d k (pcR d a).2.1).1,(pcsF d k (pcR d a).2.1).2) else([(pcR d a).1],(pcR d a).2)) else([],a,0)
theorem ab6_ {d:List UInt8}: ∀ (k j a:Nat),a≤d.length→d.length - a≤k→d.length - a≤j→pcsF d k a=pcsF d j a
 |0,j,a,ha,hk,_=>by
  have: ¬a<d.length:=by omega
  cases j with
  |zero=>rfl
  |succ j=>unfold pcsF;rw[if_neg this]
 |k+1,0,a,ha,_,hj=>by
  have: ¬a<d.length:=by omega
  unfold pcsF;rw[if_neg this]
 |k+1,j+1,a,ha,hk,hj=>by
  unfold pcsF
  by_cases h:a<d.length
  ·rw[if_pos h,if_pos h]
   by_cases he: (pcR d a).2.2=0
   ·have hu:=aiE_ ha he
    have hl:=ajw_ ha
    rw[if_pos he,if_pos he,ab6_ k j (pcR d a).2.1 hl.2 (by omega) (by omega)]
   ·rw[if_neg he,if_neg he]
  ·rw[if_neg h,if_neg h]
def pcs (d:List UInt8) (a:Nat):List PcL×Nat×Int:=pcsF d (d.length - a) a
theorem apP_ {d:List UInt8} {a:Nat} (h: ¬a<d.length):pcs d a=([],a,0):=by
 unfold pcs
 rw[show d.length - a=0 by omega];rfl
theorem aqx_ {d:List UInt8} {a:Nat} (h:a<d.length) (he: (pcR d a).2.2=0):pcs d a=((pcR d a).1:: (pcs d (pcR d a).2.1).1,(pcs d (pcR d a).2.1).2):=by
 have hu:=aiE_ (Nat.le_of_lt h) he
 have hl:=ajw_ (Nat.le_of_lt h)
 unfold pcs
 obtain⟨k,hk⟩: ∃k,d.length - a=k+1:=⟨d.length - a - 1,by omega⟩
 rw[hk]
 conv=>lhs;unfold pcsF
 rw[if_pos h,if_pos he,ab6_ k (d.length - (pcR d a).2.1) (pcR d a).2.1 hl.2 (by omega) (Nat.le_refl _)]
theorem aol_ {d:List UInt8} {a:Nat} (h:a<d.length) (he: (pcR d a).2.2≠0):pcs d a=([(pcR d a).1],(pcR d a).2):=by
 unfold pcs
 obtain⟨k,hk⟩: ∃k,d.length - a=k+1:=⟨d.length - a - 1,by omega⟩
 rw[hk]
 unfold pcsF
 rw[if_pos h,if_neg he]
def K4_ (d:List UInt8):Option (Nat×List PcL):=
 if(zF_ d (zF_ d 0 0 4099).2.1 (zF_ d 0 0 4099).2.2 4099).2.2≠0 then none
 else if(pcs d (zF_ d (zF_ d 0 0 4099).2.1 (zF_ d 0 0 4099).2.2 4099).2.1).2.2≠0 then none
 else if WS_ (zF_ d 0 0 4099).1 (pcs d (zF_ d (zF_ d 0 0 4099).2.1 (zF_ d 0 0 4099).2.2 4099).2.1).1=((zF_ d (zF_ d 0 0 4099).2.1 (zF_ d 0 0 4099).2.2 4099).1,0) then some ((zF_ d 0 0 4099).1.toNat,(pcs d (zF_ d (zF_ d 0 0 4099).2.1 (zF_ d 0 0 4099).2.2 4099).2.1).1)
 else none
def xi_ (base d:List UInt8):List UInt8×Int:=
 match K4_ d with
 |none=>([],2)
 |some p=>if p.1≠base.length then([],19) else(txtP base p.2,0)
end Go.Proofs
end
section
open Go Go.Proofs Go.Sx Go.StP Go.Flo
namespace Go.Proofs
set_option maxRecDepth 10000
set_option maxHeartbeats 400000
set_option linter.unusedSimpArgs false
theorem cvIF:cvT Tryz.prog 3 219= .no:=id (by kernel_rfl)
theorem cvFI:cvT Tryz.prog 219 3= .no:=id (by kernel_rfl)
set_option linter.defProp false
theorem wq_ (p:PcL) (E:TypeId) (n:Nat):zk_ (some (false,n)) (some (.cells (pcC p).toArray E (0,0))) 0=some (cx p.a p.n):=(rfl)
theorem wi_ (p:PcL) (E:TypeId) (n:Nat):zk_ (some (false,n)) (some (.cells (pcC p).toArray E (0,0))) 1=some (vs p.x):=(rfl)
theorem Qa_ (p:PcL) (E:TypeId):zk_ (some (true,2)) (some (.cells (pcC p).toArray E (0,0))) 0=some (.agg (pcC p).toArray):=xa_ _ E (0,0) 2 rfl
theorem k1_ (p:PcL):Value.cells (.agg (pcC p).toArray)=(pcC p).toArray:=zh_ _
theorem zrPc:zK_ Tryz.prog 218=some (.agg (pcC pc0).toArray):=id (by kernel_rfl)
theorem alL_ (p q:PcL) (E:TypeId):zu_ (some (true,2)) (some (.cells (pcC q).toArray E (0,0))) 0 (.agg (pcC p).toArray)=some (.cells (pcC p).toArray E (0,0)):=by
 have:=jJ_ (pcC p) (n:=2) true (pcC q).toArray E rfl (aj3_ p) rfl
 exact this
theorem cxz: (Value.complex FloatKind.f64 0 0)=cx 0 0:=id (by kernel_rfl)
set_option linter.defProp false
abbrev PcSl (w:World) (v:Value) (l:List PcL):Prop:=SlV 2 pcC pc0 w v l
def BndP (l:List PcL):Prop:= ∀g,g<l.length→PcB (l.getD g pc0)∧(l.getD g pc0).x.length<9223372036854775808
theorem ait_ {b:Int} {l:List PcL} {g:Nat} (h:g<l.length):v0_ b (l.take (g+1))=v0_ b (l.take g)+jP_ (l.getD g pc0) b:=by
 rw[take_snoc (z:=pc0) h,akW_]
theorem aiJ_ {b:Int} {l:List PcL} {g:Nat} (h:g<l.length):anyZ b (l.take (g+1))=(anyZ b (l.take g) ||jP_ (l.getD g pc0) b==0):=by
 rw[take_snoc (z:=pc0) h];unfold anyZ;rw[List.any_append];simp
theorem VH_ {b:Int} {l:List PcL} {g:Nat} (h:g<l.length) (hz:jP_ (l.getD g pc0) b=0):anyZ b l=true:=by
 unfold anyZ
 rw[List.any_eq_true]
 exact⟨_,xd_ (z:=pc0) h,by rw[beq_iff_eq];exact hz⟩
end Go.Proofs
end
section
open Go Go.Proofs Go.Sx Go.StP Go.Flo
namespace Go.Proofs
set_option maxRecDepth 10000
set_option maxHeartbeats 400000
set_option linter.unusedSimpArgs false
def pcAt (p:PcL) (b:Int):Nat×Nat:=match cpV p b with|some q=>q|none=>(0,0)
theorem anW_ (p:PcL) (base:List UInt8): (pcAt p base.length).1+ (pcAt p base.length).2≤base.length:=by
 unfold pcAt cpV
 split
 ·rename_i q h
  split at h
  ·rename_i hc;cases h;simp only;omega
  ·cases h
 ·simp
theorem aps_ (base:List UInt8) (p:PcL) (h:jP_ p base.length≠0): (pcT base p).length=jP_ p base.length:=by
 have hle:=anW_ p base
 unfold jP_ at h ⊢
 unfold pcT
 unfold pcAt at hle
 split at h
 ·rename_i hc
  rw[if_pos hc]
  have hn:cpV p base.length=none:=by unfold cpV;rw[if_neg (by omega)]
  rw[hn]
 ·rename_i hc
  rw[if_neg hc]
  cases hq:cpV p base.length with
  |none=>rw[hq] at h;exact absurd rfl h
  |some q=>
   rw[hq] at hle
   simp only at hle ⊢
   have hx:p.x= []:=by
    unfold cpV at hq
    split at hq
    ·rename_i h2;exact h2.2.2.1
    ·cases hq
   rw[hx,List.append_nil,List.length_take,List.length_drop]
   omega
theorem ah0_ {base:List UInt8} {l:List PcL} {g:Nat} (h:g<l.length):txtP base (l.take (g+1))=txtP base (l.take g)++pcT base (l.getD g pc0):=by
 rw[take_snoc (z:=pc0) h];unfold txtP;simp
theorem Wz_ {base:List UInt8}: ∀ {l:List PcL},anyZ base.length l=false→(txtP base l).length=v0_ base.length l
 | [],_=>rfl
 |p::l,h=>by
  unfold anyZ at h
  rw[List.any_cons,Bool.or_eq_false_iff] at h
  have h1:=Wz_ (base:=base) (l:=l) h.2
  have h2:=aps_ base p (by simpa using h.1)
  unfold txtP v0_ at h1 ⊢
  rw[List.map_cons,List.flatten_cons,List.length_append,List.map_cons,List.sum_cons,h1,h2]
theorem QS_ {b:Int} {l:List PcL} {g:Nat}:v0_ b (l.take g)≤v0_ b l:=by
 have:=alY_ b (l.take g) (l.drop g)
 rw[List.take_append_drop] at this
 omega
theorem apj_ {b:Int} {l:List PcL} {g:Nat} (h:anyZ b l=false):anyZ b (l.take g)=false:=by
 unfold anyZ at h ⊢
 rw[List.any_eq_false] at h ⊢
 exact fun x hx=>h x (List.mem_of_mem_take hx)
set_option linter.defProp false
end Go.Proofs
end
namespace Go.Sx
open Go
section
variable {α:Type} {m:Nat} {enc:α→List Value} {z:α}
end
section
variable {P:Program} {w0:World} {f:Fr} {L:ze_} {N:Fr→ze_→Prop} {ops:Array Oper} {rest:List Oper} {md:Md} {d:Option Tmp} {ty:TypeId} {ps:String} {af:Array Edge} {g:Option (Nat×Bool)}
theorem Ow.makeSlice {t e:TypeId} {m:Bool×Nat} {z:Value} {x y:Operand} {n c:Nat} {md':Md} (he:md.turn=some md') (hs:zs_ ops f ⟨d, .makeSlice t x y,ty,ps,af,g⟩=false)
  (hu:P.underlying t=some (.slice e)) (hm:qf_ P e=some m) (hi:kh_ P e=true) (hz:zK_ P e=some z) (hx:ev f x=vi n) (hy:ev f y=vi c) (hnc:n≤c) (hbig:c≤2^38)
  (hn: ∀b,jB_ L b→w0.heap.size≤b→Ow P w0 ops md' rest (qA_ f d (vsl b 0 n c)) (L++ [(b, .cells (madeCells z.cells (c*m.2)) e (0,0))]) N):
  Ow P w0 ops md (⟨d, .makeSlice t x y,ty,ps,af,g⟩::rest) f L N:=by
 refine Ow.step he rfl hs fun w hw=> .inl ⟨vsl w.heap.size 0 n c,w.alloc (.cells (madeCells z.cells (c*m.2)) e (0,0)),_, ?_,hw.alloc _,hn _ (z2_ fun b hb=>hw.lt hb) hw.size⟩
 obtain⟨i,hie,-,hb⟩:=v6_ hi hbig
 have hiz:i.zero=some z:=by
  unfold zK_ at hz
  rw[hie] at hz
  exact hz
 have him:i.size=m.2:=by
  unfold qf_ at hm
  rw[hie] at hm
  split at hm
  ·rename_i h1 h2
   cases h2
   cases hm
   rfl
  ·cases hm
 have hbb: (i.bytes:Int)* (c:Int)≤281474976710656:=by
  have: ((i.bytes*c:Nat):Int)≤281474976710656:=by rw[Nat.mul_comm];exact Int.ofNat_le.2 hb
  rwa [Int.natCast_mul] at this
 have hr:=run_make (P:=P) w t e i z hu hie hiz .i64 .i64 (n:Int) (c:Int) (by omega) (by omega) hbb (by omega)
 simp only[Int.toNat_natCast,him] at hr
 show(execOp (ev f) _).run P w=_
 simp only[execOp,Sem.run_bind]
 rw[hx,hy]
 show((Instr.makeSlice t (.int .i64 (n:Int)) (.int .i64 (c:Int))).run P w).andThen _=_
 rw[hr]
 rfl
theorem Ow.appendXG {ts tx e:TypeId} {m:Bool×Nat} {z:Value} {s x:Operand} {n k:Nat} {cs new:List Value} {dx:TypeDesc} {md':Md} {X Y:ze_} (sv:Value) (hL:L=X++Y) (hsv:ev f s=sv) (he:md.turn=some md')
  (hs:zs_ ops f ⟨d, .call ⟨.builtin .append, #[s,x], #[ts,tx]⟩,ty,ps,af,g⟩=false)
  (hu:P.underlying ts=some (.slice e)) (hm:qf_ P e=some m) (hi:kh_ P e=true) (hz:zK_ P e=some z) (hzs:z.cells.size=m.2) (hux:P.underlying tx=some dx) (hnx: ∀k,dx≠ .int k)
  (hB:Gr X e m.2 sv n cs) (hX: ∀w,Hp w0 L w→AppX P w m.2 (ev f x) k new) (hbig:2* (n+k)+768≤2^38)
  (hn: ∀B v' D,jB_ L B→w0.heap.size≤B→Gr D e m.2 v' (n+k) (cs++new)→(∀c,c∈keys X→c∈keys D)→(∀c,c∈keys D→c∈keys X∨B≤c)→(∀c o,slB sv≠some c→look X c=some o→look D c=some o)→Ow P w0 ops md' rest (qA_ f d v') (D++Y) N):
  Ow P w0 ops md (⟨d, .call ⟨.builtin .append, #[s,x], #[ts,tx]⟩,ty,ps,af,g⟩::rest) f L N:=by
 subst hL
 refine Ow.step he rfl hs fun w hw=> ?_
 have hp:=hw.part
 have hA:jB_ (X++Y) w.heap.size:=z2_ fun b hb=>hw.lt hb
 have fin: ∀v' w' D,(Builtin.append_ #[ts,tx] ty #[sv,ev f x]).run P w= .ok v' w'→Hp w D w'→Gr D e m.2 v' (n+k) (cs++new)→(∀c,c∈keys X→c∈keys D)→(∀c,c∈keys D→c∈keys X∨w.heap.size≤c)→(∀c o,slB sv≠some c→look X c=some o→look D c=some o)→
   (∃v w' L',(execOp (ev f) ⟨d, .call ⟨.builtin .append, #[s,x], #[ts,tx]⟩,ty,ps,af,g⟩).run P w= .ok (.value v) w'∧Hp w0 L' w'∧Ow P w0 ops md' rest (qA_ f d v) L' N):=by
  intro v' w' D hr hD hb h1 h2 h3
  refine⟨v',w',D++Y, ?_,hw.join hD h1 h2,hn w.heap.size v' D hA hw.size hb h1 h2 h3⟩
  simp only[execOp,resolve,Sem.run_bind,Sem.run_pure,Result.andThen_ok,invoke,builtin,List.map_toArray,List.map_cons,List.map_nil,hsv]
  rw[hr]
  rfl
 rcases hB with hB| ⟨rfl,rfl,b,rfl,hlk⟩
 ·obtain⟨v',w',D,hr,hD,hb,hg,-⟩:=Qc_ (w0:=w) (L:=X) (ty:=ty) (x:=ev f x) hp hu hm hi hz hzs hux hnx hB (fun w2 hw2=>hX w2 (by
   refine hw.join hw2 (fun c hc=>hc) (fun c hc=> .inl hc))) hbig
  exact .inl (fin v' w' D hr hD (.inl hb) hg.keys (fun c hc=>(hg.new c hc).imp id And.right) hg.look)
 ·rcases vZ_ (w0:=w) (L:=X) (ty:=ty) (b:=b) (x:=ev f x) hp hu hm hi hz hzs hux hnx (fun w2 hw2=>hX w2 (by
   refine hw.join hw2 (fun c hc=>hc) (fun c hc=> .inl hc))) hbig with⟨h0,hr⟩ | ⟨-,v',w',D,hr,hD,hb,hg,-⟩
  ·subst h0
   have hnw:=(hX w hw).size
   obtain rfl:new= []:=List.eq_nil_of_length_eq_zero (by rw[hnw,Nat.zero_mul])
   exact .inl (fin _ w X hr hp (.inr ⟨rfl,rfl,b,rfl,hlk⟩) (fun c hc=>hc) (fun c hc=> .inl hc) (fun c o _ hl=>hl))
  ·exact .inl (fin v' w' D hr hD (.inl hb) hg.keys (fun c hc=>(hg.new c hc).imp id And.right) (fun c o _ hl=>hg.look c o (by simp[slB]) hl))
end
theorem New.perm {n:Nat} {D D':ze_} (h:New n D) (hp:D.Perm D'):New n D':=New.of_le fun c hc=>h.le c ((hp.map Prod.fst).mem_iff.2 hc)
end Go.Sx
section
open Go Go.Proofs Go.Sx Go.StP Go.Flo
namespace Go.Proofs
set_option maxRecDepth 10000
set_option maxHeartbeats 400000
set_option linter.unusedSimpArgs false
def dB (d:List UInt8):Int×Nat×Int:=zF_ d 0 0 4099
def dM (d:List UInt8):Int×Nat×Int:=zF_ d (dB d).2.1 (dB d).2.2 4099
theorem ab3_ (d:List UInt8):K4_ d=if(dM d).2.2≠0 then none else if(pcs d (dM d).2.1).2.2≠0 then none else if WS_ (dB d).1 (pcs d (dM d).2.1).1=((dM d).1,0) then some ((dB d).1.toNat,(pcs d (dM d).2.1).1) else none:=rfl
theorem aon_ (p:PcL):Xd_ Tryz.prog 208 1 [(0, .agg (pcC p).toArray)]=some (218,(pcC p).toArray):=
 zT_ Tryz.underlying208 (id (by kernel_rfl)) zrPc (by decide) (w0_ p)
set_option linter.defProp false
end Go.Proofs
end
section
open Go Go.Proofs Go.Sx Go.StP Go.Flo
namespace Go.Proofs
set_option maxRecDepth 10000
set_option maxHeartbeats 400000
set_option linter.unusedSimpArgs false
theorem Vs_ {d:List UInt8} {p:Nat×List PcL} (h:K4_ d=some p): ∃m,WS_ (p.1:Nat) p.2=(m,0):=by
 rw[ab3_] at h
 split at h
 ·cases h
 ·split at h
  ·cases h
  ·split at h
   ·rename_i hc
    cases h
    have hb0:=jo_ (s:=d) (a:=0) (e:=0) (most:=4099) (by omega)
    change 0≤ (dB d).1∧(dB d).1≤4099 at hb0
    refine⟨(dM d).1, ?_⟩
    rw[show(((dB d).1.toNat:Nat):Int)=(dB d).1 by omega]
    exact hc
   ·cases h
set_option linter.defProp false
end Go.Proofs
end
section
open Go Go.Proofs Go.Sx Go.StP Go.Flo
namespace Go.Proofs
set_option maxRecDepth 10000
set_option maxHeartbeats 400000
set_option linter.unusedSimpArgs false
structure PartL where
 d:Bool
 b:Int
 x:List UInt8
def j1_:PartL:=⟨false,0,[]⟩
def qx_ (p:PartL):List Value:= [.bool p.d,vi p.b,vs p.x]
theorem Xn_ (p:PartL): (qx_ p).length=3:=rfl
theorem aaN_ (p:PartL): (qx_ p).all Value.oneCell'=true:=rfl
def xr_ (l:List PartL):Nat→Nat→Except Int (List Nat)
 |0,_=> .error 11
 |k+1,at_=>
  if(l.getD at_ j1_).d=true then
   (if(l.getD at_ j1_).b<0∨(at_:Int)≤ (l.getD at_ j1_).b then .error 2
   else if k=0 then .error 11
   else(xr_ l k (l.getD at_ j1_).b.toNat).map (at_:: ·))
  else if(l.getD at_ j1_).b≠0 then .error 2 else .ok [at_]
def vn_ (l:List PartL) (at_:Int):Except Int (List Nat):=
 if 200<l.length∨at_<0∨(l.length:Int)≤at_ then .error 1 else xr_ l 5 at_.toNat
def xQ_ (p:PartL) (base:List UInt8):List UInt8×Int:=if p.d=true then xi_ base p.x else if 4099<p.x.length then([],19) else(p.x,0)
def vh_ (l:List PartL):List Nat→Except Int (List UInt8)
 | []=> .ok []
 |a::p=>(vh_ l p).bind fun s=>if(xQ_ (l.getD a j1_) s).2=0 then .ok (xQ_ (l.getD a j1_) s).1 else .error (xQ_ (l.getD a j1_) s).2
def partV (l:List PartL) (at_:Int):Except Int (List UInt8):=(vn_ l at_).bind (vh_ l)
def aqw_ (l:List PartL):Nat→Except Int (List (List UInt8))
 |0=> .ok []
 |k+1=>(aqw_ l k).bind fun ts=>(partV l (k:Nat)).map fun s=>ts++ [s]
def allV (l:List PartL):Except Int (List (List UInt8)):=if 200<l.length then .error 1 else aqw_ l l.length
end Go.Proofs
end
section
open Go Go.Proofs Go.Sx Go.StP Go.Flo
namespace Go.Proofs
set_option maxRecDepth 10000
set_option maxHeartbeats 400000
set_option linter.unusedSimpArgs false
def natC (n:Nat):List Value:= [vi n]
theorem afP_ (n:Nat): (natC n).length=1:=rfl
abbrev anL_ (w:World) (v:Value) (l:List PartL):Prop:=SlV 3 qx_ j1_ w v l
theorem Va_ (p:PartL) (E:TypeId) (n:Nat):zk_ (some (false,n)) (some (.cells (qx_ p).toArray E (0,0))) 0=some (.bool p.d):=(rfl)
theorem KX_ (p:PartL) (E:TypeId) (n:Nat):zk_ (some (false,n)) (some (.cells (qx_ p).toArray E (0,0))) 1=some (vi p.b):=(rfl)
theorem KY_ (p:PartL) (E:TypeId) (n:Nat):zk_ (some (false,n)) (some (.cells (qx_ p).toArray E (0,0))) 2=some (vs p.x):=(rfl)
theorem wh_ (p:PartL):Value.cells (.agg (qx_ p).toArray)=(qx_ p).toArray:=zh_ _
theorem aaD_:zK_ Tryz.prog 193=some (.agg (qx_ j1_).toArray):=id (by kernel_rfl)
theorem K2_ (p q:PartL) (E:TypeId):zu_ (some (true,3)) (some (.cells (qx_ q).toArray E (0,0))) 0 (.agg (qx_ p).toArray)=some (.cells (qx_ p).toArray E (0,0)):=
 jJ_ (qx_ p) (n:=3) true (qx_ q).toArray E rfl (aaN_ p) rfl
def aa2_ (l:List PartL) (a0:Int) (v:Value) (D:ze_):Prop:=match vn_ l a0 with
 | .ok p=> ∃x,v= .tuple #[x,vi 0]∧p.length≤5∧GrI D 3 1 x p.length (p.map natC).flatten
 | .error e=>v= .tuple #[.slice none 0 0,vi e]
set_option linter.defProp false
end Go.Proofs
end
section
open Go Go.Proofs Go.Sx Go.StP Go.Flo
namespace Go.Proofs
set_option maxRecDepth 10000
set_option maxHeartbeats 400000
set_option linter.unusedSimpArgs false
theorem Vn_ {l:List PartL}: ∀ (k a:Nat) (e:Int),xr_ l k a= .error e→e≠0
 |0,_,e,h=>by cases h;decide
 |k+1,a,e,h=>by
  unfold xr_ at h
  split at h
  ·split at h
   ·cases h;decide
   ·split at h
    ·cases h;decide
    ·cases hp:xr_ l k (l.getD a j1_).b.toNat with
     |error x=>rw[hp] at h;cases h;exact Vn_ k _ _ hp
     |ok q=>rw[hp] at h;cases h
  ·split at h
   ·cases h;decide
   ·cases h
theorem aac_ {l:List PartL} {a:Int} {e:Int} (h:vn_ l a= .error e):e≠0:=by
 unfold vn_ at h
 split at h
 ·cases h;decide
 ·exact Vn_ _ _ _ h
theorem aa6_ {l:List PartL}: ∀ (k a:Nat) (p:List Nat),a<l.length→xr_ l k a= .ok p→ ∀x,x∈p→x<l.length
 |0,_,_,_,h=>by cases h
 |k+1,a,p,ha,h=>by
  unfold xr_ at h
  split at h
  ·split at h
   ·cases h
   ·rename_i hb
    split at h
    ·cases h
    ·cases hp:xr_ l k (l.getD a j1_).b.toNat with
     |error x=>rw[hp] at h;cases h
     |ok q=>
      rw[hp] at h
      cases h
      intro x hx
      rcases List.mem_cons.1 hx with rfl|hx
      ·exact ha
      ·exact aa6_ k _ q (by omega) hp x hx
  ·split at h
   ·cases h
   ·cases h
    intro x hx
    rw[List.mem_singleton] at hx
    omega
theorem amg_ {l:List PartL} {a:Int} {p:List Nat} (h:vn_ l a= .ok p): ∀x,x∈p→x<l.length:=by
 unfold vn_ at h
 split at h
 ·cases h
 ·exact aa6_ _ _ _ (by omega) h
theorem Z7_ {l:List PartL} {e:Int}: ∀ (p:List Nat) (i:Nat),vh_ l (p.drop i)= .error e→vh_ l p= .error e
 | [],i,h=>by rw[List.drop_nil] at h;exact h
 |a::p,0,h=>h
 |a::p,i+1,h=>by
  have:=Z7_ p i h
  unfold vh_
  rw[this];rfl
theorem amC_ {E:TypeId} {rest:List Value} {l:List Nat} (n i:Nat) (hi:i<l.length):zk_ (some (false,n)) (some (vo_ natC E rest l)) i=some (vi (l.getD i 0)):=by
 unfold vo_ zk_
 have e: (l.map natC).flatten=l.map fun n=>vi (n:Nat):=by
  clear hi
  induction l with
  |nil=>rfl
  |cons a l ih=>rw[List.map_cons,List.flatten_cons,List.map_cons,ih];rfl
 simp only[e]
 rw[List.getElem?_toArray,List.getElem?_append_left (by simpa using hi),List.getElem?_map,List.getElem?_eq_getElem hi,List.getD_eq_getElem?_getD,List.getElem?_eq_getElem hi]
 rfl
set_option linter.defProp false
def ahH_ (r:Except Int (List UInt8)):Value:=match r with
 | .ok s=> .tuple #[vs s,vi 0]
 | .error e=> .tuple #[vs [],vi e]
end Go.Proofs
end
section
open Go Go.Proofs Go.Sx Go.StP Go.Flo
namespace Go.Proofs
set_option maxRecDepth 10000
set_option maxHeartbeats 400000
set_option linter.unusedSimpArgs false
set_option linter.defProp false
end Go.Proofs
end
section
open Go Go.Proofs Go.Sx Go.StP Go.Flo
namespace Go.Proofs
set_option maxRecDepth 10000
set_option maxHeartbeats 400000
set_option linter.unusedSimpArgs false
theorem abH_ {l:List PartL} {e:Int}: ∀ (p:List Nat),vh_ l p= .error e→e≠0
 | [],h=>by cases h
 |a::p,h=>by
  unfold vh_ at h
  cases hp:vh_ l p with
  |error x=>rw[hp] at h;cases h;exact abH_ p hp
  |ok s=>
   rw[hp] at h
   change(if(xQ_ (l.getD a j1_) s).2=0 then _ else _)=_ at h
   split at h
   ·cases h
   ·rename_i hne;cases h;exact hne
theorem ak4_ {l:List PartL} {a e:Int} (h:partV l a= .error e):e≠0:=by
 unfold partV at h
 cases hp:vn_ l a with
 |error x=>rw[hp] at h;cases h;exact aac_ hp
 |ok p=>rw[hp] at h;exact abH_ p h
def strC (s:List UInt8):List Value:= [vs s]
theorem Wh_ (s:List UInt8): (strC s).length=1:=rfl
set_option linter.defProp false
end Go.Proofs
end
namespace Go.Dig
open Go.Sx
def rgt (x:UInt32) (n:UInt64):UInt32:=qj_ x n.toNat|||xG_ x (32 - n).toNat
def S1 (e:UInt32):UInt32:=rgt e 6^^^rgt e 11^^^rgt e 25
def S0 (a:UInt32):UInt32:=rgt a 2^^^rgt a 13^^^rgt a 22
def s1 (y:UInt32):UInt32:=rgt y 17^^^rgt y 19^^^qj_ y 10
def s0 (x:UInt32):UInt32:=rgt x 7^^^rgt x 18^^^qj_ x 3
def kL:List UInt32:= [1116352408,1899447441,3049323471,3921009573,961987163,1508970993,2453635748,2870763221,3624381080,310598401,607225278,1426881987,1925078388,2162078206,2614888103,3248222580,3835390401,4022224774,264347078,604807628,770255983,1249150122,1555081692,1996064986,2554220882,2821834349,2952996808,3210313671,3336571891,3584528711,113926993,338241895,666307205,773529912,1294757372,1396182291,1695183700,1986661051,2177026350,2456956037,2730485921,2820302411,3259730800,3345764771,3516065817,3600352804,4094571909,275423344,430227734,506948616,659060556,883997877,958139571,1322822218,1537002063,1747873779,1955562222,2024104815,2227730452,2361852424,2428436474,2756734187,3204031479,3329325298]
def initL:List UInt32:= [1779033703,3144134277,1013904242,2773480762,1359893119,2600822924,528734635,1541459225]
def aqh_ (b:List UInt8) (i:Nat):UInt32:=
 UInt32.ofNat (b.getD (4*i) 0).toNat*16777216+UInt32.ofNat (b.getD (4*i+1) 0).toNat*65536+UInt32.ofNat (b.getD (4*i+2) 0).toNat*256+UInt32.ofNat (b.getD (4*i+3) 0).toNat
def wPre (b:List UInt8) (i:Nat):List UInt32:=(List.range 64).map fun j=>if j<i then aqh_ b j else 0
theorem wV_ (b:List UInt8) (i:Nat): (wPre b i).length=64:=by simp[wPre]
theorem aiD_ (b:List UInt8) (i:Nat): (wPre b i).set i (aqh_ b i)=wPre b (i+1):=by
 apply List.ext_getElem
 ·simp[wPre]
 intro k hk1 hk2
 have hk:k<64:=by simpa [wPre] using hk2
 rw[List.getElem_set]
 by_cases h:i=k
 ·subst h;simp[wPre]
 ·rw[if_neg h]
  simp only[wPre,List.getElem_map,List.getElem_range]
  by_cases h1:k<i
  ·rw[if_pos h1,if_pos (by omega)]
  ·rw[if_neg h1,if_neg (by omega)]
theorem aiT_ (b:List UInt8):wPre b 0=List.replicate 64 0:=by
 apply List.ext_getElem
 ·simp[wPre]
 intro k hk1 hk2
 simp only[wPre,List.getElem_map,List.getElem_range,List.getElem_replicate]
 rw[if_neg (by omega)]
def amy_ (w:List UInt32) (g:Nat):List UInt32:=w.set g (s1 (w.getD (g - 2) 0)+w.getD (g - 7) 0+s0 (w.getD (g - 15) 0)+w.getD (g - 16) 0)
def wGo (w:List UInt32):Nat→List UInt32
 |0=>w
 |n+1=>amy_ (wGo w n) (16+n)
theorem Vj_ (w:List UInt32) (n:Nat): (wGo w n).length=w.length:=by
 induction n with
 |zero=>rfl
 |succ n ih=>simp[wGo,amy_,ih]
def wAll (b:List UInt8):List UInt32:=wGo (wPre b 16) 48
theorem acX_ (b:List UInt8): (wAll b).length=64:=by rw[wAll,Vj_,wV_]
def arS_ (s:List UInt32) (k w:UInt32):List UInt32:=
 let t:=s.getD 7 0+S1 (s.getD 4 0)+ (s.getD 4 0&&&s.getD 5 0||| ~~~ s.getD 4 0&&&s.getD 6 0)+k+w
 let u:=S0 (s.getD 0 0)+ (s.getD 0 0&&&s.getD 1 0|||s.getD 0 0&&&s.getD 2 0|||s.getD 1 0&&&s.getD 2 0)
 [t+u,s.getD 0 0,s.getD 1 0,s.getD 2 0,s.getD 3 0+t,s.getD 4 0,s.getD 5 0,s.getD 6 0]
def rGo (st w:List UInt32):Nat→List UInt32
 |0=>st
 |n+1=>arS_ (rGo st w n) (kL.getD n 0) (w.getD n 0)
def abx_ (st s:List UInt32) (i:Nat):List UInt32:=(List.range 8).map fun j=>if j<i then st.getD j 0+s.getD j 0 else st.getD j 0
theorem WK_ (st s:List UInt32) (i:Nat): (abx_ st s i).length=8:=by simp[abx_]
def comp (st:List UInt32) (b:List UInt8):List UInt32:=abx_ st (rGo st (wAll b) 64) 8
theorem w6_ (st:List UInt32) (b:List UInt8): (comp st b).length=8:=WK_ _ _ _
def w7_ (st:List UInt32) (m:List UInt8):Nat→List UInt32
 |0=>st
 |n+1=>comp (w7_ st m n) ((m.drop (64*n)).take 64)
theorem aaV_ (st:List UInt32) (m:List UInt8) (n:Nat) (h:st.length=8): (w7_ st m n).length=8:=by
 cases n with
 |zero=>exact h
 |succ n=>exact w6_ _ _
theorem abg_ (st:List UInt32) (m x:List UInt8) (n:Nat) (h:64*n≤m.length):w7_ st (m++x) n=w7_ st m n:=by
 induction n with
 |zero=>rfl
 |succ n ih=>
  simp only[w7_]
  rw[ih (by omega),List.drop_append_of_le_length (by omega),List.take_append_of_le_length (by simp;omega)]
section
variable {bg:Bool} {st:List UInt32} {rest:List UInt8} {many:Int} {taken:UInt64} {E:TypeId}
end
def acc (b:List UInt8) (i:Nat):Nat→UInt32
 |0=>0
 |k+1=>xG_ (acc b i k) 8|||UInt32.ofNat (b.getD (4*i+k) 0).toNat
theorem Zo_ {α:Type} (l:List α) (i:Nat) (x d:α) (h:i<l.length): (l.set i x).getD i d=x:=by
 simp[List.getD_eq_getElem?_getD,h]
def wG (b:List UInt8) (g:Nat):List UInt32:=wGo (wPre b 16) (g - 16)
theorem aj0_ (b:List UInt8) (g:Nat): (wG b g).length=64:=by rw[wG,Vj_,wV_]
theorem an6_ (b:List UInt8) (g:Nat) (h:16≤g):wG b (g+1)=amy_ (wG b g) g:=by
 unfold wG
 have:g+1 - 16=(g - 16)+1:=by omega
 rw[this]
 show amy_ _ (16+ (g - 16))=_
 rw[show 16+ (g - 16)=g from by omega]
theorem aqR_ (b:List UInt8):wG b 64=wAll b:=rfl
theorem alR_ (b:List UInt8):wPre b 16=wG b 16:=rfl
def Glob (w:World):Prop:= ∃e0 e1 f0 f1,w.heap[0]? =some (.cells (a32 initL) e0 f0)∧w.heap[1]? =some (.cells (a32 kL) e1 f1)
theorem Glob.of {w0 w:World} {L:ze_} (hg:Glob w0) (h:Hp w0 L w) (hk: ∀b,b∈keys L→1<b):Glob w:=by
 obtain⟨e0,e1,f0,f1,h0,h1⟩:=hg
 refine⟨e0,e1,f0,f1, ?_, ?_⟩
 ·rw[h.old 0 (Array.getElem?_eq_some_iff.1 h0).1 (fun hm=>by have:=hk 0 hm;omega)];exact h0
 ·rw[h.old 1 (Array.getElem?_eq_some_iff.1 h1).1 (fun hm=>by have:=hk 1 hm;omega)];exact h1
structure Hs where
 st:List UInt32
 rest:List UInt8
 many:Nat
structure Hs.Ok (s:Hs):Prop where
 st:s.st.length=8
 rest:s.rest.length=64
 many:s.many<64
def hput (s:Hs) (x:UInt8):Hs:=
 if s.many+1=64 then⟨comp s.st (s.rest.set s.many x),s.rest.set s.many x,0⟩ else⟨s.st,s.rest.set s.many x,s.many+1⟩
theorem an5_ {s:Hs} (x:UInt8) (h:s.Ok): (hput s x).Ok:=by
 unfold hput
 split
 ·exact⟨w6_ _ _,by simp[h.rest],by show(0:Nat)<64;omega⟩
 ·exact⟨h.st,by simp[h.rest],by show s.many+1<64;have:=h.many;omega⟩
theorem abr_ (cs:Array Value) (E:TypeId) (fz:Nat×Nat) (n i:Nat):zk_ (some (false,n)) (some (.cells cs E fz)) i=cs[i]? :=(rfl)
end Go.Dig
section
open Go Go.Proofs Go.Sx Go.Dig
namespace Go.Proofs
set_option maxRecDepth 10000
set_option maxHeartbeats 4000000
set_option linter.unusedSimpArgs false
theorem q3_ (x:UInt32) (n:UInt64) (w:World):Rets Tryz.prog 131 #[v32 x,v64 n] w (fun v D=>v=v32 (rgt x n)∧D= []):=by
 refine Rets.enterV Tryz.func131 rfl (rs:= [.tmp 4]) Tryz.results131 Tryz.ntmps131 ?_
 refine kf ?_
 first|with_reducible refine ks [] @Nat.add_zero ?_|refine kp @Nat.add_zero ?_
 refine⟨_,(ke @Nat.add_zero),trivial, ?_⟩
 rfl
theorem ac0_ (w:World):Rets Tryz.prog 132 #[] w (fun v D=>v= .agg (a32 kL)∧D= []):=by
 refine Rets.enterV Tryz.func132 rfl (rs:= [.cell 0 198]) Tryz.results132 Tryz.ntmps132 ?_
 refine kf ?_
 first|with_reducible refine ks [] @Nat.add_zero ?_|refine kp @Nat.add_zero ?_
 have hkl:kL.length=64:=rfl
 refine Ow.alloc rfl rfl Tryz.zr198 fun b1 _ hw1=> ?_
 refine ko @Nat.add_zero ?_
 first|with_reducible refine ks [] @Nat.add_zero ?_|refine kp @Nat.add_zero ?_
 refine Ow.build (.agg (a32 kL)) rfl (by kernel_rfl) ?_
 refine ko @Nat.add_zero ?_
 first|with_reducible refine ks [] @Nat.add_zero ?_|refine kp @Nat.add_zero ?_
 refine⟨_,(ke @Nat.add_zero),⟨hw1,trivial⟩, ?_⟩
 rfl
end Go.Proofs
end
section
open Go Go.Proofs Go.Sx Go.Dig
namespace Go.Proofs
set_option maxRecDepth 10000
set_option maxHeartbeats 4000000
set_option linter.unusedSimpArgs false
set_option linter.defProp false
end Go.Proofs
end
section
open Go Go.Proofs Go.Sx Go.Dig
namespace Go.Proofs
set_option maxRecDepth 10000
set_option maxHeartbeats 1000000
set_option linter.unusedSimpArgs false
theorem aca_ (n:Nat):UInt64.ofInt (n:Int)=UInt64.ofNat n:=by
 apply UInt64.toNat.inj
 rw[show UInt64.ofInt (n:Int)=UInt64.ofNat ((n:Int)%2^64).toNat from rfl,UInt64.toNat_ofNat',UInt64.toNat_ofNat']
 omega
set_option linter.defProp false
end Go.Proofs
end
namespace Go.Dig
open Go.Sx
def VF_ (m:Nat):Nat:=(120 - m)%64
def lenB (t:UInt64) (g:Nat):UInt8:=UInt8.ofNat (xm_ (8*t) (56 - 8*g)).toNat
def len8 (t:UInt64):List UInt8:=(List.range 8).map (lenB t)
def outB (st:List UInt32) (j:Nat):UInt8:=UInt8.ofNat (qj_ (st.getD (j / 4) 0) (24 - 8* (j%4))).toNat
def kN_ (st:List UInt32) (k:Nat):List UInt8:=(List.range 32).map fun j=>if j<k then outB st j else 0
def H0:Hs:=⟨initL,List.replicate 64 0,0⟩
theorem ar4_:H0.Ok:=⟨rfl,by simp[H0],by show(0:Nat)<64;omega⟩
theorem outPre_length (st:List UInt32) (k:Nat): (kN_ st k).length=32:=by simp[kN_]
theorem ad0_ (st:List UInt32):kN_ st 0=List.replicate 32 0:=by
 apply List.ext_getElem
 ·simp[kN_]
 intro k hk1 hk2
 simp only[kN_,List.getElem_map,List.getElem_range,List.getElem_replicate]
 rw[if_neg (by omega)]
theorem aeB_ (st:List UInt32) (k:Nat): (kN_ st k).set k (outB st k)=kN_ st (k+1):=by
 apply List.ext_getElem
 ·simp[kN_]
 intro j hk1 hk2
 rw[List.getElem_set]
 by_cases h:k=j
 ·subst h;simp[kN_]
 ·rw[if_neg h]
  simp only[kN_,List.getElem_map,List.getElem_range]
  by_cases h1:j<k
  ·rw[if_pos h1,if_pos (by omega)]
  ·rw[if_neg h1,if_neg (by omega)]
theorem ac1_ (t:UInt64): (len8 t).length=8:=by simp[len8]
end Go.Dig
section
open Go Go.Proofs Go.Sx Go.Dig
namespace Go.Proofs
set_option maxRecDepth 10000
set_option maxHeartbeats 1000000
set_option linter.unusedSimpArgs false
set_option linter.defProp false
end Go.Proofs
end
section
open Go Go.Proofs Go.Sx Go.Dig
namespace Go.Proofs
set_option maxRecDepth 10000
set_option maxHeartbeats 1000000
set_option linter.unusedSimpArgs false
set_option linter.defProp false
end Go.Proofs
end
namespace Go.Dig
open Go.Sx
def quoN (t:UInt64):Nat→UInt64
 |0=>t
 |n+1=>quoN t n / 256
theorem ahA_ (t:UInt64) (n:Nat): (quoN t n).toNat=t.toNat / 256^n:=by
 induction n with
 |zero=>simp[quoN]
 |succ n ih=>
  show(quoN t n / 256).toNat=_
  rw[UInt64.toNat_div,ih,Nat.pow_succ,Nat.div_div_eq_div_mul];rfl
def apJ_ (t:UInt64) (j:Nat):UInt8:=UInt8.ofNat (xm_ t (56 - 8*j)).toNat
theorem amt_ (t:UInt64) (i:Nat) (h:i<8):UInt8.ofNat (quoN t i%256).toNat=apJ_ t (7 - i):=by
 apply UInt8.toNat.inj
 unfold apJ_
 rw[UInt8.toNat_ofNat',UInt8.toNat_ofNat',UInt64.toNat_mod,ahA_,xm_,UInt64.toNat_ofNat']
 have e:56 - 8* (7 - i)=8*i:=by omega
 have ht:=t.toNat_lt
 have hd:t.toNat / 2^ (8*i)≤t.toNat:=Nat.div_le_self _ _
 rw[e,Nat.mod_eq_of_lt (a:=t.toNat / 2^ (8*i)) (by omega)]
 have e2:256^i=2^ (8*i):=by rw[Nat.pow_mul]
 rw[e2,show(256:UInt64).toNat=256 from rfl]
 omega
def js_ (t:UInt64) (i:Nat):List UInt8:=(List.range 8).map fun j=>if 8≤j+i then apJ_ t j else 0
theorem Ky_ (t:UInt64) (i:Nat): (js_ t i).length=8:=by simp[js_]
theorem abU_ (t:UInt64):js_ t 0=List.replicate 8 0:=by
 apply List.ext_getElem
 ·simp[js_]
 intro k hk1 hk2
 have:k<8:=by simpa [js_] using hk1
 simp only[js_,List.getElem_map,List.getElem_range,List.getElem_replicate]
 rw[if_neg (by omega)]
theorem abJ_ (t:UInt64) (i:Nat) (h:i<8): (js_ t i).set (7 - i) (UInt8.ofNat (quoN t i%256).toNat)=js_ t (i+1):=by
 rw[amt_ t i h]
 apply List.ext_getElem
 ·simp[js_]
 intro j hj1 hj2
 have hj:j<8:=by simpa [js_] using hj2
 rw[List.getElem_set]
 by_cases h1:7 - i=j
 ·rw[if_pos h1]
  simp only[js_,List.getElem_map,List.getElem_range]
  rw[if_pos (by omega),h1]
 ·rw[if_neg h1]
  simp only[js_,List.getElem_map,List.getElem_range]
  by_cases h2:8≤j+i
  ·rw[if_pos h2,if_pos (by omega)]
  ·rw[if_neg h2,if_neg (by omega)]
theorem acS_ (t:UInt64):js_ (8*t) 8=len8 t:=by
 unfold js_ len8
 apply List.map_congr_left
 intro j hj
 rw[if_pos (by omega)];rfl
def padR (m:List UInt8):List UInt8:=m++ [128]++List.replicate (VF_ ((m.length+1)%64)) 0++len8 (UInt64.ofNat m.length)
theorem KR_ (n:Nat): (n+VF_ (n%64))%64=56∧VF_ (n%64)<64:=by unfold VF_;omega
theorem ad1_ (m:List UInt8): (padR m).length%64=0∧(padR m).length≤m.length+72:=by
 have:=KR_ (m.length+1)
 simp only[padR,List.length_append,List.length_replicate,ac1_,List.length_cons,List.length_nil]
 omega
def shaR (m:List UInt8):List UInt8:=kN_ (w7_ initL (padR m) ((padR m).length / 64)) 32
theorem ahl_ (st s:List UInt32):abx_ st s 8= [st.getD 0 0+s.getD 0 0,st.getD 1 0+s.getD 1 0,st.getD 2 0+s.getD 2 0,st.getD 3 0+s.getD 3 0,st.getD 4 0+s.getD 4 0,st.getD 5 0+s.getD 5 0,st.getD 6 0+s.getD 6 0,st.getD 7 0+s.getD 7 0]:=rfl
end Go.Dig
section
open Go Go.Proofs Go.Sx Go.Dig
namespace Go.Proofs
set_option maxRecDepth 10000
set_option maxHeartbeats 1000000
set_option linter.unusedSimpArgs false
set_option linter.defProp false
def zH_:= @Zo_
theorem XQ_ (m:List UInt8) (hm:m.length<1099511627776) (w:World):
  Rets Tryz.prog 107 #[vs m] w (fun v D=>v=vs (padR m)∧D= []):=by
 refine Rets.enterV Tryz.func107 rfl (rs:= [.tmp 2]) Tryz.results107 Tryz.ntmps107 ?_
 refine kf ?_
 first|with_reducible refine ks [] @zH_ ?_|refine kp @zH_ ?_
 have hz:=KR_ (m.length+1)
 rw[show m++ [128]=m++ [128]++List.replicate 0 0 from(List.append_nil _).symm]
 refine Cw.loopG (G:=Nat) [9,10,11,12,13,14,3] (fun g=> [(3,vs (m++ [128]++List.replicate g 0))]) (fun g=> []) (fun g=>g≤VF_ ((m.length+1)%64)) (fun g=>VF_ ((m.length+1)%64) - g) 0 rfl rfl ?_ ?_
 ·omega
 intro g j hg
 refine kv ?_
 have hl: (m++ [128]++List.replicate g 0).length=m.length+1+g:=by simp;omega
 by_cases hlt:g<VF_ ((m.length+1)%64)
 ·have h56: (m.length+1+g)%64≠56:=by unfold VF_ at*;omega
  first|with_reducible refine ks [] (And.intro @zH_ @hl) ?_|refine kp (And.intro @zH_ @hl) ?_
  refine Again.mk (g+1) (by omega) (by omega) rfl ?_
  rw[show m++ [128]++List.replicate (g+1) 0=m++ [128]++List.replicate g 0++ [0] from by rw[List.replicate_succ'];simp]
  rfl
 ·have hge:g=VF_ ((m.length+1)%64):=by omega
  subst hge
  first|with_reducible refine ks [] (And.intro @zH_ @hl) ?_|refine kp (And.intro @zH_ @hl) ?_
  refine Ow.alloc rfl rfl Tryz.zr197 fun b1 hb1 hw1=> ?_
  rw[show UInt64.ofInt (m.length:Int)=UInt64.ofNat m.length from aca_ _]
  refine ko @zH_ ?_
  first|with_reducible refine ks [] @zH_ ?_|refine kp @zH_ ?_
  generalize ht:UInt64.ofNat m.length*8=t
  rw[←abU_ t]
  refine Cw.loopG (G:=Nat) [19,20,23,24,25,26,27,28,29,30,4,21,22,6] (fun i=> [(4,v64 (quoN t i)),(6,vi i)]) (fun i=> [(b1, .cells (a8 (js_ t i)) 197 (0,0))]) (fun i=>i≤8) (fun i=>8 - i) 0 rfl rfl ?_ ?_
  ·omega
  intro i ji hi
  refine kv ?_
  have htl:=Ky_ t i
  by_cases hi8:i<8
  ·first|with_reducible refine ks [] @zH_ ?_|refine kp @zH_ ?_
   refine Again.mk (i+1) (by omega) (by omega) ?_ rfl
   rw[abJ_ t i hi8]
  ·have hie:i=8:=by omega
   subst hie
   first|with_reducible refine ks [] @zH_ ?_|refine kp @zH_ ?_
   rw[List.drop_zero,List.take_of_length_le (show(js_ t 8).length≤8 by omega),←ht,UInt64.mul_comm,acS_]
   refine⟨_,(ke @zH_),⟨hw1,trivial⟩, ?_⟩
   rfl
theorem agc_ (st:List UInt32) (blk:List UInt8) (hst:st.length=8) (hbk:blk.length=64) (w:World):
  Rets Tryz.prog 108 #[.agg (a32 st),vs blk] w (fun v D=>v= .agg (a32 (comp st blk))∧D= []):=by
 have hkl:kL.length=64:=rfl
 refine Rets.enterV Tryz.func108 rfl (rs:= [.cell 4 176]) Tryz.results108 Tryz.ntmps108 ?_
 refine kf ?_
 first|with_reducible refine ks [] @zH_ ?_|refine kp @zH_ ?_
 refine Ow.box rfl rfl fun b1 hb1 hw1=> ?_
 refine ko @zH_ ?_
 refine Ow.alloc rfl rfl Tryz.zr176 fun b2 hb2 hw2=> ?_
 obtain⟨h12,-⟩:=hb2
 refine ko @zH_ ?_
 first|with_reducible refine ks [] @zH_ ?_|refine kp @zH_ ?_
 refine Ow.alloc rfl rfl Tryz.zr198 fun b3 hb3 hw3=> ?_
 obtain⟨h13,h23,-⟩:=hb3
 refine ko @zH_ ?_
 first|with_reducible refine ks [] @zH_ ?_|refine kp @zH_ ?_
 rw[←aiT_ blk]
 refine Cw.loopG (G:=Nat) [22,23,26,27,28,29,30,31,32,33,34,35,36,37,38,39,40,41,42,43,44,45,46,47,48,49,50,51,52,53,54,55,56,24,25,6] (fun g=> [(6,vi g)]) (fun g=> [(b1, .cells (a32 st) 176 (0,0)),(b2, .cells (a32 (List.replicate 8 0)) 176 (0,0)),(b3, .cells (a32 (wPre blk g)) 198 (0,0))]) (fun g=>g≤16) (fun g=>16 - g) 0 rfl rfl ?_ ?_
 ·omega
 intro g j hg
 refine kv ?_
 have hlen:=wV_ blk g
 by_cases hlt:g<16
 ·first|with_reducible refine ks [] @zH_ ?_|refine kp @zH_ ?_
  refine Cw.regionO [0,1,2,3,4,5,6,7,8,9,10,11,12,13,14,15,16,17,18,19,20,21,22,23,24,25,26,27,28,29,30,31] [31] rfl (by kernel_rfl) (by kernel_rfl) ?_
  simp only[zj_, ↓zf_, ↓zc_, ↓zw_, ↓zv_,zd_]
  refine kq @zH_ ?_
  refine Ow.store rfl rfl rfl (ke @zH_) ?_
  refine ko @zH_ ?_
  first|with_reducible refine ks [] @zH_ ?_|refine kp @zH_ ?_
  exact Again.mk (g+1) (by omega) (by omega) (by rw[←aiD_];rfl) rfl
 ·have hg16:g=16:=by omega
  subst hg16
  first|with_reducible refine ks [] @zH_ ?_|refine kp @zH_ ?_
  rw[alR_]
  refine Cw.loopG (G:=Nat) [57,58,61,62,63,64,65,66,67,68,8,9,69,70,71,72,73,74,75,76,77,78,79,80,81,82,83,84,85,86,87,88,89,90,91,92,93,94,95,96,97,59,60,7] (fun g=> [(7,vi g)]) (fun g=> [(b1, .cells (a32 st) 176 (0,0)),(b2, .cells (a32 (List.replicate 8 0)) 176 (0,0)),(b3, .cells (a32 (wG blk g)) 198 (0,0))]) (fun g=>16≤g∧g≤64) (fun g=>64 - g) 16 rfl rfl ?_ ?_
  ·omega
  intro g j hg
  refine kv ?_
  obtain⟨hg1,hg2⟩:=hg
  have hlen:=aj0_ blk g
  by_cases hlt:g<64
  ·first|with_reducible refine ks [] @zH_ ?_|refine kp @zH_ ?_
   refine Cw.regionO [0,1,2,4,5,6,3,8,7,9] [] rfl (by kernel_rfl) (by kernel_rfl) ?_
   simp only[zj_, ↓zf_, ↓zc_, ↓zw_, ↓zv_,zd_]
   refine kq @zH_ ?_
   first|with_reducible refine ks [] @zH_ ?_|refine kp @zH_ ?_
   refine Cw.regionO [0,1,3,6,7,9,10,11,14,16,19,20,23,24,25,12,26,2,4,5,8,13,15,17,18,21,22,27,28,29] [29] rfl (by kernel_rfl) (by kernel_rfl) ?_
   simp only[zj_, ↓zf_, ↓zc_, ↓zw_, ↓zv_,zd_]
   refine kq @zH_ ?_
   refine Ow.callFV rfl Tryz.call131 (fun w' hw'=>q3_ _ 17 w') ?_
   refine kq @zH_ ?_
   refine Ow.callFV rfl Tryz.call131 (fun w' hw'=>q3_ _ 19 w') ?_
   refine kq @zH_ ?_
   refine Ow.callFV rfl Tryz.call131 (fun w' hw'=>q3_ _ 7 w') ?_
   refine kq @zH_ ?_
   refine Ow.callFV rfl Tryz.call131 (fun w' hw'=>q3_ _ 18 w') ?_
   refine kq @zH_ ?_
   refine Ow.store rfl rfl rfl (ke @zH_) ?_
   refine ko @zH_ ?_
   first|with_reducible refine ks [] @zH_ ?_|refine kp @zH_ ?_
   exact Again.mk (g+1) (by omega) (by omega) (by rw[an6_ blk g hg1];rfl) rfl
  ·have hg64:g=64:=by omega
   subst hg64
   rw[aqR_]
   have hwl:=acX_ blk
   first|with_reducible refine ks [] @zH_ ?_|refine kp @zH_ ?_
   refine Ow.callFV rfl Tryz.call132 (fun w' hw'=>ac0_ w') ?_
   refine ko @zH_ ?_
   refine Ow.alloc rfl rfl Tryz.zr198 fun b4 hb4 hw4=> ?_
   obtain⟨h14,h24,h34,-⟩:=hb4
   refine ko @zH_ ?_
   first|with_reducible refine ks [] @zH_ ?_|refine kp @zH_ ?_
   refine Cw.regionO [0,2,4,6,1,8,3,9,5,10,7,11] [] rfl (by kernel_rfl) (by kernel_rfl) ?_
   simp only[zj_, ↓zf_, ↓zc_, ↓zw_, ↓zv_,zd_]
   refine kq @zH_ ?_
   first|with_reducible refine ks [] @zH_ ?_|refine kp @zH_ ?_
   refine Cw.regionO [0,2,4,6,1,8,3,9,5,10,7,11] [] rfl (by kernel_rfl) (by kernel_rfl) ?_
   simp only[zj_, ↓zf_, ↓zc_, ↓zw_, ↓zv_,zd_]
   refine kq @zH_ ?_
   first|with_reducible refine ks [] @zH_ ?_|refine kp @zH_ ?_
   generalize hw:wAll blk=W at*
   refine Cw.loopG (G:=Nat) [115,116,119,120,121,122,123,124,125,126,127,128,129,130,131,132,133,134,135,136,137,138,139,140,141,142,143,144,145,20,146,147,148,149,150,151,152,153,154,155,156,157,158,159,160,161,162,163,164,165,21,166,18,167,17,168,16,169,170,171,15,172,14,173,13,174,12,175,176,177,11,117,118,19] (fun g=> [(19,vi g),(11,v32 ((rGo st W g).getD 0 0)),(12,v32 ((rGo st W g).getD 1 0)),(13,v32 ((rGo st W g).getD 2 0)),(14,v32 ((rGo st W g).getD 3 0)),(15,v32 ((rGo st W g).getD 4 0)),(16,v32 ((rGo st W g).getD 5 0)),(17,v32 ((rGo st W g).getD 6 0)),(18,v32 ((rGo st W g).getD 7 0))]) (fun g=> [(b1, .cells (a32 st) 176 (0,0)),(b2, .cells (a32 (List.replicate 8 0)) 176 (0,0)),(b3, .cells (a32 W) 198 (0,0)),(b4, .cells (a32 kL) 198 (0,0))]) (fun g=>g≤64) (fun g=>64 - g) 0 rfl rfl ?_ ?_
   ·omega
   ·intro g j hg
    refine kv ?_
    by_cases hlt:g<64
    ·first|with_reducible refine ks [] @zH_ ?_|refine kp @zH_ ?_
     refine Cw.regionO [0,1,3,6,10,11,12,13,14,15,16,17,19,20,23,24,21,25,2,4,5,7,8,9,18,22,26,27] [] rfl (by kernel_rfl) (by kernel_rfl) ?_
     simp only[zj_, ↓zf_, ↓zc_, ↓zw_, ↓zv_,zd_]
     refine kq @zH_ ?_
     refine Ow.callFV rfl Tryz.call131 (fun w' hw'=>q3_ _ 6 w') ?_
     refine kq @zH_ ?_
     refine Ow.callFV rfl Tryz.call131 (fun w' hw'=>q3_ _ 11 w') ?_
     refine kq @zH_ ?_
     refine Ow.callFV rfl Tryz.call131 (fun w' hw'=>q3_ _ 25 w') ?_
     refine kq @zH_ ?_
     first|with_reducible refine ks [] @zH_ ?_|refine kp @zH_ ?_
     refine Ow.callFV rfl Tryz.call131 (fun w' hw'=>q3_ _ 2 w') ?_
     refine ko @zH_ ?_
     refine Ow.callFV rfl Tryz.call131 (fun w' hw'=>q3_ _ 13 w') ?_
     refine ko @zH_ ?_
     refine Ow.callFV rfl Tryz.call131 (fun w' hw'=>q3_ _ 22 w') ?_
     refine ko @zH_ ?_
     first|with_reducible refine ks [] @zH_ ?_|refine kp @zH_ ?_
     exact Again.mk (g+1) (by omega) (by omega) rfl rfl
    ·have hg64:g=64:=by omega
     subst hg64
     first|with_reducible refine ks [] @zH_ ?_|refine kp @zH_ ?_
     have hcomp:comp st blk=abx_ st (rGo st W 64) 8:=by rw[←hw];rfl
     rw[hcomp]
     generalize rGo st W 64=R at*
     rw[ahl_]
     refine Ow.build (.agg (a32 [st.getD 0 0+R.getD 0 0,st.getD 1 0+R.getD 1 0,st.getD 2 0+R.getD 2 0,st.getD 3 0+R.getD 3 0,st.getD 4 0+R.getD 4 0,st.getD 5 0+R.getD 5 0,st.getD 6 0+R.getD 6 0,st.getD 7 0+R.getD 7 0])) rfl (by kernel_rfl) ?_
     refine ko @zH_ ?_
     first|with_reducible refine ks [] @zH_ ?_|refine kp @zH_ ?_
     refine⟨_,(ke @zH_),⟨hw1,hw2,hw3,hw4,trivial⟩, ?_⟩
     rfl
end Go.Proofs
end
section
open Go Go.Proofs Go.Sx Go.Dig
namespace Go.Proofs
set_option maxRecDepth 10000
set_option maxHeartbeats 1000000
set_option linter.unusedSimpArgs false
set_option linter.defProp false
def jQ_:= @Zo_
theorem aey_ (m:List UInt8) (hm:m.length<1099511627776) (w:World):
  Rets Tryz.prog 83 #[vs m] w (fun v D=>v= .agg (a8 (shaR m))∧D= []):=by
 refine Rets.enterV Tryz.func83 rfl (rs:= [.cell 2 118]) Tryz.results83 Tryz.ntmps83 ?_
 refine kf ?_
 first|with_reducible refine ks [] @jQ_ ?_|refine kp @jQ_ ?_
 refine Ow.alloc rfl rfl Tryz.zr118 fun b1 hb1 hw1=> ?_
 refine ko @jQ_ ?_
 first|with_reducible refine ks [] @jQ_ ?_|refine kp @jQ_ ?_
 refine Ow.callFV rfl Tryz.call107 (fun w' hw'=>XQ_ m hm w') ?_
 have hp:=ad1_ m
 unfold shaR
 generalize padR m=p at*
 refine ko @jQ_ ?_
 first|with_reducible refine ks [] @jQ_ ?_|refine kp @jQ_ ?_
 refine Ow.build (.agg (a32 initL)) rfl (by kernel_rfl) ?_
 refine ko @jQ_ ?_
 refine Ow.alloc rfl rfl Tryz.zr176 fun b2 hb2 hw2=> ?_
 obtain⟨h12,-⟩:=hb2
 have hil:initL.length=8:=rfl
 refine ko @jQ_ ?_
 first|with_reducible refine ks [] @jQ_ ?_|refine kp @jQ_ ?_
 rw[show a32 initL=a32 (w7_ initL p 0) from rfl]
 refine Cw.loopG (G:=Nat) [11,12,13,14,17,18,19,20,21,22,23,15,16,5] (fun g=> [(5,vi (64*g))]) (fun g=> [(b1, .cells (a8 (List.replicate 32 0)) 118 (0,0)),(b2, .cells (a32 (w7_ initL p g)) 176 (0,0))]) (fun g=>64*g≤p.length) (fun g=>p.length - 64*g) 0 rfl rfl ?_ ?_
 ·omega
 intro g j hg
 refine kv ?_
 have hcl:=aaV_ initL p g rfl
 by_cases hlt:64*g<p.length
 ·first|with_reducible refine ks [] @jQ_ ?_|refine kp @jQ_ ?_
  refine Cw.regionO [1,2,3,4,5,0,6,7] [7] rfl (by kernel_rfl) (by kernel_rfl) ?_
  simp only[zj_, ↓zf_, ↓zc_, ↓zw_, ↓zv_,zd_]
  refine kq @jQ_ ?_
  rw[show List.drop (64*g) (List.take (64*g+64) p)=(p.drop (64*g)).take 64 from by rw[List.drop_take];congr 1;omega]
  refine Ow.callFV rfl Tryz.call108 (fun w' hw'=>agc_ _ _ hcl (by simp;omega) w') ?_
  have hcl2:=w6_ (w7_ initL p g) ((p.drop (64*g)).take 64)
  refine kq @jQ_ ?_
  refine Ow.store rfl rfl rfl (ke @jQ_) ?_
  refine ko @jQ_ ?_
  first|with_reducible refine ks [] @jQ_ ?_|refine kp @jQ_ ?_
  exact Again.mk (g+1) (by omega) (by omega) rfl (by rw[show 64* ((g+1:Nat):Int)=64* (g:Int)+64 from by omega];rfl)
 ·have hge:g=p.length / 64:=by omega
  first|with_reducible refine ks [] @jQ_ ?_|refine kp @jQ_ ?_
  rw[←hge]
  refine Ow.alloc rfl rfl Tryz.zr118 fun b3 hb3 hw3=> ?_
  obtain⟨h13,h23,-⟩:=hb3
  refine ko @jQ_ ?_
  first|with_reducible refine ks [] @jQ_ ?_|refine kp @jQ_ ?_
  generalize w7_ initL p g=S at*
  rw[show [(b1,Obj.cells (a8 (List.replicate 32 0)) 118 (0,0)),(b2, .cells (a32 S) 176 (0,0)),(b3, .cells (a8 (List.replicate 32 0)) 118 (0,0))]= [(b1,Obj.cells (a8 (List.replicate 32 0)) 118 (0,0)),(b2, .cells (a32 S) 176 (0,0)),(b3, .cells (a8 (kN_ S 0)) 118 (0,0))] from by rw[ad0_]]
  refine Cw.loopG (G:=Nat) [24,25,28,29,30,31,32,33,34,35,36,37,38,39,40,26,27,7] (fun k=> [(7,vi k)]) (fun k=> [(b1, .cells (a8 (List.replicate 32 0)) 118 (0,0)),(b2, .cells (a32 S) 176 (0,0)),(b3, .cells (a8 (kN_ S k)) 118 (0,0))]) (fun k=>k≤32) (fun k=>32 - k) 0 rfl rfl ?_ ?_
  ·omega
  intro k jk hk
  refine kv ?_
  have hol:=outPre_length S k
  by_cases hk:k<32
  ·first|with_reducible refine ks [] @jQ_ ?_|refine kp @jQ_ ?_
   refine Again.mk (k+1) (by omega) (by omega) ?_ rfl
   have e: (UInt64.ofInt (24 - 8* ((k:Int)%4))).toNat=24 - 8* (k%4):=by
    rw[show(24 - 8* ((k:Int)%4))=((24 - 8* (k%4):Nat):Int) from by omega,aca_,UInt64.toNat_ofNat',Nat.mod_eq_of_lt (by omega)]
   rw[e,←aeB_];rfl
  ·have hke:k=32:=by omega
   subst hke
   first|with_reducible refine ks [] @jQ_ ?_|refine kp @jQ_ ?_
   refine⟨_,(ke @jQ_),⟨hw1,hw2,hw3,trivial⟩, ?_⟩
   rfl
end Go.Proofs
end
namespace Go.Dig
open Go.Sx
structure Inv (s:Hs) (p:List UInt8):Prop where
 ok:s.Ok
 st:s.st=w7_ initL p (p.length / 64)
 many:s.many=p.length%64
 rest:s.rest.take s.many=p.drop (64* (p.length / 64))
theorem Inv.put {s:Hs} {p:List UInt8} (h:Inv s p) (x:UInt8):Inv (hput s x) (p++ [x]):=by
 obtain⟨hok,hst,hmany,hrest⟩:=h
 have hk:=an5_ x hok
 have hm64:=hok.many
 have hrl:=hok.rest
 have hle:64* (p.length / 64)≤p.length:=by omega
 have htake: (s.rest.set s.many x).take (s.many+1)=p.drop (64* (p.length / 64))++ [x]:=by
  rw[List.take_add_one,List.take_set,←hrest]
  congr 1
  ·rw[List.set_eq_of_length_le (by simp only[List.length_take];exact Nat.min_le_left _ _)]
  ·simp[hrl,hm64]
 have hlen: (p++ [x]).length=p.length+1:=by simp
 have hc:w7_ initL (p++ [x]) (p.length / 64)=w7_ initL p (p.length / 64):=abg_ _ _ _ _ hle
 by_cases h64:s.many+1=64
 ·have e:hput s x=⟨comp s.st (s.rest.set s.many x),s.rest.set s.many x,0⟩:=by unfold hput;rw[if_pos h64]
  have hd: (p.length+1) / 64=p.length / 64+1:=by omega
  have hr: (s.rest.set s.many x)=p.drop (64* (p.length / 64))++ [x]:=by
   rw[←htake,h64,List.take_of_length_le (by simp[hrl])]
  refine⟨hk, ?_, ?_, ?_⟩
  ·rw[e,hlen,hd]
   show comp s.st _=comp (w7_ initL (p++ [x]) (p.length / 64)) _
   rw[hc,←hst,hr,List.drop_append_of_le_length hle,List.take_of_length_le (by simp;omega)]
  ·rw[e,hlen];show 0=_;omega
  ·rw[e,hlen]
   show List.take 0 _=_
   rw[List.take_zero,List.drop_of_length_le (by rw[hlen];omega)]
 ·have e:hput s x=⟨s.st,s.rest.set s.many x,s.many+1⟩:=by unfold hput;rw[if_neg h64]
  have hd: (p.length+1) / 64=p.length / 64:=by omega
  refine⟨hk, ?_, ?_, ?_⟩
  ·rw[e,hlen,hd,hc];exact hst
  ·rw[e,hlen];show s.many+1=_;omega
  ·rw[e,hlen,hd]
   show List.take (s.many+1) (s.rest.set s.many x)=_
   rw[htake,List.drop_append_of_le_length hle]
theorem Inv.zero:Inv H0 []:=⟨ar4_,rfl,rfl,rfl⟩
end Go.Dig
section
open Go Go.Proofs Go.Sx Go.StP
namespace Go.Proofs
set_option maxRecDepth 10000
set_option maxHeartbeats 400000
set_option linter.unusedSimpArgs false
theorem VW_ (m:List UInt8): (Dig.shaR m).length=32:=Dig.outPre_length _ _
set_option linter.defProp false
def zE_:=And.intro (And.intro (And.intro (@Qe_) (@wA_)) (And.intro (@wp_) (@wg_))) (And.intro (And.intro (@Sx.tup2_0) (@Sx.tup2_1)) (And.intro (@zn_) (@zm_)))
def idV (k:Int) (t:List UInt8):IdL:=if RdOk k t then⟨Dig.shaR (arb_ k t),VW_ _⟩ else id0
def QK_ (k:Int) (t:List UInt8):List UInt8:=(if k=3 then [99] else if k=2 then [116] else [98])++Xw_ t
theorem adu_ (k:Int) (t:List UInt8) (w:World) (ht:t.length<100000):Rets Tryz.prog 84 #[obV k t] w (fun v D=>v=vs (QK_ k t)∧D= []):=by
 have tl:=v7_ (s:=t) (by omega)
 refine Rets.enterV Tryz.func84 rfl (rs:= [.tmp 2]) Tryz.results84 Tryz.ntmps84 ?_
 refine kf ?_
 first|with_reducible refine ks [] @zE_ ?_|refine kp @zE_ ?_
 refine Ow.box rfl rfl fun b1 hb1 hw1=> ?_
 simp only[qm_,ql_,qu_,zh_,List.nil_append]
 unfold QK_
 by_cases h3:k=3
 ·have e2: (k==2)=false:=beq_eq_false_iff_ne.2 (by omega)
  have e3: (k==3)=true:=by simp[h3]
  rw[if_pos h3]
  refine ko (And.intro @zE_ (And.intro @e2 (@e3))) ?_
  first|with_reducible refine ks [] (And.intro @zE_ (And.intro @e2 (@e3))) ?_|refine kp (And.intro @zE_ (And.intro @e2 (@e3))) ?_
  refine Ow.callFV rfl Tryz.call109 (fun w' hw'=>kv_ t w' (by omega)) ?_
  refine ko @zE_ ?_
  first|with_reducible refine ks [] @zE_ ?_|refine kp @zE_ ?_
  refine⟨_,(ke @zE_),⟨hw1,trivial⟩, ?_⟩
  rfl
 ·have e3: (k==3)=false:=by simpa using h3
  rw[if_neg h3]
  by_cases h2:k=2
  ·have e2: (k==2)=true:=by simp[h2]
   rw[if_pos h2]
   refine ko (And.intro @zE_ (And.intro @e2 (@e3))) ?_
   first|with_reducible refine ks [] (And.intro @zE_ (And.intro @e2 (@e3))) ?_|refine kp (And.intro @zE_ (And.intro @e2 (@e3))) ?_
   refine Ow.callFV rfl Tryz.call109 (fun w' hw'=>kv_ t w' (by omega)) ?_
   refine ko @zE_ ?_
   first|with_reducible refine ks [] @zE_ ?_|refine kp @zE_ ?_
   refine⟨_,(ke @zE_),⟨hw1,trivial⟩, ?_⟩
   rfl
  ·have e2: (k==2)=false:=by simpa using h2
   rw[if_neg h2]
   refine ko (And.intro @zE_ (And.intro @e2 (@e3))) ?_
   first|with_reducible refine ks [] (And.intro @zE_ (And.intro @e2 (@e3))) ?_|refine kp (And.intro @zE_ (And.intro @e2 (@e3))) ?_
   refine Ow.callFV rfl Tryz.call109 (fun w' hw'=>kv_ t w' (by omega)) ?_
   refine ko @zE_ ?_
   first|with_reducible refine ks [] @zE_ ?_|refine kp @zE_ ?_
   refine⟨_,(ke @zE_),⟨hw1,trivial⟩, ?_⟩
   rfl
theorem amR_ (k:Int) (t:List UInt8) (w:World) (ht:t.length<100000):Rets Tryz.prog 53 #[obV k t] w (fun v D=>v= .agg (a8 (Dig.shaR (QK_ k t)))∧D= []):=by
 have tl:=v7_ (s:=t) (by omega)
 have fl: (QK_ k t).length<1099511627776:=by
  have nl:=q4_ (t.length:Int)
  unfold QK_ Xw_;rw[List.length_append,List.length_append]
  have: ((if k=3 then [99] else if k=2 then [116] else [98]:List UInt8)).length=1:=by split<;>(try split)<;>rfl
  omega
 have hsl:=VW_ (QK_ k t)
 refine Rets.enterV Tryz.func53 rfl (rs:= [.cell 2 118]) Tryz.results53 Tryz.ntmps53 ?_
 refine kf ?_
 first|with_reducible refine ks [] @zE_ ?_|refine kp @zE_ ?_
 refine Ow.box rfl rfl fun b1 hb1 hw1=> ?_
 simp only[qm_,ql_,qu_,zh_,List.nil_append]
 refine ko @zE_ ?_
 refine Ow.alloc rfl rfl ago_ fun b2 hb2 hw2=> ?_
 simp only[zh_,List.nil_append,List.cons_append]
 have h12:b1<b2:=zx_ hb2 (by simp[keys])
 have hi0:=id0.h
 refine ko @zE_ ?_
 refine Ow.callFV rfl Tryz.call84 (fun w' hw'=>adu_ k t w' ht) ?_
 refine ko @zE_ ?_
 refine Ow.callFV rfl Tryz.call83 (fun w' hw'=>aey_ _ fl w') ?_
 refine ko @zE_ ?_
 first|with_reducible refine ks [] @zE_ ?_|refine kp @zE_ ?_
 refine⟨_,(ke @zE_),⟨hw1,hw2,trivial⟩, ?_⟩
 rfl
end Go.Proofs
end
section
open Go Go.Proofs Go.Sx Go.StP Go.Flo
namespace Go.Proofs
set_option maxRecDepth 10000
set_option maxHeartbeats 400000
set_option linter.unusedSimpArgs false
structure ObL where
 k:Int
 t:List UInt8
def ob0:ObL:=⟨0,[]⟩
def obC (o:ObL):List Value:= [vi o.k,vs o.t]
theorem k8_ (o:ObL): (obC o).length=2:=rfl
theorem XG_ (o:ObL): (obC o).all Value.oneCell'=true:=rfl
def vF_ (s:List UInt8):ObL:=⟨if frOk s then frK s else 0,if frOk s then(frT s).1 else []⟩
def idOf (s:List UInt8):IdL:=idV (vF_ s).k (vF_ s).t
def anB_:List (List UInt8)→List IdL→List ObL→Option (List IdL×List ObL)
 | [],ids,os=>some (ids,os)
 |s::r,ids,os=>if frOk s=true∧(ids.any fun y=>(idOf s).l==y.l)=false then anB_ r (ids++ [idOf s]) (os++ [vF_ s]) else none
def fillV (l:List PartL):Option (List IdL×List ObL):=match allV l with
 | .ok ts=>anB_ ts [] []
 | .error _=>none
end Go.Proofs
end
section
open Go Go.Proofs Go.Sx
namespace Go.Proofs
set_option maxRecDepth 10000
set_option maxHeartbeats 4000000
set_option linter.unusedSimpArgs false
def hvL:List UInt32:= [0x00000000,0x1db71064,0x3b6e20c8,0x26d930ac,0x76dc4190,0x6b6b51f4,0x4db26158,0x5005713c,0xedb88320,0xf00f9344,0xd6d6a3e8,0xcb61b38c,0x9b64c2b0,0x86d3d2d4,0xa00ae278,0xbdbdf21c]
def W9_ (n:UInt32):UInt32:=qj_ n 4^^^hvL.getD (n&&&15).toNat 0
def aov_ (n:UInt32):Nat→UInt32
 |0=>n
 |k+1=>W9_ (aov_ n k)
def all_ (n:UInt32) (b:UInt8):UInt32:=aov_ (n^^^UInt32.ofNat b.toNat) 2
set_option linter.defProp false
def ahz_ (n:UInt32) (s:List UInt8):UInt32:=s.foldl all_ n
theorem ahg_ (n:UInt32) (s:List UInt8) (g:Nat) (h:g<s.length):ahz_ n (s.take (g+1))=all_ (ahz_ n (s.take g)) (s.getD g 0):=by
 unfold ahz_
 rw[List.take_succ_eq_append_getElem h,List.foldl_append,List.getD_eq_getElem?_getD,List.getElem?_eq_getElem h]
 rfl
def crcV (s:List UInt8):UInt32:= ~~~ (ahz_ (~~~ (0:UInt32)) s)
def aq6_ (n:UInt32) (g:Nat):List UInt8:=(List.range 4).map fun j=>if j<g then UInt8.ofNat (qj_ n (8*j)).toNat else 0
def sum4 (n:UInt32):List UInt8:=aq6_ n 4
def alu_ (s:List UInt8):List UInt8:=s++sum4 (crcV s)
def jt_ (s:List UInt8):List UInt8×Bool:=
 if s.length<4 then([],false) else if alu_ (s.take (s.length - 4))=s then(s.take (s.length - 4),true) else([],false)
end Go.Proofs
end
section
open Go Go.Proofs Go.Sx Go.StP Go.Flo
namespace Go.Proofs
set_option maxRecDepth 10000
set_option maxHeartbeats 400000
set_option linter.unusedSimpArgs false
def magB:List UInt8:= [83,80,75,49]
def QN_ (s:List UInt8) (i a:Nat) (e:Int):PartL×Nat×Int:=
 (⟨decide (0< (zF_ s a e 200).1),if 0< (zF_ s a e 200).1 then(i:Int) - (zF_ s a e 200).1 else 0,(zX_ s (zF_ s a e 200).2.1 (zF_ s a e 200).2.2 65536).1⟩,(zX_ s (zF_ s a e 200).2.1 (zF_ s a e 200).2.2 65536).2)
def jv_ (s:List UInt8):Nat→Nat→Nat→Int→List PartL×List Nat×Nat×Int
 |0,_,a,e=>([],[],a,e)
 |k+1,i,a,e=>if(QN_ s i a e).2.2=0 then((QN_ s i a e).1:: (jv_ s k (i+1) (QN_ s i a e).2.1 0).1,a:: (jv_ s k (i+1) (QN_ s i a e).2.1 0).2.1,(jv_ s k (i+1) (QN_ s i a e).2.1 0).2.2) else([],[],(QN_ s i a e).2)
def x1_ (s:List UInt8):Int×Bool×Nat×Int:=
 if(jM_ s 0 0 4).1=magB then((zF_ s (jM_ s 0 0 4).2.1 (jM_ s 0 0 4).2.2 200).1,(zF_ s (jM_ s 0 0 4).2.1 (jM_ s 0 0 4).2.2 200).2.2==0,(zF_ s (jM_ s 0 0 4).2.1 (jM_ s 0 0 4).2.2 200).2) else(0,false,(jM_ s 0 0 4).2)
def kR_ (s:List UInt8):List PartL×List Nat×Nat×Int:=jv_ s (x1_ s).1.toNat 0 (x1_ s).2.2.1 (x1_ s).2.2.2
instance:DecidableEq ObL:=fun a b=>if h:a.k=b.k∧a.t=b.t then .isTrue (by cases a;cases b;simp only at h;obtain⟨rfl,rfl⟩:=h;rfl) else .isFalse (fun e=>h (by rw[e];exact⟨rfl,rfl⟩))
def kw_ (l:List PartL):Nat→List ObL
 |0=> []
 |k+1=>match partV l (k:Nat) with
  | .ok s=>if frOk s=true∧vF_ s∉kw_ l k then kw_ l k++ [vF_ s] else kw_ l k
  | .error _=>kw_ l k
def V3_ (b:List UInt8):List ObL:=if(x1_ b).2.1=true then kw_ (kR_ b).1 (kR_ b).1.length else []
end Go.Proofs
end
section
open Go Go.Proofs Go.Sx Go.StP Go.Flo
namespace Go.Proofs
set_option maxRecDepth 10000
set_option maxHeartbeats 400000
set_option linter.unusedSimpArgs false
theorem XD_ {s:List UInt8}: ∀ (k i a:Nat) (e:Int),(jv_ s k i a e).1.length≤k∧(jv_ s k i a e).2.1.length=(jv_ s k i a e).1.length
 |0,i,a,e=>⟨Nat.le_refl _,rfl⟩
 |k+1,i,a,e=>by
  have:=XD_ (s:=s) k (i+1) (QN_ s i a e).2.1 0
  unfold jv_
  split
  ·simp only[List.length_cons];omega
  ·simp
end Go.Proofs
end
section
open Go Go.Proofs Go.Sx Go.StP Go.Flo
namespace Go.Proofs
set_option maxRecDepth 10000
set_option maxHeartbeats 400000
set_option linter.unusedSimpArgs false
end Go.Proofs
end
section
open Go Go.Proofs Go.Sx Go.StP Go.Flo
namespace Go.Proofs
set_option maxRecDepth 10000
set_option maxHeartbeats 400000
set_option linter.unusedSimpArgs false
theorem ahh_ {b d:List UInt8} (_h: (xi_ b d).2=0): (xi_ b d).1.length≤4099:=by
 unfold xi_
 split
 ·simp
 ·rename_i p hp
  split
  ·simp
  ·rename_i hb
   obtain⟨m,hm⟩:=Vs_ hp
   rw[show p.1=b.length by omega] at hm
   have hk:WS_ (b.length:Nat) p.2=(((v0_ (b.length:Nat) p.2:Nat):Int),(0:Int)):=by
    unfold WS_ at hm ⊢
    split at hm
    ·cases hm
    ·rename_i h1
     rw[if_neg h1]
     split at hm
     ·cases hm
     ·rename_i h2
      rw[if_neg h2]
      split at hm
      ·cases hm
      ·rename_i h3;rw[if_neg h3]
   obtain⟨-,-,h1,h2,-⟩:=adB_ hk
   show(txtP b p.2).length≤4099
   rw[Wz_ h1]
   exact h2
theorem ahP_ {l:List PartL} {a:Int} {s:List UInt8} (h:partV l a= .ok s):s.length≤4099:=by
 unfold partV at h
 cases hp:vn_ l a with
 |error e=>rw[hp] at h;cases h
 |ok p=>
  rw[hp] at h
  change vh_ l p= .ok s at h
  cases p with
  |nil=>cases h;simp
  |cons x p=>
   unfold vh_ at h
   cases hf:vh_ l p with
   |error e=>rw[hf] at h;cases h
   |ok t=>
    rw[hf] at h
    change(if(xQ_ (l.getD x j1_) t).2=0 then _ else _)=_ at h
    split at h
    ·rename_i h0
     cases h
     unfold xQ_ at h0 ⊢
     split
     ·rename_i hd;rw[if_pos hd] at h0;exact ahh_ h0
     ·rename_i hd
      split
      ·simp
      ·show(l.getD x j1_).x.length≤4099;omega
    ·cases h
theorem kr_ {D:ze_} {E:TypeId} {m n:Nat} {v:Value} {cs:List Value} (h:GrI D E m v n cs) (x:Bool×Nat):Zz_ (.sl x) v=some (vi n):=by
 obtain⟨X,-,h⟩:=h;exact h.len x
set_option linter.defProp false
end Go.Proofs
end
section
open Go Go.Proofs Go.Sx Go.StP Go.Flo
namespace Go.Proofs
set_option maxRecDepth 10000
set_option maxHeartbeats 400000
set_option linter.unusedSimpArgs false
theorem aej_ (p:PartL) (E:TypeId) (a:Bool) (x:Bool):zu_ (some (a,1)) (some (.cells (qx_ p).toArray E (0,0))) 0 (.bool x)=some (.cells (qx_ ⟨x,p.b,p.x⟩).toArray E (0,0)):=(rfl)
theorem acz_ (p:PartL) (E:TypeId) (a:Bool) (x:Int):zu_ (some (a,1)) (some (.cells (qx_ p).toArray E (0,0))) 1 (vi x)=some (.cells (qx_ ⟨p.d,x,p.x⟩).toArray E (0,0)):=(rfl)
theorem agK_ (p:PartL) (E:TypeId):zk_ (some (true,3)) (some (.cells (qx_ p).toArray E (0,0))) 0=some (.agg (qx_ p).toArray):=Jp_ (n:=3) [] (qx_ p) [] E (0,0) rfl rfl
theorem adF_ (t:List UInt8):qM_ (xX_ Tryz.prog 193) (zK_ Tryz.prog 193) [(2,vs t)]=some (.agg (qx_ ⟨false,0,t⟩).toArray):=by
 rw[show xX_ Tryz.prog 193=some [(0,1),(1,1),(2,1)] from id (by kernel_rfl),aaD_];rfl
set_option linter.defProp false
end Go.Proofs
end
section
open Go Go.Proofs Go.Sx Go.StP Go.Flo
namespace Go.Proofs
set_option maxRecDepth 10000
set_option maxHeartbeats 400000
set_option linter.unusedSimpArgs false
abbrev ObSl (w:World) (v:Value) (l:List ObL):Prop:=SlV 2 obC ob0 w v l
set_option linter.defProp false
end Go.Proofs
end
section
open Go Go.Proofs Go.Sx Go.StP Go.Flo
namespace Go.Proofs
set_option maxRecDepth 10000
set_option maxHeartbeats 400000
set_option linter.unusedSimpArgs false
theorem v4_ {w0:World} {L X D:ze_} (hC:Came w0 L X D) (hX:New w0.heap.size X):New w0.heap.size D:=New.of_le fun c hc=>by
 rcases hC.new c hc with h| ⟨-,h⟩
 ·exact hX.le c h
 ·exact h
def anx_ (l:List PartL):Prop:= ∀g,g<l.length→(l.getD g j1_).x.length≤17000000
set_option linter.defProp false
end Go.Proofs
end
section
open Go Go.Proofs Go.Sx Go.StP Go.Flo
namespace Go.Proofs
set_option maxRecDepth 10000
set_option maxHeartbeats 400000
set_option linter.unusedSimpArgs false
set_option linter.defProp false
set_option linter.defProp false
end Go.Proofs
end
section
open Go Go.Proofs Go.Sx Go.StP Go.Flo
namespace Go.Proofs
set_option maxRecDepth 10000
set_option maxHeartbeats 400000
set_option linter.unusedSimpArgs false
theorem eqDi (a b:Int):eqD Tryz.prog 7 3 (vi a) (vi b)=some (a==b):=by unfold eqD;rw[Tryz.underlying3];rfl
theorem eqDs (a b:List UInt8):eqD Tryz.prog 7 9 (vs a) (vs b)=some (a==b):=by unfold eqD;rw[Tryz.underlying9];simp only[vs,Vt_]
theorem agI:qf_ Tryz.prog 3=some (false,1):=id (by kernel_rfl)
theorem agS:qf_ Tryz.prog 9=some (false,1):=id (by kernel_rfl)
theorem ar0_ (a b:ObL):eqD Tryz.prog 8 116 (obV a.k a.t) (obV b.k b.t)=some (decide (a=b)):=by
 have p0: ∀o:ObL,Sx.partV (false,1) #[vi o.k,vs o.t] 0=some (vi o.k):=fun _=>rfl
 have p1: ∀o:ObL,Sx.partV (false,1) #[vi o.k,vs o.t] 1=some (vs o.t):=fun _=>rfl
 unfold eqD obV
 rw[Tryz.underlying116]
 simp only
 rw[show Tryz.prog.stoodInHeld 116=false by kernel_rfl]
 simp only[Bool.false_eq_true, ↓reduceIte,kI_,k5_,agI,agS,p0,p1,eqDi,eqDs]
 obtain⟨k,t⟩:=a
 obtain⟨k',t'⟩:=b
 have e:decide ((⟨k,t⟩:ObL)=⟨k',t'⟩)=((k==k')&& (t==t')):=by rw[Bool.eq_iff_iff];simp
 rw[e]
 cases(k==k')<;>cases(t==t')<;>rfl
theorem arP_ (a b:ObL):q7_ Tryz.prog .eql 116 (obV a.k a.t) (obV b.k b.t)=some (.bool (decide (a=b))):=by
 have h:=ar0_ a b
 unfold q7_ eqX obV at*;rw[show Tryz.prog.eqGuardType Tryz.prog.depth 116=false by kernel_rfl];simp[q8_,h]
instance:DecidableEq PartL:=fun a b=>if h:a.d=b.d∧a.b=b.b∧a.x=b.x then .isTrue (by cases a;cases b;simp only at h;obtain⟨rfl,rfl,rfl⟩:=h;rfl) else .isFalse (fun e=>h (by rw[e];exact⟨rfl,rfl,rfl⟩))
set_option linter.defProp false
end Go.Proofs
end
section
open Go Go.Proofs Go.Sx Go.StP Go.Flo
namespace Go.Proofs
set_option maxRecDepth 10000
set_option maxHeartbeats 400000
set_option linter.unusedSimpArgs false
theorem aof_ (s:List UInt8): ∃n:Nat,(x1_ s).1=n∧n≤200:=by
 unfold x1_
 split
 ·have:=jo_ (s:=s) (a:=(jM_ s 0 0 4).2.1) (e:=(jM_ s 0 0 4).2.2) (most:=200) (by omega)
  exact⟨(zF_ s (jM_ s 0 0 4).2.1 (jM_ s 0 0 4).2.2 200).1.toNat,by simp only;omega,by omega⟩
 ·exact⟨0,rfl,by omega⟩
theorem agF_ (s:List UInt8) (a:Nat) (e most:Int) (hm:0≤most): ((zX_ s a e most).1.length:Int)≤most:=by
 have h1:=jo_ (s:=s) (a:=a) (e:=e) (most:=most) hm
 have h2: ∀ (b:Nat) (e n:Int),0≤n→((jM_ s b e n).1.length:Int)≤n:=by
  intro b e n hn
  unfold jM_
  split
  ·simpa using hn
  ·split
   ·simpa using hn
   ·split
    ·simpa using hn
    ·simp only[List.length_take,List.length_drop];omega
 unfold zX_
 simp only
 split
 ·simpa using hm
 ·have:=h2 (zF_ s a e most).2.1 (zF_ s a e most).2.2 (zF_ s a e most).1 h1.1
  omega
theorem W3_ {s:List UInt8}: ∀ (k i a:Nat) (e:Int) (p:PartL),p∈ (jv_ s k i a e).1→p.x.length≤65536
 |0,i,a,e,p,h=>by cases h
 |k+1,i,a,e,p,h=>by
  unfold jv_ at h
  split at h
  ·rcases List.mem_cons.1 h with rfl|h
   ·have:=agF_ s (zF_ s a e 200).2.1 (zF_ s a e 200).2.2 65536 (by omega)
    show(zX_ s (zF_ s a e 200).2.1 (zF_ s a e 200).2.2 65536).1.length≤65536
    omega
   ·exact W3_ k _ _ _ p h
  ·cases h
theorem ado_ (s:List UInt8):anx_ (kR_ s).1:=fun g hg=>Nat.le_trans (W3_ _ _ _ _ _ (xd_ hg)) (by omega)
theorem abv_ (s:List UInt8): (kR_ s).1.length≤200∧(kR_ s).2.1.length=(kR_ s).1.length:=by
 obtain⟨n,hn,hle⟩:=aof_ s
 have:=XD_ (s:=s) (x1_ s).1.toNat 0 (x1_ s).2.2.1 (x1_ s).2.2.2
 unfold kR_
 rw[hn,Int.toNat_natCast] at this ⊢
 omega
theorem afk_ {D:ze_} {E:TypeId} {m n:Nat} {v:Value} {cs:List Value} (h:GrI D E m v n cs):Value.oneCell' v=true∧v.cells= #[v]:=by
 obtain⟨X,hX,h⟩:=h;exact h.cell
set_option linter.defProp false
end Go.Proofs
end
section
open Go Go.Proofs Go.Sx Go.StP Go.Flo
namespace Go.Proofs
set_option maxRecDepth 10000
set_option maxHeartbeats 400000
set_option linter.unusedSimpArgs false
set_option linter.defProp false
end Go.Proofs
end
section
open Go Go.Proofs Go.Sx Go.Dig
namespace Go.Proofs
set_option maxRecDepth 10000
set_option maxHeartbeats 1000000
set_option linter.unusedSimpArgs false
set_option linter.defProp false
end Go.Proofs
end
section
open Go Go.Proofs Go.Sx Go.StP Go.Flo Go.Dig
namespace Go.Proofs
set_option maxRecDepth 10000
set_option maxHeartbeats 400000
set_option linter.unusedSimpArgs false
section
variable {P:Program} {w0:World} {f:Fr} {L:ze_} {N:Fr→ze_→Prop} {ops:Array Oper} {rest:List Oper} {md:Md} {d:Option Tmp} {ty:TypeId} {ps:String} {af:Array Edge} {g:Option (Nat×Bool)}
end
set_option linter.defProp false
set_option linter.defProp false
end Go.Proofs
end
section
open Go Go.Proofs Go.Sx Go.StP Go.Flo
namespace Go.Proofs
set_option maxRecDepth 100000
set_option maxHeartbeats 1000000
set_option linter.unusedSimpArgs false
abbrev ajp_ (w:World) (v:Value) (l:List (List UInt8)):Prop:=SlV 1 strC [] w v l
theorem VL_ {w:World} {v:Value} {l:List (List UInt8)} {b off:Nat} {arr:Array Value} {E:TypeId} {fz:Nat×Nat} (h:RowS 1 strC [] w v l b off arr E fz) {k:Nat} (hk:k<l.length) (n:Nat):
  zk_ (some (false,n)) (some (.cells arr E fz)) (off+k)=some (vs (l.getD k [])):=by
 have:=h.cell (j:=0) (n:=n) hk (by omega)
 rwa [Nat.mul_one,Nat.add_zero] at this
set_option linter.defProp false
end Go.Proofs
end
section
open Go Go.Proofs Go.Sx Go.StP
namespace Go.Proofs
set_option maxRecDepth 10000
set_option maxHeartbeats 400000
set_option linter.unusedSimpArgs false
def qn_ (s:List UInt8):Bool:= !(s== [])&&decide (s.length≤80)&& !(s.any Zh_)
set_option linter.defProp false
def qz_:=And.intro (And.intro (And.intro (@zn_) (And.intro (@wy_) (@wv_))) (And.intro (And.intro (@wk_) (@zm_)) (And.intro (@afm_) (@J1_)))) (And.intro (And.intro (And.intro (@Xx_) (@JI_)) (And.intro (@ai2_) (@QG_))) (And.intro (And.intro (@Sx.tup3_0) (@Sx.tup3_1)) (And.intro (@Sx.tup3_2) (@eqb))))
theorem abn_ (c:Int) (w:World):Rets Tryz.prog 55 #[K0_ c] w (fun v D=>v= .bool (badR c)∧D= []):=by
 refine Rets.enterV Tryz.func55 rfl (rs:= [.tmp 2]) Tryz.results55 Tryz.ntmps55 ?_
 refine kf ?_
 unfold badR
 cases h1:decide (c<33)
 ·cases h2:decide (126<c)
  ·first|with_reducible refine ks [] (And.intro @qz_ (And.intro @h1 (@h2))) ?_|refine kp (And.intro @qz_ (And.intro @h1 (@h2))) ?_
   refine⟨_,(ke @qz_),trivial, ?_⟩
   simp[kD_]
  ·first|with_reducible refine ks [] (And.intro @qz_ (And.intro @h1 (@h2))) ?_|refine kp (And.intro @qz_ (And.intro @h1 (@h2))) ?_
   refine⟨_,(ke @qz_),trivial, ?_⟩
   simp[kD_]
 ·first|with_reducible refine ks [] (And.intro @qz_ @h1) ?_|refine kp (And.intro @qz_ @h1) ?_
  refine⟨_,(ke @qz_),trivial, ?_⟩
  simp[kD_]
theorem QR_ (s:List UInt8) (w:World) (hs:s.length<1099511627776):
  Rets Tryz.prog 27 #[vs s] w (fun v D=>v= .bool (qn_ s)∧D= []):=by
 refine Rets.enterV Tryz.func27 rfl (rs:= [.tmp 2]) Tryz.results27 Tryz.ntmps27 ?_
 refine kf ?_
 cases h0: (s != [])
 ·have e0: (s== [])=true:=by simpa using h0
  first|with_reducible refine ks [] (And.intro @qz_ @h0) ?_|refine kp (And.intro @qz_ @h0) ?_
  refine⟨_,(ke @qz_),trivial, ?_⟩
  simp[kD_,qn_,e0]
 ·have e0: (s== [])=false:=by simpa using h0
  cases h1:decide ((s.length:Int)≤80)
  ·have e1:decide (s.length≤80)=false:=decide_eq_false (by have:=of_decide_eq_false h1;omega)
   first|with_reducible refine ks [] (And.intro @qz_ (And.intro @h0 (@h1))) ?_|refine kp (And.intro @qz_ (And.intro @h0 (@h1))) ?_
   refine⟨_,(ke @qz_),trivial, ?_⟩
   simp only[kD_,qn_,e0,e1,Bool.not_false,Bool.true_and,Bool.false_and,Bool.and_false]
  ·have e1:decide (s.length≤80)=true:=decide_eq_true (by have:=of_decide_eq_true h1;omega)
   first|with_reducible refine ks [] (And.intro @qz_ (And.intro @h0 (@h1))) ?_|refine kp (And.intro @qz_ (And.intro @h0 (@h1))) ?_
   refine Ow.callFV rfl Tryz.call54 (fun w' hw'=>Qt_ s 55 Tryz.call55 abn_ w' hs) ?_
   refine ko @qz_ ?_
   first|with_reducible refine ks [] @qz_ ?_|refine kp @qz_ ?_
   refine⟨_,(ke @qz_),trivial, ?_⟩
   simp only[kD_,qn_,e0,e1,Bool.not_false,Bool.true_and]
theorem ahJ_ (s:List UInt8) (w:World) (hs:s.length<1099511627776):Rets Tryz.prog 72 #[vs s] w (fun v D=>v= .bool (!qn_ s)∧D= []):=by
 refine Rets.enterV Tryz.func72 rfl (rs:= [.tmp 2]) Tryz.results72 Tryz.ntmps72 ?_
 refine kf ?_
 first|with_reducible refine ks [] @qz_ ?_|refine kp @qz_ ?_
 refine Ow.callFV rfl Tryz.call27 (fun w' hw'=>QR_ s w' hs) ?_
 refine ko @qz_ ?_
 first|with_reducible refine ks [] @qz_ ?_|refine kp @qz_ ?_
 refine⟨_,(ke @qz_),trivial, ?_⟩
 rfl
theorem Xp_ (v:Value) (l:List (List UInt8)) (w:World) (hv:ajp_ w v l) (hl:l.length<1000000) (hs: ∀s,s∈l→s.length<1099511627776):Rets Tryz.prog 92 #[v, .func (.func 72) #[] #[]] w (fun v D=>(∃i:Int,v=vi i∧decide (0≤i)= !(l.all qn_))∧D= []):=by
 obtain⟨rb,off,arr,E,fz,hr⟩:=hv.row
 have ln:=hv.len
 refine Rets.enterV Tryz.func92 rfl (rs:= [.tmp 4]) Tryz.results92 Tryz.ntmps92 ?_
 refine kf ?_
 first|with_reducible refine ks [] (And.intro @qz_ @ln) ?_|refine kp (And.intro @qz_ @ln) ?_
 refine Cw.loopG (G:=Nat) [9,10,5,11,12,13,14,15,16,17,4,18,8] (fun k=> [(4,vi 0),(8,vi k)]) (fun k=> []) (fun k=>k≤l.length∧(l.take k).all qn_=true) (fun k=>l.length - k) 0 rfl rfl ?_ ?_
 ·exact⟨Nat.zero_le _,rfl⟩
 intro k jk hk
 refine kv ?_
 obtain⟨hk,hal⟩:=hk
 by_cases hlt:k<l.length
 ·have d1:decide ((k:Int)< (l.length:Int))=true:=decide_eq_true (by omega)
  have hb:=hr.has (by omega)
  have ix:=hr.idx false k hlt
  have ld:=fun n=>VL_ hr hlt n
  have hts:=StP.take_snoc (z:=([]:List UInt8)) hlt
  have hm:l.getD k []∈l:=by rw[List.getD_eq_getElem?_getD,List.getElem?_eq_getElem hlt];exact List.getElem_mem hlt
  have hsl:=hs _ hm
  generalize l.getD k []=s at*
  first|with_reducible refine ks [] (And.intro @qz_ (And.intro @d1 (And.intro @hb (And.intro @ix (@ld))))) ?_|refine kp (And.intro @qz_ (And.intro @d1 (And.intro @hb (And.intro @ix (@ld))))) ?_
  refine Ow.callFn1 (v:= .bool (!qn_ s)) rfl rfl rfl Tryz.call72 (fun w' hw'=>ahJ_ s w' hsl) ?_
  cases hn:qn_ s with
  |true=>
   refine ko @qz_ ?_
   refine Again.mk (G:=Nat) (k+1) (by show l.length - (k+1)<l.length - k;omega) ⟨hlt, ?_⟩ rfl rfl
   rw[hts,List.all_append,hal,List.all_cons,hn];rfl
  |false=>
   refine ko @qz_ ?_
   first|with_reducible refine ks [] @qz_ ?_|refine kp @qz_ ?_
   refine⟨_,(ke @qz_),trivial, ?_⟩
   refine⟨(k:Int),rfl, ?_⟩
   rw[decide_eq_true (show(0:Int)≤ (k:Int) by omega),show l.all qn_=false from List.all_eq_false.2 ⟨s,hm,by rw[hn];simp⟩];rfl
 ·obtain rfl:k=l.length:=by omega
  have d1:decide ((l.length:Int)< (l.length:Int))=false:=decide_eq_false (by omega)
  rw[List.take_length] at hal
  first|with_reducible refine ks [] (And.intro @qz_ @d1) ?_|refine kp (And.intro @qz_ @d1) ?_
  refine⟨_,(ke @qz_),trivial, ?_⟩
  exact⟨-1,rfl,by rw[hal];rfl⟩
theorem Kx_ (v:Value) (l:List (List UInt8)) (w:World) (hv:ajp_ w v l) (hl:l.length<1000000) (hs: ∀s,s∈l→s.length<1099511627776):Rets Tryz.prog 71 #[v, .func (.func 72) #[] #[]] w (fun v D=>v= .bool (!(l.all qn_))∧D= []):=by
 refine Rets.enterV Tryz.func71 rfl (rs:= [.tmp 4]) Tryz.results71 Tryz.ntmps71 ?_
 refine kf ?_
 first|with_reducible refine ks [] @qz_ ?_|refine kp @qz_ ?_
 refine Ow.callC rfl rfl Tryz.call92 (fun w' hw'=>Rets.toX (Xp_ v l w' (hv.oldN hw' trivial) hl hs)) (fun B1 v1 D1 hA1 hB1 hN1 hS1=> ?_)
 obtain⟨rfl,i,rfl,hi⟩:=hS1
 refine ko (And.intro @qz_ @hi) ?_
 first|with_reducible refine ks [] @qz_ ?_|refine kp @qz_ ?_
 refine⟨_,(ke @qz_),trivial, ?_⟩
 rfl
end Go.Proofs
end
section
open Go Go.Proofs Go.Sx Go.StP
namespace Go.Proofs
set_option maxRecDepth 10000
set_option maxHeartbeats 400000
set_option linter.unusedSimpArgs false
structure FileL where
 data:List UInt8
 stl:Nat
def qO_:FileL:=⟨[],0⟩
structure CallL where
 kind:Nat
 a:List UInt8
 b:List UInt8
 n:Nat
def vK_:CallL:=⟨2,[],[],0⟩
abbrev NmL:=List (List UInt8×Nat)
structure DirL where
 seen:NmL
 stl:NmL
 pend:List CallL
structure DiskL where
 dir:Nat→DirL
 files:List FileL
 max:Int
 fuse:Int
 fused:Bool
 off:Bool
def zC_ (l:NmL) (s:List UInt8):Option Nat:=(l.find? fun p=>s==p.1).map Prod.snd
def qC_ (l:NmL) (s:List UInt8):NmL:=l.filter fun p=> !(s==p.1)
def insN:NmL→List UInt8×Nat→NmL
 | [],x=> [x]
 |p::r,x=>if ltB x.1 p.1=true then x::p::r else p::insN r x
def XY_ (l:NmL) (x:List UInt8×Nat):NmL:=insN (qC_ l x.1) x
def SrtN (l:NmL):Prop:=l.Pairwise fun p q=>ltB p.1 q.1=true
theorem SrtN.nodup {l:NmL} (h:SrtN l): (l.map Prod.fst).Nodup:=by
 refine List.pairwise_map.2 (List.Pairwise.imp ?_ h)
 intro a b hab e
 rw[e,Qr_] at hab;cases hab
theorem xe_ (x:List UInt8×Nat): ∀l:NmL,(insN l x).Perm (x::l)
 | []=>List.Perm.refl _
 |p::r=>by
  unfold insN
  split
  ·exact List.Perm.refl _
  ·exact((xe_ x r).cons p).trans (List.Perm.swap x p r)
theorem afL_ {x:List UInt8×Nat}: ∀ {l:NmL},SrtN l→(∀p,p∈l→p.1≠x.1)→SrtN (insN l x)
 | [],_,_=>List.pairwise_singleton _ _
 |p::r,h,hx=>by
  unfold SrtN at h
  rw[List.pairwise_cons] at h
  unfold insN
  split
  ·rename_i h1
   refine List.pairwise_cons.2 ⟨fun q hq=> ?_,List.pairwise_cons.2 h⟩
   rcases List.mem_cons.1 hq with rfl|hq
   ·exact h1
   ·exact J2_ h1 (h.1 q hq)
  ·rename_i h1
   refine List.pairwise_cons.2 ⟨fun q hq=> ?_,afL_ h.2 fun q hq=>hx q (List.mem_cons_of_mem _ hq)⟩
   rcases List.mem_cons.1 ((xe_ x r).mem_iff.1 hq) with rfl|hq
   ·have h1':ltB q.1 p.1=false:=by simpa using h1
    exact Zy_ h1' (fun e=>hx p List.mem_cons_self e.symm)
   ·exact h.1 q hq
theorem XK_ {l:NmL} (s:List UInt8) (h:SrtN l):SrtN (qC_ l s):=List.Pairwise.filter _ h
theorem amN_ {l:NmL} {s:List UInt8} {p:List UInt8×Nat} (h:p∈qC_ l s):p.1≠s:=by
 have:=(List.mem_filter.1 h).2
 intro e
 rw[e] at this;simp at this
theorem Q7_ {l:NmL} (x:List UInt8×Nat) (h:SrtN l):SrtN (XY_ l x):=afL_ (XK_ _ h) fun _ hp=>amN_ hp
theorem q1_ {l:NmL} {s:List UInt8} {n:Nat} (h:zC_ l s=some n): (s,n)∈l:=by
 unfold zC_ at h
 cases hf:l.find? fun p=>s==p.1 with
 |none=>rw[hf] at h;cases h
 |some p=>
  rw[hf] at h
  have h1:=List.find?_some hf
  have h2:=List.mem_of_find?_eq_some hf
  obtain⟨a,b⟩:=p
  cases h
  rw[show s=a from by simpa using h1];exact h2
theorem Vi_ {l:NmL} {s:List UInt8} (h:zC_ l s=none): ∀p,p∈l→p.1≠s:=by
 intro p hp e
 unfold zC_ at h
 cases hf:l.find? fun p=>s==p.1 with
 |none=>
  have:=List.find?_eq_none.1 hf p hp
  rw[e] at this;simp at this
 |some q=>rw[hf] at h;cases h
theorem aby_ {α β:Type} {m:List (α×β)} (hn: (m.map Prod.fst).Nodup) {k:α} {a b:β} (h1: (k,a)∈m) (h2: (k,b)∈m):a=b:=by
 induction m with
 |nil=>cases h1
 |cons p r ih=>
  rw[List.map_cons,List.nodup_cons] at hn
  rcases List.mem_cons.1 h1 with e1|h1
  ·rcases List.mem_cons.1 h2 with e2|h2
   ·rw[←e1] at e2;exact(congrArg Prod.snd e2).symm
   ·exact absurd (by rw[←e1];exact List.mem_map.2 ⟨_,h2,rfl⟩) hn.1
  ·rcases List.mem_cons.1 h2 with e2|h2
   ·exact absurd (by rw[←e2];exact List.mem_map.2 ⟨_,h1,rfl⟩) hn.1
   ·exact ih hn.2 h1 h2
theorem Jq_ {l:NmL} (hn: (l.map Prod.fst).Nodup) {s:List UInt8} {n:Nat} (h: (s,n)∈l):zC_ l s=some n:=by
 cases hf:zC_ l s with
 |none=>exact absurd rfl (Vi_ hf _ h)
 |some m=>rw[aby_ hn (q1_ hf) h]
section
variable {α β:Type} [BEq α] [LawfulBEq α]
theorem apM_ {m:List (α×β)} (hn: (m.map Prod.fst).Nodup) {k:α} {v z:β} (h: (k,v)∈m):getG k z m=v:=by
 unfold getG
 cases hf:m.find? fun p=>k==p.1 with
 |none=>
  have:=List.find?_eq_none.1 hf _ h
  exact absurd (beq_self_eq_true k) this
 |some q=>
  have h1:=List.find?_some hf
  have h2:=List.mem_of_find?_eq_some hf
  obtain⟨a,b⟩:=q
  have e:k=a:=eq_of_beq h1
  subst e
  exact aby_ hn h2 h
theorem aoT_ {m:List (α×β)} {k:α} {z:β} (h: ∀p,p∈m→p.1≠k):getG k z m=z:=by
 unfold getG
 cases hf:m.find? fun p=>k==p.1 with
 |none=>rfl
 |some q=>
  have h1:=List.find?_some hf
  exact absurd (eq_of_beq h1).symm (h q (List.mem_of_find?_eq_some hf))
theorem WV_ {m:List (α×β)} {k:α} (h: ∀p,p∈m→p.1≠k):m.filter (fun p=> !(k==p.1))=m:=
 List.filter_eq_self.2 fun p hp=>by
  have:=h p hp
  cases e:k==p.1 with
  |false=>rfl
  |true=>exact absurd (eq_of_beq e).symm this
theorem aaQ_ (k:α) (v:β): ∀ {m:List (α×β)},(m.map Prod.fst).Nodup→(updG k v m).Perm ((k,v)::m.filter fun p=> !(k==p.1))
 | [],_=>List.Perm.refl _
 |p::r,hn=>by
  rw[List.map_cons,List.nodup_cons] at hn
  unfold updG
  cases hk: (k==p.1) with
  |true=>
   rw[if_pos rfl,List.filter_cons,hk]
   have e:k=p.1:=eq_of_beq hk
   have hr:r.filter (fun p=> !(k==p.1))=r:=WV_ fun q hq e2=>hn.1 (List.mem_map.2 ⟨q,hq,by rw[e2,e]⟩)
   simp only[Bool.not_true,Bool.false_eq_true, ↓reduceIte,hr]
   rw[e]
  |false=>
   rw[if_neg (by simp),List.filter_cons,hk]
   simp only[Bool.not_false, ↓reduceIte]
   exact((aaQ_ k v hn.2).cons p).trans (List.Perm.swap _ _ _)
theorem ai5_ (k:α): ∀ {m:List (α×β)},(m.map Prod.fst).Nodup→delG k m=m.filter fun p=> !(k==p.1)
 | [],_=>rfl
 |p::r,hn=>by
  rw[List.map_cons,List.nodup_cons] at hn
  unfold delG
  cases hk: (k==p.1) with
  |true=>
   rw[if_pos rfl,List.filter_cons,hk]
   have e:k=p.1:=eq_of_beq hk
   have hr:r.filter (fun p=> !(k==p.1))=r:=WV_ fun q hq e2=>hn.1 (List.mem_map.2 ⟨q,hq,by rw[e2,e]⟩)
   simp only[Bool.not_true,Bool.false_eq_true, ↓reduceIte,hr]
  |false=>
   rw[if_neg (by simp),List.filter_cons,hk,ai5_ k hn.2]
   simp only[Bool.not_false, ↓reduceIte]
end
def qJ_:Option Nat→Value
 |none=> .pointer none
 |some b=>vp b 0
def ptrN (fb:List Nat) (p:List UInt8×Nat):List UInt8×Option Nat:=(p.1,some (fb.getD p.2 0))
def NmP (fb:List Nat) (l:NmL) (m:List (List UInt8×Option Nat)):Prop:=m.Perm (l.map (ptrN fb))
theorem NmP.keys {fb:List Nat} {l:NmL} {m:List (List UInt8×Option Nat)} (h:NmP fb l m) (hn: (l.map Prod.fst).Nodup): (m.map Prod.fst).Nodup:=by
 refine((h.map Prod.fst).nodup_iff).2 ?_
 rw[List.map_map]
 exact hn
theorem NmP.get {fb:List Nat} {l:NmL} {m:List (List UInt8×Option Nat)} (h:NmP fb l m) (hn: (l.map Prod.fst).Nodup) (s:List UInt8):getG s none m=(zC_ l s).map fun n=>fb.getD n 0:=by
 cases hf:zC_ l s with
 |none=>
  refine aoT_ fun p hp e=> ?_
  obtain⟨q,hq,rfl⟩:=List.mem_map.1 (h.mem_iff.1 hp)
  exact Vi_ hf q hq e
 |some n=>exact apM_ (h.keys hn) (h.mem_iff.2 (List.mem_map.2 ⟨_,q1_ hf,rfl⟩))
theorem afO_ (fb:List Nat) (l:NmL) (s:List UInt8): (l.map (ptrN fb)).filter (fun p=> !(s==p.1))=(qC_ l s).map (ptrN fb):=by
 unfold qC_
 rw[List.filter_map];rfl
theorem NmP.wipe {fb:List Nat} {l:NmL} {m:List (List UInt8×Option Nat)} (h:NmP fb l m) (hn: (l.map Prod.fst).Nodup) (s:List UInt8):NmP fb (qC_ l s) (delG s m):=by
 unfold NmP
 rw[ai5_ s (h.keys hn),←afO_]
 exact h.filter _
theorem NmP.put {fb:List Nat} {l:NmL} {m:List (List UInt8×Option Nat)} (h:NmP fb l m) (hn: (l.map Prod.fst).Nodup) (s:List UInt8) (n:Nat):NmP fb (XY_ l (s,n)) (updG s (some (fb.getD n 0)) m):=by
 refine(aaQ_ s _ (h.keys hn)).trans ?_
 unfold XY_
 refine List.Perm.trans ?_ ((xe_ (s,n) (qC_ l s)).map (ptrN fb)).symm
 rw[List.map_cons,←afO_]
 exact(h.filter _).cons _
theorem NmP.mono {fb fb':List Nat} {l:NmL} {m:List (List UInt8×Option Nat)} (h:NmP fb l m) (hb: ∀p,p∈l→fb'.getD p.2 0=fb.getD p.2 0):NmP fb' l m:=by
 unfold NmP at h ⊢
 rw[show l.map (ptrN fb')=l.map (ptrN fb) from List.map_congr_left fun p hp=>by unfold ptrN;rw[hb p hp]]
 exact h
def qB_:List UInt8:= [108,111,111,115,101]
def vx_:List UInt8:= [112,97,99,107]
def WR_:List UInt8:= [114,101,102]
def qp_ (k:Nat):List UInt8:=match k with|0=>qB_|1=>vx_|_=>WR_
def zD_ (s:List UInt8):Option Nat:=if s==qB_ then some 0 else if s==vx_ then some 1 else if s==WR_ then some 2 else none
theorem z3_ {s:List UInt8} {k:Nat} (h:zD_ s=some k):k<3∧s=qp_ k:=by
 unfold zD_ at h
 split at h
 ·rename_i e;cases h;exact⟨by omega,eq_of_beq e⟩
 ·split at h
  ·rename_i e;cases h;exact⟨by omega,eq_of_beq e⟩
  ·split at h
   ·rename_i e;cases h;exact⟨by omega,eq_of_beq e⟩
   ·cases h
theorem jx_ {k:Nat} (h:k<3):zD_ (qp_ k)=some k:=by
 have:k=0∨k=1∨k=2:=by omega
 rcases this with rfl|rfl|rfl<;>rfl
def qo_ (l:NmL) (c:CallL):NmL:=match c.kind with
 |0=>XY_ l (c.a,c.n)
 |1=>XY_ (qC_ l c.a) (c.b,(zC_ l c.a).getD 0)
 |_=>qC_ l c.a
def z4_ (S:DiskL) (k:Nat) (d:DirL):DiskL:={S with dir:=fun j=>if j=k then d else S.dir j}
def jd_ (S:DiskL) (dir:List UInt8) (names:List (List UInt8)):Nat:=if zD_ dir=none∨names.all qn_=false then 1 else if S.off=true then 9 else 0
def zl_ (S:DiskL):DiskL×Nat:=if S.fused=true∧S.fuse=0 then({S with off:=true},9) else if S.fused=true then({S with fuse:=S.fuse - 1},0) else(S,0)
def j5_ (S:DiskL) (l:NmL):Nat:=(l.map fun p=>(S.files.getD p.2 qO_).data.length).sum
def xO_ (S:DiskL):Nat:=j5_ S (S.dir 0).seen+j5_ S (S.dir 1).seen+j5_ S (S.dir 2).seen
structure DkOk (S:DiskL):Prop where
 seen: ∀k,k<3→SrtN (S.dir k).seen
 stl: ∀k,k<3→SrtN (S.dir k).stl
 seenN: ∀k,k<3→ ∀p,p∈ (S.dir k).seen→p.2<S.files.length
 stlN: ∀k,k<3→ ∀p,p∈ (S.dir k).stl→p.2<S.files.length
 pendN: ∀k,k<3→ ∀c,c∈ (S.dir k).pend→c.kind=0→c.n<S.files.length
 file: ∀f,f∈S.files→f.data.length≤1048576∧f.stl≤f.data.length
 fuse: -9223372036854775808≤S.fuse∧S.fuse<9223372036854775808∧(S.fused=true→0≤S.fuse)
 max: -9223372036854775808≤S.max∧S.max<9223372036854775808
end Go.Proofs
end
section
open Go Go.Proofs Go.Sx Go.StP
namespace Go.Proofs
set_option maxRecDepth 10000
set_option maxHeartbeats 400000
set_option linter.unusedSimpArgs false
def xF_ (f:FileL):Obj:= .cells #[vs f.data,vi (f.stl:Int)] 67 (0,0)
def xv_ (a b:Nat) (v:Value):Obj:= .cells #[vm a,vm b,v] 71 (0,0)
def jr_ (bm:Nat) (S:DiskL):Obj:= .cells #[vm bm,vi S.max,vi S.fuse, .bool S.fused, .bool S.off] 64 (0,0)
def kV_ (s:List UInt8):Obj:= .cells #[vs s] 9 (0,0)
def KV_ (b:Nat):Obj:= .cells #[vp b 0] 65 (0,0)
structure DkG where
 bd:Nat
 bm:Nat
 d:Nat→Nat
 s:Nat→Nat
 t:Nat→Nat
 p:Nat→Value
 fb:List Nat
def QU_ (G:DkG):List (List UInt8×Option Nat):= [(qB_,some (G.d 0)),(vx_,some (G.d 1)),(WR_,some (G.d 2))]
def FnP (X:ze_) (fb:List Nat) (v:Value) (c:CallL):Prop:=match c.kind with
 |0=> ∃b1 b2,v= .func (.func 133) #[] #[vp b1 0,vp b2 0]∧Sx.look X b1=some (KV_ (fb.getD c.n 0))∧Sx.look X b2=some (kV_ c.a)
 |1=> ∃b1 b2,v= .func (.func 112) #[] #[vp b1 0,vp b2 0]∧Sx.look X b1=some (kV_ c.a)∧Sx.look X b2=some (kV_ c.b)
 |_=> ∃b1,v= .func (.func 90) #[] #[vp b1 0]∧Sx.look X b1=some (kV_ c.a)
def NmM (X:ze_) (fb:List Nat) (b:Nat) (l:NmL):Prop:= ∃o m,Sx.look X b=some o∧wB_ vs qJ_ o m∧NmP fb l m
structure DkP (X:ze_) (G:DkG) (S:DiskL):Prop where
 disk:Sx.look X G.bd=some (jr_ G.bm S)
 dirs: ∃o,Sx.look X G.bm=some o∧wB_ vs qJ_ o (QU_ G)
 dir: ∀k,k<3→Sx.look X (G.d k)=some (xv_ (G.s k) (G.t k) (G.p k))
 seen: ∀k,k<3→NmM X G.fb (G.s k) (S.dir k).seen
 stl: ∀k,k<3→NmM X G.fb (G.t k) (S.dir k).stl
 pend: ∀k,k<3→ ∃vals:List Value,vals.length=(S.dir k).pend.length∧Gr X 102 1 (G.p k) vals.length vals∧ ∀i,i<vals.length→FnP X G.fb (vals.getD i undef) ((S.dir k).pend.getD i vK_)
 file: ∀n,n<S.files.length→Sx.look X (G.fb.getD n 0)=some (xF_ (S.files.getD n qO_))
 len:G.fb.length=S.files.length
 nodf:G.fb.Nodup
 nodm: [G.s 0,G.s 1,G.s 2,G.t 0,G.t 1,G.t 2].Nodup
 nodd: [G.d 0,G.d 1,G.d 2].Nodup
 nodb: ∀k,k<3→G.bm≠G.s k∧G.bm≠G.t k
 nodp: ∀i j,i<3→j<3→i≠j→ ∀b,slB (G.p i)=some b→slB (G.p j)≠some b
 ok:DkOk S
def DkW (w:World) (G:DkG) (S:DiskL):Prop:= ∃X,(∀b o,Sx.look X b=some o→w.heap[b]? =some o)∧DkP X G S
theorem FnP.keep {X X':ze_} {fb:List Nat} {v:Value} {c:CallL} (h:FnP X fb v c) (hk: ∀b o,Sx.look X b=some o→((∃s,o=kV_ s)∨ ∃a,o=KV_ a)→Sx.look X' b=some o):FnP X' fb v c:=by
 unfold FnP at h ⊢
 split at h
 ·obtain⟨b1,b2,h1,h2,h3⟩:=h;exact⟨b1,b2,h1,hk _ _ h2 (.inr ⟨_,rfl⟩),hk _ _ h3 (.inl ⟨_,rfl⟩)⟩
 ·obtain⟨b1,b2,h1,h2,h3⟩:=h;exact⟨b1,b2,h1,hk _ _ h2 (.inl ⟨_,rfl⟩),hk _ _ h3 (.inl ⟨_,rfl⟩)⟩
 ·obtain⟨b1,h1,h2⟩:=h;exact⟨b1,h1,hk _ _ h2 (.inl ⟨_,rfl⟩)⟩
theorem NmM.keep {X X':ze_} {fb:List Nat} {b:Nat} {l:NmL} (h:NmM X fb b l) (hk: ∀o,Sx.look X b=some o→Sx.look X' b=some o):NmM X' fb b l:=by
 obtain⟨o,m,h1,h2,h3⟩:=h;exact⟨o,m,hk _ h1,h2,h3⟩
theorem x0_ {L:ze_} {E:TypeId} {m n:Nat} {v:Value} {cs:List Value} (h:Gr L E m v n cs) {b:Nat} (hb:slB v=some b): ∃arr,Sx.look L b=some (.cells arr E (0,0)):=by
 rcases h with h| ⟨-,-,c,rfl,h⟩
 ·cases h with
  |nl=>cases hb
  |at_ hl=>cases hb;exact⟨_,hl⟩
 ·cases hb;exact⟨_,h⟩
def tyO:Obj→Option TypeId
 | .cells _ t _=>some t
 |_=>none
theorem qK_ {α β:Type} {encK:α→Value} {encV:β→Value} {o:Obj} {m:List (α×β)} (h:wB_ encK encV o m):tyO o=none:=by
 obtain⟨es,c,rfl,-⟩:=h;rfl
theorem qc_ {X:ze_} {c b:Nat} {oc x o:Obj} (hc:Sx.look X c=some oc) (hb:Sx.look X b=some o) (ht:tyO o≠tyO oc):Sx.look (setB X c x) b=some o:=by
 rw[zb_ (by rintro rfl;rw[hc] at hb;cases hb;exact ht rfl)];exact hb
theorem DkP.mono {X X':ze_} {G:DkG} {S:DiskL} (h:DkP X G S) (hk: ∀b o,Sx.look X b=some o→Sx.look X' b=some o):DkP X' G S where
 disk:=hk _ _ h.disk
 dirs:=by obtain⟨o,h1,h2⟩:=h.dirs;exact⟨o,hk _ _ h1,h2⟩
 dir k hk':=hk _ _ (h.dir k hk')
 seen k hk':=(h.seen k hk').keep fun o=>hk _ o
 stl k hk':=(h.stl k hk').keep fun o=>hk _ o
 pend k hk':=by
  obtain⟨vals,h1,h2,h3⟩:=h.pend k hk'
  exact⟨vals,h1,h2.keep fun b o _=>hk b o,fun i hi=>(h3 i hi).keep fun b o ho _=>hk b o ho⟩
 file n hn:=hk _ _ (h.file n hn)
 len:=h.len
 nodf:=h.nodf
 nodm:=h.nodm
 nodd:=h.nodd
 nodb:=h.nodb
 nodp:=h.nodp
 ok:=h.ok
theorem DkP.setDisk {X:ze_} {G:DkG} {S:DiskL} (h:DkP X G S) (S':DiskL) (hd:S'.dir=S.dir) (hf:S'.files=S.files) (ok:DkOk S'):DkP (setB X G.bd (jr_ G.bm S')) G S' where
 disk:=zB_ h.disk
 dirs:=by obtain⟨o,h1,h2⟩:=h.dirs;exact⟨o,qc_ h.disk h1 (by rw[qK_ h2];intro e;cases e),h2⟩
 dir k hk':=qc_ h.disk (h.dir k hk') (by simp[tyO,xv_,jr_])
 seen k hk':=by
  rw[hd]
  obtain⟨o,m,h1,h2,h3⟩:=h.seen k hk'
  exact⟨o,m,qc_ h.disk h1 (by rw[qK_ h2];intro e;cases e),h2,h3⟩
 stl k hk':=by
  rw[hd]
  obtain⟨o,m,h1,h2,h3⟩:=h.stl k hk'
  exact⟨o,m,qc_ h.disk h1 (by rw[qK_ h2];intro e;cases e),h2,h3⟩
 pend k hk':=by
  rw[hd]
  obtain⟨vals,h1,h2,h3⟩:=h.pend k hk'
  refine⟨vals,h1,h2.keep fun b o hb ho=> ?_,fun i hi=>(h3 i hi).keep fun b o ho hx=>qc_ h.disk ho ?_⟩
  ·obtain⟨arr,ha⟩:=x0_ h2 hb
   rw[ho] at ha;cases ha
   exact qc_ h.disk ho (by simp[tyO,jr_])
  ·rcases hx with⟨s,rfl⟩ | ⟨a,rfl⟩<;>simp[tyO,jr_,kV_,KV_]
 file n hn:=by rw[hf] at hn ⊢;exact qc_ h.disk (h.file n hn) (by simp[tyO,jr_,xF_])
 len:=by rw[hf];exact h.len
 nodf:=h.nodf
 nodm:=h.nodm
 nodd:=h.nodd
 nodb:=h.nodb
 nodp:=h.nodp
 ok:=ok
theorem DkP.setFile {X:ze_} {G:DkG} {S:DiskL} (h:DkP X G S) {n:Nat} (hn:n<S.files.length) (f:FileL) (ok:DkOk {S with files:=S.files.set n f}):DkP (setB X (G.fb.getD n 0) (xF_ f)) G {S with files:=S.files.set n f} where
 disk:=qc_ (h.file n hn) h.disk (by simp[tyO,jr_,xF_])
 dirs:=by obtain⟨o,h1,h2⟩:=h.dirs;exact⟨o,qc_ (h.file n hn) h1 (by rw[qK_ h2];intro e;cases e),h2⟩
 dir k hk':=qc_ (h.file n hn) (h.dir k hk') (by simp[tyO,xv_,xF_])
 seen k hk':=by
  obtain⟨o,m,h1,h2,h3⟩:=h.seen k hk'
  exact⟨o,m,qc_ (h.file n hn) h1 (by rw[qK_ h2];intro e;cases e),h2,h3⟩
 stl k hk':=by
  obtain⟨o,m,h1,h2,h3⟩:=h.stl k hk'
  exact⟨o,m,qc_ (h.file n hn) h1 (by rw[qK_ h2];intro e;cases e),h2,h3⟩
 pend k hk':=by
  obtain⟨vals,h1,h2,h3⟩:=h.pend k hk'
  refine⟨vals,h1,h2.keep fun b o hb ho=> ?_,fun i hi=>(h3 i hi).keep fun b o ho hx=>qc_ (h.file n hn) ho ?_⟩
  ·obtain⟨arr,ha⟩:=x0_ h2 hb
   rw[ho] at ha;cases ha
   exact qc_ (h.file n hn) ho (by simp[tyO,xF_])
  ·rcases hx with⟨s,rfl⟩ | ⟨a,rfl⟩<;>simp[tyO,xF_,kV_,KV_]
 file i hi:=by
  simp only[List.length_set] at hi
  by_cases e:i=n
  ·subst e
   rw[zB_ (h.file i hn),List.getD_eq_getElem?_getD,List.getElem?_set_self hn];rfl
  ·have hl:=h.len
   have hne:G.fb.getD i 0≠G.fb.getD n 0:=by
    intro e2
    rw[List.getD_eq_getElem?_getD,List.getD_eq_getElem?_getD,List.getElem?_eq_getElem (by omega),List.getElem?_eq_getElem (by omega)] at e2
    simp only[Option.getD_some] at e2
    rcases Nat.lt_or_gt_of_ne e with hlt|hlt
    ·exact(List.pairwise_iff_getElem.1 h.nodf) i n (by omega) (by omega) hlt e2
    ·exact(List.pairwise_iff_getElem.1 h.nodf) n i (by omega) (by omega) hlt e2.symm
   rw[zb_ (Ne.symm hne),h.file i hi,List.getD_eq_getElem?_getD,List.getD_eq_getElem?_getD,List.getElem?_set_ne (Ne.symm e)]
 len:=by rw[List.length_set];exact h.len
 nodf:=h.nodf
 nodm:=h.nodm
 nodd:=h.nodd
 nodb:=h.nodb
 nodp:=h.nodp
 ok:=ok
theorem DkP.world {X:ze_} {G:DkG} {S:DiskL} {w0 w:World} (h:DkP X G S) (hw:Hp w0 X w):DkW w G S:=⟨X,fun _ _ hb=>hw.has _ _ (zq_ hb),h⟩
theorem DkP.worldX {X:ze_} {G:DkG} {S:DiskL} {w:World} (h:DkP X G S) (hX: ∀p,p∈X→w.heap[p.1]? =some p.2):DkW w G S:=⟨X,fun _ _ hb=>hX _ (zq_ hb),h⟩
theorem DkW.old {w w':World} {L:ze_} {G:DkG} {S:DiskL} (h:DkW w G S) (hw:Hp w L w') (hn:New w.heap.size L):DkW w' G S:=by
 obtain⟨X,h1,h2⟩:=h
 refine⟨X,fun b o hb=> ?_,h2⟩
 have hlt:=(Array.getElem?_eq_some_iff.1 (h1 b o hb)).1
 rw[hw.old b hlt (hn.not hlt)];exact h1 b o hb
end Go.Proofs
end
section
open Go Go.Proofs Go.Sx Go.StP
namespace Go.Proofs
set_option maxRecDepth 10000
set_option maxHeartbeats 400000
set_option linter.unusedSimpArgs false
theorem qr_ (bm:Nat) (S:DiskL) (n:Nat):zk_ (some (false,n)) (some (jr_ bm S)) 0=some (vm bm):=(rfl)
theorem kt_ (bm:Nat) (S:DiskL) (n:Nat):zk_ (some (false,n)) (some (jr_ bm S)) 1=some (vi S.max):=(rfl)
theorem aaf_ (bm:Nat) (S:DiskL) (n:Nat):zk_ (some (false,n)) (some (jr_ bm S)) 2=some (vi S.fuse):=(rfl)
theorem abB_ (bm:Nat) (S:DiskL) (n:Nat):zk_ (some (false,n)) (some (jr_ bm S)) 3=some (.bool S.fused):=(rfl)
theorem abs_ (bm:Nat) (S:DiskL) (n:Nat):zk_ (some (false,n)) (some (jr_ bm S)) 4=some (.bool S.off):=(rfl)
theorem agp_ (bm:Nat) (S:DiskL) (x:Int) (a:Bool):zu_ (some (a,1)) (some (jr_ bm S)) 1 (vi x)=some (jr_ bm {S with max:=x}):=zt_ [vm bm] [vi S.max] [vi x] [vi S.fuse, .bool S.fused, .bool S.off] a _ 64 rfl rfl rfl rfl rfl
theorem agA_ (bm:Nat) (S:DiskL) (x:Int) (a:Bool):zu_ (some (a,1)) (some (jr_ bm S)) 2 (vi x)=some (jr_ bm {S with fuse:=x}):=zt_ [vm bm,vi S.max] [vi S.fuse] [vi x] [.bool S.fused, .bool S.off] a _ 64 rfl rfl rfl rfl rfl
theorem Vf_ (bm:Nat) (S:DiskL) (x:Bool) (a:Bool):zu_ (some (a,1)) (some (jr_ bm S)) 3 (.bool x)=some (jr_ bm {S with fused:=x}):=zt_ [vm bm,vi S.max,vi S.fuse] [.bool S.fused] [.bool x] [.bool S.off] a _ 64 rfl rfl rfl rfl rfl
theorem Vo_ (bm:Nat) (S:DiskL) (x:Bool) (a:Bool):zu_ (some (a,1)) (some (jr_ bm S)) 4 (.bool x)=some (jr_ bm {S with off:=x}):=zt_ [vm bm,vi S.max,vi S.fuse, .bool S.fused] [.bool S.off] [.bool x] [] a _ 64 rfl rfl rfl rfl rfl
theorem qL_ (a b:Nat) (v:Value) (n:Nat):zk_ (some (false,n)) (some (xv_ a b v)) 0=some (vm a):=(rfl)
theorem qG_ (a b:Nat) (v:Value) (n:Nat):zk_ (some (false,n)) (some (xv_ a b v)) 1=some (vm b):=(rfl)
theorem qH_ (a b:Nat) (v:Value) (n:Nat):zk_ (some (false,n)) (some (xv_ a b v)) 2=some v:=(rfl)
theorem xU_ (f:FileL) (n:Nat):zk_ (some (false,n)) (some (xF_ f)) 0=some (vs f.data):=(rfl)
theorem xW_ (f:FileL) (n:Nat):zk_ (some (false,n)) (some (xF_ f)) 1=some (vi (f.stl:Int)):=(rfl)
theorem Qo_ (f:FileL) (x:List UInt8) (a:Bool):zu_ (some (a,1)) (some (xF_ f)) 0 (vs x)=some (xF_ {f with data:=x}):=zt_ [] [vs f.data] [vs x] [vi (f.stl:Int)] a _ 67 rfl rfl rfl rfl rfl
theorem Qf_ (f:FileL) (x:Nat) (a:Bool):zu_ (some (a,1)) (some (xF_ f)) 1 (vi (x:Int))=some (xF_ {f with stl:=x}):=zt_ [vs f.data] [vi (f.stl:Int)] [vi (x:Int)] [] a _ 67 rfl rfl rfl rfl rfl
theorem amZ_ (b o:Nat):q7_ Tryz.prog .eql 28 (vp b o) (.pointer none)=some (.bool false):=by
 simp[q7_,eqX,q8_,qR_,Tryz.underlying28,vp]
theorem ans_ (b o:Nat):q7_ Tryz.prog .neq 28 (vp b o) (.pointer none)=some (.bool true):=by
 simp[q7_,eqX,q8_,qR_,Tryz.underlying28,vp]
theorem agE_ (b o:Nat):q7_ Tryz.prog .eql 61 (vp b o) (.pointer none)=some (.bool false):=by
 simp[q7_,eqX,q8_,qR_,Tryz.underlying61,vp]
theorem Ve_:q7_ Tryz.prog .eql 61 (.pointer none) (.pointer none)=some (.bool true):=by
 simp[q7_,eqX,q8_,qR_,Tryz.underlying61]
theorem akV_ (b o:Nat):q7_ Tryz.prog .eql 65 (vp b o) (.pointer none)=some (.bool false):=by
 simp[q7_,eqX,q8_,qR_,Tryz.underlying65,vp]
theorem ab1_:q7_ Tryz.prog .eql 65 (.pointer none) (.pointer none)=some (.bool true):=by
 simp[q7_,eqX,q8_,qR_,Tryz.underlying65]
theorem zrPd:zK_ Tryz.prog 61=some (qJ_ none):=id (by kernel_rfl)
theorem zrPf:zK_ Tryz.prog 65=some (qJ_ none):=id (by kernel_rfl)
theorem jF_:KeyOk Tryz.prog 9 vs:=KeyOk.str Tryz.underlying9
theorem Zt_ (G:DkG) (s:List UInt8):getG s none (QU_ G)=(zD_ s).map G.d:=by
 unfold getG QU_ zD_
 rw[List.find?_cons,List.find?_cons,List.find?_cons,List.find?_nil]
 cases h1:s==qB_
 ·cases h2:s==vx_
  ·cases h3:s==WR_<;>rfl
  ·rfl
 ·rfl
set_option linter.defProp false
def wT_:=And.intro (And.intro (And.intro (@zn_) (And.intro (@zm_) (@qr_))) (And.intro (@kt_) (And.intro (@aaf_) (@abB_)))) (And.intro (And.intro (@abs_) (And.intro (@agp_) (@agA_))) (And.intro (And.intro (@Vf_) (@Vo_)) (And.intro (@amZ_) (@ans_))))
theorem kB_ (b bm:Nat) (S:DiskL) (w:World) (hf: -9223372036854775808≤S.fuse∧S.fuse<9223372036854775808∧(S.fused=true→0≤S.fuse)) (ho:w.heap[b]? =some (jr_ bm S)):
  Rets Tryz.prog 73 #[vp b 0] w (fun v D=> ∃o,D= [(b,o)]∧v=vi (zl_ S).2∧o=jr_ bm (zl_ S).1):=by
 refine Rets.enterM Tryz.func73 rfl (rs:= [.tmp 2]) Tryz.results73 Tryz.ntmps73 ho ?_
 refine kf ?_
 unfold zl_
 cases hfd:S.fused with
 |false=>
  rw[if_neg (by simp),if_neg (by simp)]
  first|with_reducible refine ks [] (And.intro @wT_ @hfd) ?_|refine kp (And.intro @wT_ @hfd) ?_
  refine⟨_,_,_,(ke @wT_),rfl,trivial, ?_⟩
  exact⟨rfl,rfl⟩
 |true=>
  by_cases h0:S.fuse=0
  ·have e0: (S.fuse==0)=true:=beq_iff_eq.2 h0
   rw[if_pos ⟨rfl,h0⟩]
   first|with_reducible refine ks [] (And.intro @wT_ (And.intro @hfd (@e0))) ?_|refine kp (And.intro @wT_ (And.intro @hfd (@e0))) ?_
   refine⟨_,_,_,(ke @wT_),rfl,trivial, ?_⟩
   exact⟨rfl,rfl⟩
  ·have e0: (S.fuse==0)=false:=beq_eq_false_iff_ne.2 h0
   have h1:=hf.2.2 hfd
   rw[if_neg (fun h=>h0 h.2),if_pos rfl]
   first|with_reducible refine ks [] (And.intro @wT_ (And.intro @hfd (@e0))) ?_|refine kp (And.intro @wT_ (And.intro @hfd (@e0))) ?_
   refine⟨_,_,_,(ke @wT_),rfl,trivial, ?_⟩
   exact⟨rfl,rfl⟩
theorem ai9_ (w:World) (G:DkG) (S:DiskL) (hD:DkW w G S):Rets Tryz.prog 40 #[vp G.bd 0] w (fun v D=>v= .bool S.off∧D= []):=by
 obtain⟨X,hX,hP⟩:=hD
 have hd:=hX _ _ hP.disk
 refine Rets.enterV Tryz.func40 rfl (rs:= [.tmp 2]) Tryz.results40 Tryz.ntmps40 ?_
 refine kf ?_
 first|with_reducible refine ks [] (And.intro @wT_ @hd) ?_|refine kp (And.intro @wT_ @hd) ?_
 refine⟨_,(ke @wT_),trivial, ?_⟩
 rfl
theorem age_ (b bm:Nat) (S:DiskL) (n:Int) (w:World) (ho:w.heap[b]? =some (jr_ bm S)):
  Rets Tryz.prog 9 #[vp b 0,vi n] w (fun v D=> ∃o,D= [(b,o)]∧v=kD_ []∧o=jr_ bm {S with fuse:=n,fused:=decide (0≤n)}):=by
 refine Rets.enterM Tryz.func9 rfl (rs:= []) Tryz.results9 Tryz.ntmps9 ho ?_
 refine kf ?_
 first|with_reducible refine ks [] @wT_ ?_|refine kp @wT_ ?_
 refine⟨_,_,_,(ke @wT_),rfl,trivial, ?_⟩
 exact⟨rfl,rfl⟩
def aqe_ (G:DkG) (S:DiskL) (dir:List UInt8) (names:List (List UInt8)) (v:Value):Prop:=
 (jd_ S dir names≠0∧v= .tuple #[.pointer none,vi (jd_ S dir names:Nat)])∨(jd_ S dir names=0∧ ∃k,zD_ dir=some k∧v= .tuple #[vp (G.d k) 0,vi 0])
set_option linter.defProp false
def kW_:=And.intro (And.intro (And.intro (@zn_) (@zm_)) (And.intro (@qr_) (And.intro (@kt_) (@aaf_)))) (And.intro (And.intro (@abB_) (And.intro (@abs_) (@amZ_))) (And.intro (@ans_) (And.intro (@agE_) (@Ve_))))
theorem jO_ (w:World) (G:DkG) (S:DiskL) (dir:List UInt8) (v:Value) (names:List (List UInt8)) (hD:DkW w G S) (hv:ajp_ w v names) (hl:names.length<1000000) (hs: ∀s,s∈names→s.length<1099511627776):
  Rets Tryz.prog 46 #[vp G.bd 0,vs dir,v] w (fun v D=>aqe_ G S dir names v∧D= []):=by
 obtain⟨X,hX,hP⟩:=hD
 have hd:=hX _ _ hP.disk
 obtain⟨om,hom,hM⟩:=hP.dirs
 have hb:=hX _ _ hom
 refine Rets.enterV Tryz.func46 rfl (rs:= [.tmp 6, .tmp 7]) Tryz.results46 Tryz.ntmps46 ?_
 refine kf ?_
 first|with_reducible refine ks [] (And.intro @kW_ @hd) ?_|refine kp (And.intro @kW_ @hd) ?_
 refine Ow.mapGetG (encK:=vs) (encV:=qJ_) (k:=dir) (z:=none) rfl rfl Tryz.underlying62 jF_ zrPd rfl rfl hb hM ?_
 rw[Zt_]
 unfold aqe_ jd_
 cases hw:zD_ dir with
 |none=>
  rw[if_pos (.inl rfl)]
  have hp0:qJ_ none= .pointer none:=rfl
  refine ko (And.intro @kW_ @hp0) ?_
  first|with_reducible refine ks [] @kW_ ?_|refine kp @kW_ ?_
  refine⟨_,(ke @kW_),trivial, ?_⟩
  exact .inl ⟨by decide,rfl⟩
 |some k=>
  have hp: ∀q:Nat,qJ_ (some q)=vp q 0:=fun _=>rfl
  refine ko (And.intro @kW_ @hp) ?_
  refine Ow.callFV rfl Tryz.call71 (fun w' hw'=>Kx_ v names w' (hv.oldN hw' trivial) hl hs) ?_
  cases hal:names.all qn_ with
  |false=>
   rw[if_pos (.inr rfl)]
   refine ko @kW_ ?_
   first|with_reducible refine ks [] @kW_ ?_|refine kp @kW_ ?_
   refine⟨_,(ke @kW_),trivial, ?_⟩
   exact .inl ⟨by decide,rfl⟩
  |true=>
   rw[if_neg (by simp)]
   cases hof:S.off with
   |true=>
    rw[if_pos rfl]
    refine ko @kW_ ?_
    first|with_reducible refine ks [] (And.intro @kW_ (And.intro @hd (@hof))) ?_|refine kp (And.intro @kW_ (And.intro @hd (@hof))) ?_
    refine⟨_,(ke @kW_),trivial, ?_⟩
    exact .inl ⟨by decide,rfl⟩
   |false=>
    rw[if_neg (by simp)]
    refine ko @kW_ ?_
    first|with_reducible refine ks [] (And.intro @kW_ (And.intro @hd (@hof))) ?_|refine kp (And.intro @kW_ (And.intro @hd (@hof))) ?_
    refine⟨_,(ke @kW_),trivial, ?_⟩
    exact .inr ⟨rfl,k,rfl,rfl⟩
end Go.Proofs
end
section
open Go Go.Proofs Go.Sx Go.StP
namespace Go.Proofs
set_option maxRecDepth 10000
set_option maxHeartbeats 400000
set_option linter.unusedSimpArgs false
theorem ab2_ {w:World} {b:Nat} {s:List UInt8} {E:TypeId} (h:w.heap[b]? =some (.cells #[vs s] E (0,0))):ajp_ w (vsl b 0 1 1) [s]:=
 SlV.sl (l:= [s]) h (fun k hk j hj=>by
  obtain rfl:k=0:=by simpa using hk
  obtain rfl:j=0:=by omega
  rfl) (Nat.le_refl _) (by simp)
theorem aqJ_ {w:World} {b:Nat} {s u:List UInt8} {E:TypeId} (h:w.heap[b]? =some (.cells #[vs s,vs u] E (0,0))):ajp_ w (vsl b 0 2 2) [s,u]:=
 SlV.sl (l:= [s,u]) h (fun k hk j hj=>by
  obtain rfl:j=0:=by omega
  have:k=0∨k=1:=by simp at hk;omega
  rcases this with rfl|rfl<;>rfl) (Nat.le_refl _) (by simp)
theorem agy_ {S:DiskL} {dir:List UInt8} {names:List (List UInt8)} (h:jd_ S dir names=0):zD_ dir≠none∧names.all qn_=true∧S.off=false:=by
 unfold jd_ at h
 split at h
 ·cases h
 ·split at h
  ·cases h
  ·rename_i h1 h2
   refine⟨fun e=>h1 (.inl e), ?_,by simpa using h2⟩
   cases e:names.all qn_ with
   |true=>rfl
   |false=>exact absurd (.inr e) h1
def km_ (S:DiskL) (dir name:List UInt8):List UInt8×Nat:=
 if jd_ S dir [name]≠0 then([],jd_ S dir [name]) else match(zD_ dir).bind fun k=>zC_ (S.dir k).seen name with
  |none=>([],6)
  |some n=>((S.files.getD n qO_).data,0)
theorem ju_ {n:Nat} (h:n≠0): ((n:Int) !=0)=true:=bne_iff_ne.2 (by omega)
set_option linter.defProp false
def vw_:=And.intro (And.intro (And.intro (And.intro (@zn_) (@zm_)) (And.intro (@qr_) (@qL_))) (And.intro (And.intro (@qG_) (@qH_)) (And.intro (@xU_) (And.intro (@xW_) (@agE_))))) (And.intro (And.intro (And.intro (@Ve_) (@akV_)) (And.intro (@ab1_) (@Sx.tup2_0))) (And.intro (And.intro (@Sx.tup2_1) (@QG_)) (And.intro (@Sx.tup3_0) (And.intro (@Sx.tup3_1) (@Sx.tup3_2)))))
theorem KS_ (w:World) (G:DkG) (S:DiskL) (dir name:List UInt8) (hD:DkW w G S) (hn:name.length<1099511627776):
  Rets Tryz.prog 22 #[vp G.bd 0,vs dir,vs name] w (fun v D=>v= .tuple #[vs (km_ S dir name).1,vi ((km_ S dir name).2:Nat)]∧D= []):=by
 have hD':=hD
 obtain⟨X,hX,hP⟩:=hD
 refine Rets.enterV Tryz.func22 rfl (rs:= [.tmp 6, .tmp 7]) Tryz.results22 Tryz.ntmps22 ?_
 refine kf ?_
 first|with_reducible refine ks [] @vw_ ?_|refine kp @vw_ ?_
 refine Ow.buildSlice (e:=9) #[vs name] rfl rfl (by kernel_rfl) fun b1 hb1 hw1=> ?_
 refine ko @vw_ ?_
 have hN1:New w.heap.size [(b1,Obj.cells #[vs name] 9 (0,0))]:=⟨hw1,trivial⟩
 refine Ow.callC rfl rfl Tryz.call46 (fun w' hw'=>Rets.toX (jO_ w' G S dir (vsl b1 0 1 1) [name] (hD'.old hw' hN1) (ab2_ (hw'.has _ _ List.mem_cons_self)) (by simp) (by simpa using hn))) (fun B2 v2 D2 hA2 hB2 hN2 hS2=> ?_)
 obtain⟨rfl,hS2⟩:=hS2
 rw[List.append_nil]
 unfold km_
 rcases hS2 with⟨he,rfl⟩ | ⟨he,k,hk,rfl⟩
 ·rw[if_pos he]
  have e1:=ju_ he
  refine ko @vw_ ?_
  first|with_reducible refine ks [] (And.intro @vw_ @e1) ?_|refine kp (And.intro @vw_ @e1) ?_
  refine⟨_,(ke @vw_),hN1, ?_⟩
  rfl
 ·rw[if_neg (by rw[he];simp),hk]
  have hk3:=(z3_ hk).1
  have hdr:=hX _ _ (hP.dir k hk3)
  obtain⟨os,ms,hos,hms,hnp⟩:=hP.seen k hk3
  have hso:=hX _ _ hos
  have hl1:=(Array.getElem?_eq_some_iff.1 hdr).1
  have hl2:=(Array.getElem?_eq_some_iff.1 hso).1
  have hr1:zy_ w [(b1,Obj.cells #[vs name] 9 (0,0))] (G.d k)=some (xv_ (G.s k) (G.t k) (G.p k)):=by rw[z6_ (hN1.not hl1)];exact hdr
  have hr2:zy_ w [(b1,Obj.cells #[vs name] 9 (0,0))] (G.s k)=some os:=by rw[z6_ (hN1.not hl2)];exact hso
  have e1: ((0:Int) !=0)=false:=rfl
  refine ko @vw_ ?_
  first|with_reducible refine ks [] (And.intro @vw_ (And.intro @e1 (And.intro @hdr (@hr1)))) ?_|refine kp (And.intro @vw_ (And.intro @e1 (And.intro @hdr (@hr1)))) ?_
  refine Ow.mapGetG (encK:=vs) (encV:=qJ_) (k:=name) (z:=none) rfl rfl Tryz.underlying68 jF_ zrPf rfl rfl hr2 hms ?_
  rw[hnp.get (hP.ok.seen k hk3).nodup]
  show Ow _ _ _ _ _ _ _ _
  cases hf:zC_ (S.dir k).seen name with
  |none=>
   have hf': (some k).bind (fun k=>zC_ (S.dir k).seen name)=none:=hf
   rw[hf']
   have hp0:qJ_ none= .pointer none:=rfl
   refine ko (And.intro @vw_ @hp0) ?_
   first|with_reducible refine ks [] @vw_ ?_|refine kp @vw_ ?_
   refine⟨_,(ke @vw_),hN1, ?_⟩
   rfl
  |some n=>
   have hf': (some k).bind (fun k=>zC_ (S.dir k).seen name)=some n:=hf
   rw[hf']
   have hnl:=hP.ok.seenN k hk3 _ (q1_ hf)
   have hfl:=hX _ _ (hP.file n hnl)
   have hl3:=(Array.getElem?_eq_some_iff.1 hfl).1
   have hr3:zy_ w [(b1,Obj.cells #[vs name] 9 (0,0))] (G.fb.getD n 0)=some (xF_ (S.files.getD n qO_)):=by rw[z6_ (hN1.not hl3)];exact hfl
   have hp: ∀q:Nat,qJ_ (some q)=vp q 0:=fun _=>rfl
   refine ko (And.intro @vw_ @hp) ?_
   first|with_reducible refine ks [] (And.intro @vw_ (And.intro @hfl (@hr3))) ?_|refine kp (And.intro @vw_ (And.intro @hfl (@hr3))) ?_
   refine⟨_,(ke @vw_),hN1, ?_⟩
   rfl
end Go.Proofs
end
section
open Go Go.Proofs Go.Sx Go.StP
namespace Go.Proofs
set_option maxRecDepth 10000
set_option maxHeartbeats 400000
set_option linter.unusedSimpArgs false
def uDir (S:DiskL) (p:List UInt8×Option Nat):Nat:=match zD_ p.1 with|some k=>j5_ S (S.dir k).seen|none=>0
def Z5_ (S:DiskL) (l:NmL) (p:List UInt8×Option Nat):Nat:=match zC_ l p.1 with|some n=>(S.files.getD n qO_).data.length|none=>0
theorem amz_ (S:DiskL) (G:DkG): ((QU_ G).map (uDir S)).sum=xO_ S:=by
 unfold QU_ xO_
 simp only[List.map_cons,List.map_nil,List.sum_cons,List.sum_nil]
 show j5_ S (S.dir 0).seen+ (j5_ S (S.dir 1).seen+ (j5_ S (S.dir 2).seen+0))=_
 omega
theorem akt_ (S:DiskL) {fb:List Nat} {l:NmL} {m:List (List UInt8×Option Nat)} (h:NmP fb l m) (hn: (l.map Prod.fst).Nodup): (m.map (Z5_ S l)).sum=j5_ S l:=by
 rw[(h.map (Z5_ S l)).sum_nat,List.map_map]
 unfold j5_
 congr 1
 refine List.map_congr_left fun p hp=> ?_
 show Z5_ S l (ptrN fb p)=_
 unfold Z5_ ptrN
 rw[Jq_ hn hp]
theorem aeW_ {α:Type} (f:α→Nat) {a b m:List α} (h: (a++b).Perm m): (a.map f).sum≤ (m.map f).sum:=by
 rw[← (h.map f).sum_nat,List.map_append,List.sum_append]
 omega
theorem x3_ {α β:Type} {encK:α→Value} {encV:β→Value} {o:Obj} {bm:Nat} {om:Obj} {m dn lf:List (α×β)} (h:ItG encK encV o bm om m dn lf): (dn++lf).Perm m:=by
 obtain⟨es,clock,ds,-,-,-,-,-,-,hp⟩:=h;exact hp
theorem aah_ {G:DkG} {p:List UInt8×Option Nat} (h:p∈QU_ G): ∃k,k<3∧p=(qp_ k,some (G.d k)):=by
 unfold QU_ at h
 simp only[List.mem_cons,List.not_mem_nil,or_false] at h
 rcases h with rfl|rfl|rfl
 ·exact⟨0,by omega,rfl⟩
 ·exact⟨1,by omega,rfl⟩
 ·exact⟨2,by omega,rfl⟩
structure UsG where
 dn:List (List UInt8×Option Nat)
 lf:List (List UInt8×Option Nat)
 it:Obj
 DG:ze_
set_option linter.defProp false
def jU_:=And.intro (And.intro (And.intro (And.intro (@zn_) (@zm_)) (And.intro (@qr_) (@qL_))) (And.intro (And.intro (@qG_) (@qH_)) (And.intro (@xU_) (And.intro (@xW_) (@amZ_))))) (And.intro (And.intro (And.intro (@agE_) (@Ve_)) (And.intro (@akV_) (And.intro (@ab1_) (@Sx.tup2_0)))) (And.intro (And.intro (@Sx.tup2_1) (@QG_)) (And.intro (@Sx.tup3_0) (And.intro (@Sx.tup3_1) (@Sx.tup3_2)))))
theorem Qm_ (w:World) (G:DkG) (S:DiskL) (hD:DkW w G S) (hb:xO_ S<4611686018427387904):Rets Tryz.prog 41 #[vp G.bd 0] w (fun v D=>v=vi (xO_ S:Nat)∧D= []):=by
 obtain⟨X,hX,hP⟩:=hD
 have hd:=hX _ _ hP.disk
 obtain⟨om,hom,hM⟩:=hP.dirs
 have hbm:=hX _ _ hom
 have hlm:=(Array.getElem?_eq_some_iff.1 hbm).1
 have hU:=amz_ S G
 have old: ∀b o,w.heap[b]? =some o→ ∀Y,New w.heap.size Y→zy_ w Y b=some o:=fun b o hb Y hY=>by
  rw[z6_ (hY.not (Array.getElem?_eq_some_iff.1 hb).1)];exact hb
 refine Rets.enterV Tryz.func41 rfl (rs:= [.tmp 2]) Tryz.results41 Tryz.ntmps41 ?_
 refine kf ?_
 first|with_reducible refine ks [] (And.intro @jU_ @hd) ?_|refine kp (And.intro @jU_ @hd) ?_
 refine Ow.rangeMapG (encK:=vs) (encV:=qJ_) rfl rfl Tryz.underlying62 rfl hbm hM fun bi oi hbi hwi hI=> ?_
 rw[List.nil_append]
 refine ko @jU_ ?_
 first|with_reducible refine ks [] @jU_ ?_|refine kp @jU_ ?_
 refine Cw.loopG (G:=UsG) [15,16,17,18,5,19,20,21,22,23,24,25,26,27,7,28,29,30,31,32,33,34,3] (fun g=> [(3,vi ((g.dn.map (uDir S)).sum:Nat))]) (fun g=>(bi,g.it)::g.DG) (fun g=>ItG vs qJ_ g.it G.bm om (QU_ G) g.dn g.lf∧New w.heap.size g.DG) (fun g=>g.lf.length) ⟨[],QU_ G,oi,[]⟩ rfl rfl ?_ ?_
 ·exact⟨hI,trivial⟩
 intro g j hg
 refine kv ?_
 clear hI
 obtain⟨dn,lf,it,DG⟩:=g
 simp only at hg ⊢
 obtain⟨hI,hN⟩:=hg
 have hNi: ∀x,New w.heap.size ((bi,x)::DG):=fun x=>⟨hwi,hN⟩
 first|with_reducible refine ks [] @jU_ ?_|refine kp @jU_ ?_
 refine Ow.nextMapG rfl rfl rfl (xj_ _ _ _) (old _ _ hbm _ (hNi it)) hI (fun hlf=> ?_) (fun p it' lf' hl' hI'=> ?_)
 ·subst hlf
  have hp:=x3_ hI
  rw[List.append_nil] at hp
  rw[(hp.map (uDir S)).sum_nat,hU]
  refine ko @jU_ ?_
  first|with_reducible refine ks [] @jU_ ?_|refine kp @jU_ ?_
  refine⟨_,(ke @jU_),hNi it, ?_⟩
  rfl
 ·refine kn ?_
  refine ko @jU_ ?_
  first|with_reducible refine ks [] @jU_ ?_|refine kp @jU_ ?_
  refine Ow.entryMapG (encK:=vs) (encV:=qJ_) rfl rfl rfl (jz_ _ _ _ _) (old _ _ hbm _ (hNi it')) hI' ?_
  have hp:=x3_ hI'
  obtain⟨k,hk3,rfl⟩:=aah_ (hp.mem_iff.1 (List.mem_append_left _ (List.mem_append_right _ List.mem_cons_self)))
  have hle:=aeW_ (uDir S) hp
  rw[hU,List.map_append,List.sum_append] at hle
  have huk: ([(qp_ k,some (G.d k))].map (uDir S)).sum=j5_ S (S.dir k).seen:=by
   show uDir S (qp_ k,some (G.d k))+0=_
   unfold uDir
   simp only[jx_ hk3,Nat.add_zero]
  rw[huk] at hle
  have hac: ((dn++ [(qp_ k,some (G.d k))]).map (uDir S)).sum=(dn.map (uDir S)).sum+j5_ S (S.dir k).seen:=by rw[List.map_append,List.sum_append,huk]
  generalize (dn.map (uDir S)).sum=A at*
  have hdr:=hX _ _ (hP.dir k hk3)
  obtain⟨os,ms,hos,hms,hnp⟩:=hP.seen k hk3
  have hso:=hX _ _ hos
  have hs:=akt_ S hnp (hP.ok.seen k hk3).nodup
  have hdr1:=old _ _ hdr _ (hNi it')
  have hdr2:=old _ _ hdr _ hN
  have hp': ∀q:Nat,qJ_ (some q)=vp q 0:=fun _=>rfl
  refine ko (And.intro @jU_ (And.intro @hp' (And.intro @hdr1 (@hdr2)))) ?_
  refine Ow.rangeMapG (encK:=vs) (encV:=qJ_) rfl rfl Tryz.underlying68 rfl (old _ _ hso _ (hNi it')) hms fun bj oj hbj hwj hJ=> ?_
  refine Ow.permL (M:=(bj,oj):: (bi,it')::DG) (by classical exact List.perm_iff_count.2 fun a=>by simp only[List.count_append,List.count_cons,List.count_nil]<;>omega) ?_
  refine ko @jU_ ?_
  first|with_reducible refine ks [] @jU_ ?_|refine kp @jU_ ?_
  refine Cw.loopG (G:=UsG) [24,25,26,27,7,28,29,30,31,32,33,34,3] (fun p=> [(3,vi ((A+ (p.dn.map (Z5_ S (S.dir k).seen)).sum:Nat):Int))]) (fun p=>(bj,p.it):: (bi,it')::DG) (fun p=>ItG vs qJ_ p.it (G.s k) os ms p.dn p.lf) (fun p=>p.lf.length) ⟨[],ms,oj,[]⟩ rfl rfl ?_ ?_
  ·exact hJ
  intro p jp hp
  refine kv ?_
  clear hJ
  obtain⟨dn2,lf2,jt,DX⟩:=p
  simp only at hp ⊢
  first|with_reducible refine ks [] @jU_ ?_|refine kp @jU_ ?_
  refine Ow.nextMapG rfl rfl rfl (xj_ _ _ _) (old _ _ hso _ ⟨hwj,hNi it'⟩) hp (fun hlf=> ?_) (fun p jt' lf2' hl2' hJ'=> ?_)
  ·subst hlf
   have hq:=x3_ hp
   rw[List.append_nil] at hq
   rw[(hq.map (Z5_ S (S.dir k).seen)).sum_nat,hs]
   refine Ow.permL (M:=(bi,it'):: (bj,jt)::DG) (by classical exact List.perm_iff_count.2 fun a=>by simp only[List.count_append,List.count_cons,List.count_nil]<;>omega) ?_
   refine ko @jU_ ?_
   first|with_reducible refine ks [] @jU_ ?_|refine kp @jU_ ?_
   exact Again.mk ⟨dn++ [(qp_ k,some (G.d k))],lf',it',(bj,jt)::DG⟩ (by show lf'.length<lf.length;omega) ⟨hI',hwj,hN⟩ rfl (by simp only[hac];rfl)
  ·refine kn ?_
   refine ko @jU_ ?_
   first|with_reducible refine ks [] @jU_ ?_|refine kp @jU_ ?_
   have hq:=x3_ hJ'
   have hle2:=aeW_ (Z5_ S (S.dir k).seen) hq
   rw[hs] at hle2
   have hpm:p∈ (S.dir k).seen.map (ptrN G.fb):=hnp.mem_iff.1 (hq.mem_iff.1 (List.mem_append_left _ (List.mem_append_right _ List.mem_cons_self)))
   obtain⟨⟨s,n⟩,hsn,rfl⟩:=List.mem_map.1 hpm
   have huf: ([ptrN G.fb (s,n)].map (Z5_ S (S.dir k).seen)).sum=(S.files.getD n qO_).data.length:=by
    show Z5_ S (S.dir k).seen (s,some (G.fb.getD n 0))+0=_
    unfold Z5_
    simp only[Jq_ (hP.ok.seen k hk3).nodup hsn,Nat.add_zero]
   rw[List.map_append,List.sum_append,huf] at hle2
   have hac2: ((dn2++ [ptrN G.fb (s,n)]).map (Z5_ S (S.dir k).seen)).sum=(dn2.map (Z5_ S (S.dir k).seen)).sum+ (S.files.getD n qO_).data.length:=by rw[List.map_append,List.sum_append,huf]
   have hfl:=hX _ _ (hP.file n (hP.ok.seenN k hk3 _ hsn))
   have hf1:=old _ _ hfl _ (show New w.heap.size ((bj,jt'):: (bi,it')::DG) from⟨hwj,hNi it'⟩)
   have hf2:=old _ _ hfl _ (hNi it')
   have hf3:=old _ _ hfl _ hN
   generalize (dn2.map (Z5_ S (S.dir k).seen)).sum=B at*
   refine Ow.entryMapG (encK:=vs) (encV:=qJ_) rfl rfl rfl (jz_ _ _ _ _) (old _ _ hso _ ⟨hwj,hNi it'⟩) hJ' ?_
   unfold ptrN at hJ' hac2 ⊢
   simp only at hJ' hac2 ⊢
   generalize G.fb.getD n 0=fbn at*
   generalize S.files.getD n qO_=fl at*
   refine ko (And.intro @jU_ (And.intro @hp' (And.intro @hf1 (And.intro @hf2 (@hf3))))) ?_
   first|with_reducible refine ks [] @jU_ ?_|refine kp @jU_ ?_
   exact Again.mk ⟨dn2++ [(s,some fbn)],lf2',jt',DX⟩ (by show lf2'.length<lf2.length;omega) hJ' rfl (by simp only[hac2,←Nat.add_assoc,Int.natCast_add];rfl)
end Go.Proofs
end
section
open Go Go.Proofs Go.Sx Go.StP
namespace Go.Proofs
set_option maxRecDepth 10000
set_option maxHeartbeats 400000
set_option linter.unusedSimpArgs false
def atD (S:DiskL) (dir name:List UInt8):Option Nat:=(zD_ dir).bind fun k=>zC_ (S.dir k).seen name
def zz_ (S:DiskL) (n:Nat):FileL:=S.files.getD n qO_
def J4_ (S:DiskL) (n:Nat) (f:FileL):DiskL:={S with files:=S.files.set n f}
def Xo_ (S:DiskL) (dir name:List UInt8):DiskL×Nat:=
 if jd_ S dir [name]≠0 then(S,jd_ S dir [name]) else match atD S dir name with
  |none=>(S,6)
  |some n=>if(zl_ S).2≠0 then zl_ S else(J4_ (zl_ S).1 n ⟨(zz_ S n).data,(zz_ S n).data.length⟩,0)
theorem jb_ (S:DiskL): (zl_ S).1.dir=S.dir∧(zl_ S).1.files=S.files∧(zl_ S).1.max=S.max:=by
 unfold zl_
 split
 ·exact⟨rfl,rfl,rfl⟩
 ·split
  ·exact⟨rfl,rfl,rfl⟩
  ·exact⟨rfl,rfl,rfl⟩
theorem xT_ {S:DiskL} (h:DkOk S):DkOk (zl_ S).1:=by
 obtain⟨h1,h2,h3⟩:=jb_ S
 refine⟨by rw[h1];exact h.seen,by rw[h1];exact h.stl,by rw[h1,h2];exact h.seenN,by rw[h1,h2];exact h.stlN,by rw[h1,h2];exact h.pendN,by rw[h2];exact h.file, ?_,by rw[h3];exact h.max⟩
 have hf:=h.fuse
 unfold zl_
 split
 ·exact hf
 ·split
  ·rename_i h4 h5
   have:=hf.2.2 h5
   have h6:S.fuse≠0:=fun e=>h4 ⟨h5,e⟩
   exact⟨by show _≤S.fuse - 1;omega,by show S.fuse - 1<_;omega,fun _=>by show 0≤S.fuse - 1;omega⟩
  ·exact hf
theorem ws_ {S:DiskL} (h:DkOk S) {n:Nat} {f:FileL} (hf:f.data.length≤1048576∧f.stl≤f.data.length):DkOk (J4_ S n f):=by
 refine⟨h.seen,h.stl,fun k hk p hp=>by show p.2< (S.files.set n f).length;rw[List.length_set];exact h.seenN k hk p hp,fun k hk p hp=>by show p.2< (S.files.set n f).length;rw[List.length_set];exact h.stlN k hk p hp,fun k hk c hc h0=>by show c.n< (S.files.set n f).length;rw[List.length_set];exact h.pendN k hk c hc h0,fun g hg=> ?_,h.fuse,h.max⟩
 rcases List.mem_or_eq_of_mem_set hg with hg|rfl
 ·exact h.file g hg
 ·exact hf
theorem vb_ {S:DiskL} (h:DkOk S) {n:Nat} (hn:n<S.files.length): (zz_ S n).data.length≤1048576∧(zz_ S n).stl≤ (zz_ S n).data.length:=by
 unfold zz_
 rw[List.getD_eq_getElem?_getD,List.getElem?_eq_getElem hn]
 exact h.file _ (List.getElem_mem hn)
set_option linter.defProp false
def xq_:=And.intro (And.intro (And.intro (And.intro (@zn_) (@zm_)) (And.intro (@qr_) (@kt_))) (And.intro (And.intro (@qL_) (@qG_)) (And.intro (@qH_) (@xU_)))) (And.intro (And.intro (And.intro (@xW_) (@Qo_)) (And.intro (@Qf_) (@agE_))) (And.intro (And.intro (@Ve_) (@akV_)) (And.intro (@ab1_) (And.intro (@Sx.tup2_0) (@Sx.tup2_1)))))
theorem af4_ (X:ze_) (G:DkG) (S:DiskL) (dir name:List UInt8) (w:World) (hX: ∀p,p∈X→w.heap[p.1]? =some p.2) (hn: (keys X).Nodup) (hP:DkP X G S) (hnm:name.length<1099511627776):
  Rets Tryz.prog 88 #[vp G.bd 0,vs dir,vs name] w (XS w X (fun v D=>v=vi ((Xo_ S dir name).2:Nat)∧DkP D G (Xo_ S dir name).1)):=by
 refine Rets.enterX Tryz.func88 rfl (rs:= [.tmp 6]) Tryz.results88 Tryz.ntmps88 hX hn ?_
 refine kf ?_
 first|with_reducible refine ks [] @xq_ ?_|refine kp @xq_ ?_
 refine Ow.buildSlice (e:=9) #[vs name] rfl rfl (by kernel_rfl) fun b1 hb1 hw1=> ?_
 have hP1:=hP.mono (X':=X++ [(b1,Obj.cells #[vs name] 9 (0,0))]) fun b o h=>zi_ h
 have hE1:=(Ext.refl w X).app (o:=Obj.cells #[vs name] 9 (0,0)) hw1
 have hm1: (b1,Obj.cells #[vs name] 9 (0,0))∈X++ [(b1,Obj.cells #[vs name] 9 (0,0))]:=by simp
 generalize X++ [(b1,Obj.cells #[vs name] 9 (0,0))]=L1 at*
 refine ko @xq_ ?_
 refine Ow.callC rfl rfl Tryz.call46 (fun w' hw'=>Rets.toX (jO_ w' G S dir (vsl b1 0 1 1) [name] (hP1.world hw') (ab2_ (hw'.has _ _ hm1)) (by simp) (by simpa using hnm))) (fun B2 v2 D2 hA2 hB2 hN2 hS2=> ?_)
 obtain⟨rfl,hS2⟩:=hS2
 rw[List.append_nil]
 clear hm1 hA2 hN2
 unfold Xo_ atD
 rcases hS2 with⟨he,rfl⟩ | ⟨he,k,hk,rfl⟩
 ·rw[if_pos he]
  have e1:=ju_ he
  refine ko @xq_ ?_
  first|with_reducible refine ks [] (And.intro @xq_ @e1) ?_|refine kp (And.intro @xq_ @e1) ?_
  refine⟨_,(ke @xq_), ?_⟩
  exact⟨hE1,rfl,hP1⟩
 ·rw[if_neg (by rw[he];simp),hk]
  have hk3:=(z3_ hk).1
  have hdr:=za_ (w0:=w) (hP1.dir k hk3)
  obtain⟨os,ms,hos,hms,hnp⟩:=hP1.seen k hk3
  have hso:=za_ (w0:=w) hos
  have e1: ((0:Int) !=0)=false:=rfl
  refine ko @xq_ ?_
  first|with_reducible refine ks [] (And.intro @xq_ (And.intro @e1 (@hdr))) ?_|refine kp (And.intro @xq_ (And.intro @e1 (@hdr))) ?_
  refine Ow.mapGetG (encK:=vs) (encV:=qJ_) (k:=name) (z:=none) rfl rfl Tryz.underlying68 jF_ zrPf rfl rfl hso hms ?_
  rw[hnp.get (hP.ok.seen k hk3).nodup]
  show Ow _ _ _ _ _ _ _ _
  cases hf:zC_ (S.dir k).seen name with
  |none=>
   have hf': (some k).bind (fun k=>zC_ (S.dir k).seen name)=none:=hf
   rw[hf']
   have hp0:qJ_ none= .pointer none:=rfl
   refine ko (And.intro @xq_ @hp0) ?_
   first|with_reducible refine ks [] @xq_ ?_|refine kp @xq_ ?_
   refine⟨_,(ke @xq_), ?_⟩
   exact⟨hE1,rfl,hP1⟩
  |some n=>
   have hf': (some k).bind (fun k=>zC_ (S.dir k).seen name)=some n:=hf
   rw[hf']
   have hnl:=hP.ok.seenN k hk3 _ (q1_ hf)
   have hp: ∀q:Nat,qJ_ (some q)=vp q 0:=fun _=>rfl
   have hbk:G.bd∈keys L1:=zg_ hP1.disk
   refine ko (And.intro @xq_ @hp) ?_
   first|with_reducible refine ks [] @xq_ ?_|refine kp @xq_ ?_
   refine Ow.callM rfl rfl Tryz.call73 hbk (fun w' hw'=>kB_ G.bd G.bm S w' hP.ok.fuse (hw'.has _ _ (zq_ hP1.disk))) ?_
   obtain⟨hb1,hb2,hb3⟩:=jb_ S
   have hP2:=hP1.setDisk (zl_ S).1 hb1 hb2 (xT_ hP.ok)
   have hE2:=hE1.setB (b:=G.bd) (o:=jr_ G.bm (zl_ S).1)
   generalize setB L1 G.bd (jr_ G.bm (zl_ S).1)=L2 at*
   by_cases hbn: (zl_ S).2=0
   ·have hlk:=hP2.file n (by rw[hb2];exact hnl)
    have hrd:=za_ (w0:=w) hlk
    have e2: (((zl_ S).2:Int) !=0)=false:=by rw[hbn];rfl
    rw[if_neg (by rw[hbn];simp)]
    have hfo:=vb_ hP.ok hnl
    have hP3:=hP2.setFile (n:=n) (by rw[hb2];exact hnl) ⟨(zz_ S n).data,(zz_ S n).data.length⟩ (ws_ (xT_ hP.ok) ⟨hfo.1,Nat.le_refl _⟩)
    have hfe: (zl_ S).1.files.getD n qO_=zz_ S n:=by rw[hb2];rfl
    rw[hfe] at hlk hrd
    refine ko (And.intro @xq_ @e2) ?_
    first|with_reducible refine ks [] (And.intro @xq_ (And.intro @hrd (@hlk))) ?_|refine kp (And.intro @xq_ (And.intro @hrd (@hlk))) ?_
    refine⟨_,(ke @xq_), ?_⟩
    exact⟨hE2.setB,rfl,hP3⟩
   ·have e2:=ju_ hbn
    rw[if_pos hbn]
    refine ko (And.intro @xq_ @e2) ?_
    first|with_reducible refine ks [] @xq_ ?_|refine kp @xq_ ?_
    refine⟨_,(ke @xq_), ?_⟩
    exact⟨hE2,rfl,hP2⟩
end Go.Proofs
end
section
open Go Go.Proofs Go.Sx Go.StP
namespace Go.Proofs
set_option maxRecDepth 10000
set_option maxHeartbeats 400000
set_option linter.unusedSimpArgs false
def vu_ (S:DiskL) (n:Nat) (s:List UInt8):Bool:=decide ((1048576:Int) - ((zz_ S n).data.length:Int)< (s.length:Int)) ||decide (S.max< (xO_ S:Int)) ||decide (S.max - (xO_ S:Int)< (s.length:Int))
def xH_ (S:DiskL) (dir name s:List UInt8):DiskL×Nat:=
 if jd_ S dir [name]≠0 then(S,jd_ S dir [name]) else match atD S dir name with
  |none=>(S,6)
  |some n=>if vu_ S n s=true then(S,8) else if(zl_ S).2≠0 then zl_ S else(J4_ (zl_ S).1 n ⟨(zz_ S n).data++s,(zz_ S n).stl⟩,0)
set_option linter.defProp false
def qE_:=And.intro (And.intro (And.intro (And.intro (@zn_) (@zm_)) (And.intro (@qr_) (@kt_))) (And.intro (And.intro (@qL_) (@qG_)) (And.intro (@qH_) (@xU_)))) (And.intro (And.intro (And.intro (@xW_) (@Qo_)) (And.intro (@Qf_) (@agE_))) (And.intro (And.intro (@Ve_) (@akV_)) (And.intro (@ab1_) (And.intro (@Sx.tup2_0) (@Sx.tup2_1)))))
theorem aaC_ (X:ze_) (G:DkG) (S:DiskL) (dir name s:List UInt8) (w:World) (hX: ∀p,p∈X→w.heap[p.1]? =some p.2) (hn: (keys X).Nodup) (hP:DkP X G S) (hnm:name.length<1099511627776) (hsl:s.length<1099511627776) (hu:xO_ S<4611686018427387904):
  Rets Tryz.prog 87 #[vp G.bd 0,vs dir,vs name,vs s] w (XS w X (fun v D=>v=vi ((xH_ S dir name s).2:Nat)∧DkP D G (xH_ S dir name s).1)):=by
 refine Rets.enterX Tryz.func87 rfl (rs:= [.tmp 8]) Tryz.results87 Tryz.ntmps87 hX hn ?_
 refine kf ?_
 first|with_reducible refine ks [] @qE_ ?_|refine kp @qE_ ?_
 refine Ow.buildSlice (e:=9) #[vs name] rfl rfl (by kernel_rfl) fun b1 hb1 hw1=> ?_
 have hP1:=hP.mono (X':=X++ [(b1,Obj.cells #[vs name] 9 (0,0))]) fun b o h=>zi_ h
 have hE1:=(Ext.refl w X).app (o:=Obj.cells #[vs name] 9 (0,0)) hw1
 have hm1: (b1,Obj.cells #[vs name] 9 (0,0))∈X++ [(b1,Obj.cells #[vs name] 9 (0,0))]:=by simp
 generalize X++ [(b1,Obj.cells #[vs name] 9 (0,0))]=L1 at*
 refine ko @qE_ ?_
 refine Ow.callC rfl rfl Tryz.call46 (fun w' hw'=>Rets.toX (jO_ w' G S dir (vsl b1 0 1 1) [name] (hP1.world hw') (ab2_ (hw'.has _ _ hm1)) (by simp) (by simpa using hnm))) (fun B2 v2 D2 hA2 hB2 hN2 hS2=> ?_)
 obtain⟨rfl,hS2⟩:=hS2
 rw[List.append_nil]
 clear hm1 hA2 hN2
 unfold xH_ atD
 rcases hS2 with⟨he,rfl⟩ | ⟨he,k,hk,rfl⟩
 ·rw[if_pos he]
  have e1:=ju_ he
  refine ko @qE_ ?_
  first|with_reducible refine ks [] (And.intro @qE_ @e1) ?_|refine kp (And.intro @qE_ @e1) ?_
  refine⟨_,(ke @qE_), ?_⟩
  exact⟨hE1,rfl,hP1⟩
 ·rw[if_neg (by rw[he];simp),hk]
  have hk3:=(z3_ hk).1
  have hdr:=za_ (w0:=w) (hP1.dir k hk3)
  obtain⟨os,ms,hos,hms,hnp⟩:=hP1.seen k hk3
  have hso:=za_ (w0:=w) hos
  have e1: ((0:Int) !=0)=false:=rfl
  refine ko @qE_ ?_
  first|with_reducible refine ks [] (And.intro @qE_ (And.intro @e1 (@hdr))) ?_|refine kp (And.intro @qE_ (And.intro @e1 (@hdr))) ?_
  refine Ow.mapGetG (encK:=vs) (encV:=qJ_) (k:=name) (z:=none) rfl rfl Tryz.underlying68 jF_ zrPf rfl rfl hso hms ?_
  rw[hnp.get (hP.ok.seen k hk3).nodup]
  show Ow _ _ _ _ _ _ _ _
  cases hf:zC_ (S.dir k).seen name with
  |none=>
   have hf': (some k).bind (fun k=>zC_ (S.dir k).seen name)=none:=hf
   rw[hf']
   have hp0:qJ_ none= .pointer none:=rfl
   refine ko (And.intro @qE_ @hp0) ?_
   first|with_reducible refine ks [] @qE_ ?_|refine kp @qE_ ?_
   refine⟨_,(ke @qE_), ?_⟩
   exact⟨hE1,rfl,hP1⟩
  |some n=>
   have hf': (some k).bind (fun k=>zC_ (S.dir k).seen name)=some n:=hf
   rw[hf']
   have hnl:n<S.files.length:=hP.ok.seenN k hk3 _ (q1_ hf)
   have hfo:=vb_ hP.ok hnl
   have hp: ∀q:Nat,qJ_ (some q)=vp q 0:=fun _=>rfl
   have hbk:G.bd∈keys L1:=zg_ hP1.disk
   have hrf:=za_ (w0:=w) (hP1.file n hnl)
   have hrb:=za_ (w0:=w) hP1.disk
   have hrf':zy_ w L1 (G.fb.getD n 0)=some (xF_ (zz_ S n)):=hrf
   have hmx:=hP.ok.max
   refine ko (And.intro @qE_ @hp) ?_
   first|with_reducible refine ks [] @qE_ ?_|refine kp @qE_ ?_
   refine Cw.regionS [G.fb.getD n 0,G.bd] [0,1,2,3,4,5,6,7,8,9,10,12,13,14,15,11,16,17,18,19,20,21,22,23,25,24,26,27,28,29,30] [] (by kernel_rfl) (by kernel_rfl) (by kernel_rfl) ?_
   simp only[zj_, ↓zf_, ↓zc_, ↓zw_, ↓zv_,zd_]
   cases h1:decide ((1048576:Int) - ((zz_ S n).data.length:Int)< (s.length:Int)) with
   |true=>
    refine kq (And.intro @qE_ (And.intro @hrf' (And.intro @hrb (@h1)))) ?_
    have hF:vu_ S n s=true:=by unfold vu_;rw[h1];simp
    rw[if_pos hF]
    try with_reducible refine Ow.nil ?_
    first|with_reducible refine ks [] @qE_ ?_|refine kp @qE_ ?_
    refine⟨_,(ke @qE_), ?_⟩
    exact⟨hE1,rfl,hP1⟩
   |false=>
    refine kq (And.intro @qE_ (And.intro @hrf' (And.intro @hrb (@h1)))) ?_
    refine Ow.soft rfl rfl rfl ?_
    refine Ow.callFV rfl Tryz.call41 (fun w' hw'=>Qm_ w' G S (hP1.world hw') hu) ?_
    with_reducible refine Ow.nil ?_
    refine⟨by intro b hb;simp only[List.mem_cons,List.not_mem_nil,or_false] at hb;(try subst hb);rfl, ?_⟩
    cases h2:decide (S.max< (xO_ S:Int)) with
    |true=>
     refine kq (And.intro @qE_ (And.intro @hrb (@h2))) ?_
     have hF:vu_ S n s=true:=by unfold vu_;rw[h2];simp
     rw[if_pos hF]
     try with_reducible refine Ow.nil ?_
     first|with_reducible refine ks [] @qE_ ?_|refine kp @qE_ ?_
     refine⟨_,(ke @qE_), ?_⟩
     exact⟨hE1,rfl,hP1⟩
    |false=>
     have h2':=of_decide_eq_false h2
     refine kq (And.intro @qE_ (And.intro @hrb (@h2))) ?_
     refine Ow.soft rfl rfl rfl ?_
     refine Ow.callFV rfl Tryz.call41 (fun w' hw'=>Qm_ w' G S (hP1.world hw') hu) ?_
     with_reducible refine Ow.nil ?_
     refine⟨by intro b hb;simp only[List.mem_cons,List.not_mem_nil,or_false] at hb;(try subst hb);rfl, ?_⟩
     cases h3:decide (S.max - (xO_ S:Int)< (s.length:Int)) with
     |true=>
      refine kq (And.intro @qE_ (And.intro @hrb (@h3))) ?_
      have hF:vu_ S n s=true:=by unfold vu_;rw[h3];simp
      rw[if_pos hF]
      try with_reducible refine Ow.nil ?_
      first|with_reducible refine ks [] @qE_ ?_|refine kp @qE_ ?_
      refine⟨_,(ke @qE_), ?_⟩
      exact⟨hE1,rfl,hP1⟩
     |false=>
      have hF:vu_ S n s=false:=by unfold vu_;rw[h1,h2,h3];rfl
      rw[if_neg (by rw[hF];simp)]
      have h1':=of_decide_eq_false h1
      refine kq (And.intro @qE_ (And.intro @hrb (@h3))) ?_
      try with_reducible refine Ow.nil ?_
      first|with_reducible refine ks [] @qE_ ?_|refine kp @qE_ ?_
      refine Ow.callM rfl rfl Tryz.call73 hbk (fun w' hw'=>kB_ G.bd G.bm S w' hP.ok.fuse (hw'.has _ _ (zq_ hP1.disk))) ?_
      obtain⟨hb1,hb2,hb3⟩:=jb_ S
      have hP2:=hP1.setDisk (zl_ S).1 hb1 hb2 (xT_ hP.ok)
      have hE2:=hE1.setB (b:=G.bd) (o:=jr_ G.bm (zl_ S).1)
      generalize setB L1 G.bd (jr_ G.bm (zl_ S).1)=L2 at*
      by_cases hbn: (zl_ S).2=0
      ·have hlk:=hP2.file n (by rw[hb2];exact hnl)
       have hrd:=za_ (w0:=w) hlk
       have e2: (((zl_ S).2:Int) !=0)=false:=by rw[hbn];rfl
       rw[if_neg (by rw[hbn];simp)]
       have hP3:=hP2.setFile (n:=n) (by rw[hb2];exact hnl) ⟨(zz_ S n).data++s,(zz_ S n).stl⟩ (ws_ (xT_ hP.ok) ⟨by simp only[List.length_append];omega,by simp only[List.length_append];omega⟩)
       have hfe: (zl_ S).1.files.getD n qO_=zz_ S n:=by rw[hb2];rfl
       rw[hfe] at hlk hrd
       refine ko (And.intro @qE_ @e2) ?_
       first|with_reducible refine ks [] (And.intro @qE_ (And.intro @hrd (@hlk))) ?_|refine kp (And.intro @qE_ (And.intro @hrd (@hlk))) ?_
       refine⟨_,(ke @qE_), ?_⟩
       exact⟨hE2.setB,rfl,hP3⟩
      ·have e2:=ju_ hbn
       rw[if_pos hbn]
       refine ko (And.intro @qE_ @e2) ?_
       first|with_reducible refine ks [] @qE_ ?_|refine kp @qE_ ?_
       refine⟨_,(ke @qE_), ?_⟩
       exact⟨hE2,rfl,hP2⟩
end Go.Proofs
end
section
open Go Go.Proofs Go.Sx Go.StP
namespace Go.Proofs
set_option maxRecDepth 10000
set_option maxHeartbeats 400000
set_option linter.unusedSimpArgs false
structure Only (X D:ze_) (bs:Nat) (o:Obj):Prop where
 keys:Sx.keys D=Sx.keys X
 at_:Sx.look D bs=some o
 rest: ∀b,b≠bs→Sx.look D b=Sx.look X b
theorem Only.set {X:ze_} {bs:Nat} {o o':Obj} (h:Sx.look X bs=some o):Only X (setB X bs o') bs o':=⟨zU_ _ _ _,zB_ h,fun _ hb=>zb_ (Ne.symm hb)⟩
theorem Only.trans {X D D':ze_} {bs:Nat} {o o':Obj} (h:Only X D bs o) (h':Only D D' bs o'):Only X D' bs o':=⟨h'.keys.trans h.keys,h'.at_,fun b hb=>(h'.rest b hb).trans (h.rest b hb)⟩
theorem aaG_ (s:List UInt8) (n:Nat):zk_ (some (false,n)) (some (kV_ s)) 0=some (vs s):=(rfl)
theorem ak1_ (b:Nat) (n:Nat):zk_ (some (false,n)) (some (KV_ b)) 0=some (vp b 0):=(rfl)
set_option linter.defProp false
def wE_:=And.intro (And.intro (@zn_) (@zm_)) (And.intro (@aaG_) (@ak1_))
theorem VY_ (X:ze_) (b1 b2 bs fbn:Nat) (a:List UInt8) (o:Obj) (m:List (List UInt8×Option Nat)) (w:World) (hX: ∀p,p∈X→w.heap[p.1]? =some p.2) (hn: (keys X).Nodup)
  (h1:Sx.look X b1=some (KV_ fbn)) (h2:Sx.look X b2=some (kV_ a)) (hs:Sx.look X bs=some o) (hm:wB_ vs qJ_ o m):
  Rets Tryz.prog 133 #[vm bs,vp b1 0,vp b2 0] w (XS w X (fun v D=>v=kD_ []∧ ∃o',Only X D bs o'∧wB_ vs qJ_ o' (updG a (some fbn) m))):=by
 have r1:=za_ (w0:=w) h1
 have r2:=za_ (w0:=w) h2
 refine Rets.enterX Tryz.func133 rfl (rs:= []) Tryz.results133 Tryz.ntmps133 hX hn ?_
 refine kf ?_
 first|with_reducible refine ks [] (And.intro @wE_ (And.intro @r1 (@r2))) ?_|refine kp (And.intro @wE_ (And.intro @r1 (@r2))) ?_
 refine Ow.mapUpdateG (encK:=vs) (encV:=qJ_) (k:=a) (v:=some fbn) rfl rfl Tryz.underlying68 jF_ rfl rfl rfl hs hm (fun o' hm'=> ?_)
 refine ko @wE_ ?_
 refine⟨_,(ke @wE_), ?_⟩
 exact⟨(Ext.refl w X).setB,rfl,o',Only.set hs,hm'⟩
theorem Vz_ (X:ze_) (b1 bs:Nat) (a:List UInt8) (o:Obj) (m:List (List UInt8×Option Nat)) (w:World) (hX: ∀p,p∈X→w.heap[p.1]? =some p.2) (hn: (keys X).Nodup)
  (h1:Sx.look X b1=some (kV_ a)) (hs:Sx.look X bs=some o) (hm:wB_ vs qJ_ o m):
  Rets Tryz.prog 90 #[vm bs,vp b1 0] w (XS w X (fun v D=>v=kD_ []∧ ∃o',Only X D bs o'∧wB_ vs qJ_ o' (delG a m))):=by
 have r1:=za_ (w0:=w) h1
 refine Rets.enterX Tryz.func90 rfl (rs:= []) Tryz.results90 Tryz.ntmps90 hX hn ?_
 refine kf ?_
 first|with_reducible refine ks [] (And.intro @wE_ @r1) ?_|refine kp (And.intro @wE_ @r1) ?_
 refine Ow.mapDeleteG (encK:=vs) (encV:=qJ_) (k:=a) rfl rfl Tryz.underlying68 jF_ rfl rfl hs hm (fun o' hm'=> ?_)
 refine ko @wE_ ?_
 refine⟨_,(ke @wE_), ?_⟩
 exact⟨(Ext.refl w X).setB,rfl,o',Only.set hs,hm'⟩
theorem abY_ (X:ze_) (b1 b2 bs:Nat) (a b:List UInt8) (o:Obj) (m:List (List UInt8×Option Nat)) (w:World) (hX: ∀p,p∈X→w.heap[p.1]? =some p.2) (hn: (keys X).Nodup)
  (h1:Sx.look X b1=some (kV_ a)) (h2:Sx.look X b2=some (kV_ b)) (hs:Sx.look X bs=some o) (hm:wB_ vs qJ_ o m):
  Rets Tryz.prog 112 #[vm bs,vp b1 0,vp b2 0] w (XS w X (fun v D=>v=kD_ []∧ ∃o',Only X D bs o'∧wB_ vs qJ_ o' (delG a (updG b (getG a none m) m)))):=by
 have r1:=za_ (w0:=w) h1
 have r2:=za_ (w0:=w) h2
 refine Rets.enterX Tryz.func112 rfl (rs:= []) Tryz.results112 Tryz.ntmps112 hX hn ?_
 refine kf ?_
 first|with_reducible refine ks [] (And.intro @wE_ (And.intro @r1 (@r2))) ?_|refine kp (And.intro @wE_ (And.intro @r1 (@r2))) ?_
 refine Ow.mapGetG (encK:=vs) (encV:=qJ_) (k:=a) (z:=none) rfl rfl Tryz.underlying68 jF_ zrPf rfl rfl (za_ hs) hm ?_
 refine ko @wE_ ?_
 refine Ow.mapUpdateG (encK:=vs) (encV:=qJ_) (k:=b) (v:=getG a none m) rfl rfl Tryz.underlying68 jF_ rfl rfl rfl hs hm (fun o1 hm1=> ?_)
 have ho1:Only X (setB X bs o1) bs o1:=Only.set hs
 have hne:b1≠bs:=by
  rintro rfl
  rw[hs] at h1;cases h1
  obtain⟨es,c,h,-⟩:=hm;cases h
 have r3:=za_ (w0:=w) ((ho1.rest b1 hne).trans h1)
 have hE:=(Ext.refl w X).setB (b:=bs) (o:=o1)
 generalize setB X bs o1=L1 at*
 refine ko @wE_ ?_
 first|with_reducible refine ks [] (And.intro @wE_ @r3) ?_|refine kp (And.intro @wE_ @r3) ?_
 refine Ow.mapDeleteG (encK:=vs) (encV:=qJ_) (k:=a) rfl rfl Tryz.underlying68 jF_ rfl rfl ho1.at_ hm1 (fun o' hm'=> ?_)
 refine ko @wE_ ?_
 refine⟨_,(ke @wE_), ?_⟩
 exact⟨hE.setB,rfl,o',ho1.trans (Only.set ho1.at_),hm'⟩
end Go.Proofs
end
section
open Go Go.Proofs Go.Sx Go.StP
namespace Go.Proofs
set_option maxRecDepth 10000
set_option maxHeartbeats 400000
set_option linter.unusedSimpArgs false
def okC (l:NmL) (c:CallL):Prop:=c.kind=1→zC_ l c.a≠none∧c.a≠c.b
theorem NmP.ren {fb:List Nat} {l:NmL} {m:List (List UInt8×Option Nat)} (h:NmP fb l m) (hs:SrtN l) {a b:List UInt8} {n:Nat} (hab:a≠b):NmP fb (XY_ (qC_ l a) (b,n)) (delG a (updG b (some (fb.getD n 0)) m)):=by
 have h1:=h.put hs.nodup b n
 have h2:=h1.wipe (Q7_ (b,n) hs).nodup a
 refine h2.trans (List.Perm.map _ ?_)
 unfold XY_
 refine(List.Perm.filter _ (xe_ (b,n) (qC_ l b))).trans ?_
 refine List.Perm.trans ?_ (xe_ (b,n) (qC_ (qC_ l a) b)).symm
 have e: (a==b)=false:=beq_eq_false_iff_ne.2 hab
 rw[List.filter_cons]
 simp only[e,Bool.not_false, ↓reduceIte]
 unfold qC_
 rw[List.filter_filter,List.filter_filter]
 refine List.Perm.cons _ (List.Perm.of_eq (List.filter_congr fun p _=>Bool.and_comm _ _))
theorem Wg_ {l:NmL} (c:CallL) (h:SrtN l):SrtN (qo_ l c):=by
 unfold qo_
 split
 ·exact Q7_ _ h
 ·exact Q7_ _ (XK_ _ h)
 ·exact XK_ _ h
theorem Jy_ {X:ze_} {fb:List Nat} {v:Value} {c:CallL} {bs:Nat} {l:NmL} (hv:FnP X fb v c) (hN:NmM X fb bs l) (hs:SrtN l) (hok:okC l c):
  ∃k cap,v= .func (.func k) #[] cap∧(∀a w,(callFunc k a).run Tryz.prog w= .ok (.enter k a) w)∧ ∀w,(∀p,p∈X→w.heap[p.1]? =some p.2)→(keys X).Nodup→Rets Tryz.prog k (#[vm bs]++cap) w (XS w X (fun r D=>r=kD_ []∧ ∃o',Only X D bs o'∧NmM D fb bs (qo_ l c))):=by
 obtain⟨o,m,ho,hm,hp⟩:=hN
 unfold FnP at hv
 split at hv
 ·rename_i hk
  obtain⟨b1,b2,rfl,h1,h2⟩:=hv
  refine⟨_,_,rfl,Tryz.call133,fun w hX hn=>Rets.mono (VY_ X b1 b2 bs _ c.a o m w hX hn h1 h2 ho hm) ?_⟩
  rintro r D ⟨hE,hr,o',hO,hm'⟩
  refine⟨hE,hr,o',hO,o',_,hO.at_,hm', ?_⟩
  unfold qo_
  rw[hk]
  exact hp.put hs.nodup c.a c.n
 ·rename_i hk
  obtain⟨b1,b2,rfl,h1,h2⟩:=hv
  obtain⟨hf,hab⟩:=hok hk
  refine⟨_,_,rfl,Tryz.call112,fun w hX hn=>Rets.mono (abY_ X b1 b2 bs c.a c.b o m w hX hn h1 h2 ho hm) ?_⟩
  rintro r D ⟨hE,hr,o',hO,hm'⟩
  refine⟨hE,hr,o',hO,o',_,hO.at_,hm', ?_⟩
  unfold qo_
  rw[hk,hp.get hs.nodup]
  cases e:zC_ l c.a with
  |none=>exact absurd e hf
  |some n=>exact hp.ren hs hab
 ·rename_i h0 h1'
  obtain⟨b1,rfl,h1⟩:=hv
  refine⟨_,_,rfl,Tryz.call90,fun w hX hn=>Rets.mono (Vz_ X b1 bs c.a o m w hX hn h1 ho hm) ?_⟩
  rintro r D ⟨hE,hr,o',hO,hm'⟩
  refine⟨hE,hr,o',hO,o',_,hO.at_,hm', ?_⟩
  have e:qo_ l c=qC_ l c.a:=by
   unfold qo_
   split
   ·rename_i e;exact absurd e h0
   ·rename_i e;exact absurd e h1'
   ·rfl
  rw[e]
  exact hp.wipe hs.nodup c.a
end Go.Proofs
end
section
open Go Go.Proofs Go.Sx Go.StP
namespace Go.Proofs
set_option maxRecDepth 10000
set_option maxHeartbeats 400000
set_option linter.unusedSimpArgs false
theorem XE_ {α:Type} {a b:List α} (z:α) (k:Nat) (h:k<a.length): (a++b).getD k z=a.getD k z:=by
 rw[List.getD_eq_getElem?_getD,List.getElem?_append_left h,←List.getD_eq_getElem?_getD]
theorem Z0_ {α:Type} {a:List α} (z x:α) {k:Nat} (h:a.length=k): (a++ [x]).getD k z=x:=by
 subst h
 rw[List.getD_eq_getElem?_getD,List.getElem?_append_right (Nat.le_refl _),Nat.sub_self];rfl
def setP (G:DkG) (k:Nat) (v:Value):DkG:={G with p:=fun j=>if j=k then v else G.p j}
theorem Jc_ {l:NmL} {c:CallL} {n:Nat} (hl: ∀p,p∈l→p.2<n) (hok:okC l c) (hc:c.kind=0→c.n<n): ∀p,p∈qo_ l c→p.2<n:=by
 intro p hp
 have hput: ∀ {l:NmL} {x:List UInt8×Nat},(∀p,p∈l→p.2<n)→x.2<n→p∈XY_ l x→p.2<n:=by
  intro l x h1 h2 h3
  rcases List.mem_cons.1 ((xe_ x (qC_ l x.1)).mem_iff.1 h3) with rfl|h3
  ·exact h2
  ·exact h1 _ ((List.mem_filter.1 h3).1)
 unfold qo_ at hp
 split at hp
 ·rename_i hk;exact hput hl (hc hk) hp
 ·rename_i hk
  refine hput (fun q hq=>hl q ((List.mem_filter.1 hq).1)) ?_ hp
  cases e:zC_ l c.a with
  |none=>exact absurd e (hok hk).1
  |some m=>
   have:=hl _ (q1_ e)
   exact this
 ·exact hl _ ((List.mem_filter.1 hp).1)
theorem kJ_ {S:DiskL} (h:DkOk S) {k:Nat} (d:DirL) (h1:SrtN d.seen) (h2:SrtN d.stl) (h3: ∀p,p∈d.seen→p.2<S.files.length) (h4: ∀p,p∈d.stl→p.2<S.files.length) (h5: ∀c,c∈d.pend→c.kind=0→c.n<S.files.length):DkOk (z4_ S k d):=by
 refine⟨fun j hj=> ?_,fun j hj=> ?_,fun j hj=> ?_,fun j hj=> ?_,fun j hj=> ?_,h.file,h.fuse,h.max⟩<;>unfold z4_<;>simp only<;>by_cases e:j=k
 ·rw[if_pos e];exact h1
 ·rw[if_neg e];exact h.seen j hj
 ·rw[if_pos e];exact h2
 ·rw[if_neg e];exact h.stl j hj
 ·rw[if_pos e];exact h3
 ·rw[if_neg e];exact h.seenN j hj
 ·rw[if_pos e];exact h4
 ·rw[if_neg e];exact h.stlN j hj
 ·rw[if_pos e];exact h5
 ·rw[if_neg e];exact h.pendN j hj
theorem vY_ {G:DkG} (h: [G.s 0,G.s 1,G.s 2,G.t 0,G.t 1,G.t 2].Nodup) {i j:Nat} (hi:i<3) (hj:j<3): (i≠j→G.s i≠G.s j)∧(i≠j→G.t i≠G.t j)∧G.s i≠G.t j:=by
 simp only[List.nodup_cons,List.mem_cons,List.not_mem_nil,not_or,or_false,List.nodup_nil,and_true,not_false_eq_true] at h
 have a:i=0∨i=1∨i=2:=by omega
 have b:j=0∨j=1∨j=2:=by omega
 rcases a with rfl|rfl|rfl<;>rcases b with rfl|rfl|rfl<;>refine⟨fun hne=> ?_,fun hne=> ?_, ?_⟩<;>first|omega| (exact absurd rfl hne)
theorem anM_ {G:DkG} (h: [G.d 0,G.d 1,G.d 2].Nodup) {i j:Nat} (hi:i<3) (hj:j<3):i≠j→G.d i≠G.d j:=by
 simp only[List.nodup_cons,List.mem_cons,List.not_mem_nil,not_or,or_false,List.nodup_nil,and_true,not_false_eq_true] at h
 have a:i=0∨i=1∨i=2:=by omega
 have b:j=0∨j=1∨j=2:=by omega
 rcases a with rfl|rfl|rfl<;>rcases b with rfl|rfl|rfl<;>intro hne<;>first|omega| (exact absurd rfl hne)
structure DkP.Turn (X L:ze_) (G:DkG) (k:Nat):Prop where
 keep: ∀b o,Sx.look X b=some o→b≠G.s k→b≠G.d k→slB (G.p k)≠some b→Sx.look L b=some o
theorem DkP.turn {X L:ze_} {G:DkG} {S:DiskL} (h:DkP X G S) {k:Nat} (hk:k<3) {c:CallL} {v v2:Value} {vals:List Value} (hT:DkP.Turn X L G k)
  (hs:NmM L G.fb (G.s k) (qo_ (S.dir k).seen c)) (hd:Sx.look L (G.d k)=some (xv_ (G.s k) (G.t k) v2)) (hv:vals.length=(S.dir k).pend.length)
  (hF: ∀i,i<vals.length→FnP X G.fb (vals.getD i undef) ((S.dir k).pend.getD i vK_)) (hGo:Gr X 102 1 (G.p k) vals.length vals)
  (hGr:Gr L 102 1 v2 (vals.length+1) (vals++ [v])) (hFv:FnP X G.fb v c) (hsl:slB v2=slB (G.p k)∨ ∃b,slB v2=some b∧b∉keys X) (hok:okC (S.dir k).seen c) (hcn:c.kind=0→c.n<S.files.length):
  DkP L (setP G k v2) (z4_ S k ⟨qo_ (S.dir k).seen c,(S.dir k).stl,(S.dir k).pend++ [c]⟩):=by
 have hpk: ∀b o,Sx.look X b=some o→tyO o≠some 102→slB (G.p k)≠some b:=by
  intro b o hb ht e
  obtain⟨arr,ha⟩:=x0_ hGo e
  rw[hb] at ha;cases ha;exact ht rfl
 obtain⟨osk,msk,hosk,hmsk,-⟩:=h.seen k hk
 have hns: ∀b o,Sx.look X b=some o→tyO o≠none→b≠G.s k:=by
  rintro b o hb ht rfl
  rw[hosk] at hb;cases hb;exact ht (qK_ hmsk)
 have hnd: ∀b o,Sx.look X b=some o→tyO o≠some 71→b≠G.d k:=by
  rintro b o hb ht rfl
  rw[h.dir k hk] at hb;cases hb;exact ht rfl
 have K: ∀b o,Sx.look X b=some o→tyO o≠none→tyO o≠some 71→tyO o≠some 102→Sx.look L b=some o:=fun b o hb h1 h2 h3=>hT.keep b o hb (hns b o hb h1) (hnd b o hb h2) (hpk b o hb h3)
 have KM: ∀b o,Sx.look X b=some o→tyO o=none→b≠G.s k→Sx.look L b=some o:=fun b o hb h1 h2=>hT.keep b o hb h2 (hnd b o hb (by rw[h1];intro e;cases e)) (hpk b o hb (by rw[h1];intro e;cases e))
 have KF: ∀ {w c},FnP X G.fb w c→FnP L G.fb w c:=fun hw=>hw.keep fun b o hb hx=>K b o hb (by rcases hx with⟨s,rfl⟩ | ⟨a,rfl⟩<;>simp[tyO,kV_,KV_]) (by rcases hx with⟨s,rfl⟩ | ⟨a,rfl⟩<;>simp[tyO,kV_,KV_]) (by rcases hx with⟨s,rfl⟩ | ⟨a,rfl⟩<;>simp[tyO,kV_,KV_])
 refine⟨?_, ?_, ?_, ?_, ?_, ?_, ?_,h.len,h.nodf,h.nodm,h.nodd,h.nodb, ?_, ?_⟩
 ·exact K _ _ h.disk (by simp[tyO,jr_]) (by simp[tyO,jr_]) (by simp[tyO,jr_])
 ·obtain⟨o,h1,h2⟩:=h.dirs
  exact⟨o,KM _ _ h1 (qK_ h2) (h.nodb k hk).1,h2⟩
 ·intro j hj
  by_cases e:j=k
  ·subst e
   show Sx.look L (G.d j)=some (xv_ (G.s j) (G.t j) (if j=j then v2 else G.p j))
   rw[if_pos rfl];exact hd
  ·show Sx.look L (G.d j)=some (xv_ (G.s j) (G.t j) (if j=k then v2 else G.p j))
   rw[if_neg e]
   exact hT.keep _ _ (h.dir j hj) (hns _ _ (h.dir j hj) (by simp[tyO,xv_])) (anM_ h.nodd hj hk e) (hpk _ _ (h.dir j hj) (by simp[tyO,xv_]))
 ·intro j hj
  show NmM L G.fb (G.s j) (if j=k then _ else S.dir j).seen
  by_cases e:j=k
  ·subst e;rw[if_pos rfl];exact hs
  ·rw[if_neg e]
   obtain⟨o,m,h1,h2,h3⟩:=h.seen j hj
   exact⟨o,m,KM _ _ h1 (qK_ h2) ((vY_ h.nodm hj hk).1 e),h2,h3⟩
 ·intro j hj
  show NmM L G.fb (G.t j) (if j=k then _ else S.dir j).stl
  have e2: (if j=k then⟨qo_ (S.dir k).seen c,(S.dir k).stl,(S.dir k).pend++ [c]⟩ else S.dir j:DirL).stl=(S.dir j).stl:=by
   by_cases e:j=k
   ·subst e;rw[if_pos rfl]
   ·rw[if_neg e]
  rw[e2]
  obtain⟨o,m,h1,h2,h3⟩:=h.stl j hj
  exact⟨o,m,KM _ _ h1 (qK_ h2) (Ne.symm (vY_ h.nodm hk hj).2.2),h2,h3⟩
 ·intro j hj
  by_cases e:j=k
  ·subst e
   refine⟨vals++ [v], ?_, ?_, ?_⟩
   ·show(vals++ [v]).length=(if j=j then _ else S.dir j:DirL).pend.length
    rw[if_pos rfl,List.length_append,List.length_append,hv];rfl
   ·show Gr L _ 1 (if j=j then v2 else G.p j) (vals++ [v]).length (vals++ [v])
    rw[if_pos rfl,List.length_append];exact hGr
   ·intro i hi
    show FnP L G.fb ((vals++ [v]).getD i undef) ((if j=j then _ else S.dir j:DirL).pend.getD i vK_)
    rw[if_pos rfl]
    rw[List.length_append,List.length_singleton] at hi
    by_cases ei:i=vals.length
    ·subst ei
     rw[Z0_ _ _ rfl,Z0_ _ _ hv.symm]
     exact KF hFv
    ·rw[XE_ _ _ (by omega),XE_ _ _ (by omega)]
     exact KF (hF i (by omega))
  ·obtain⟨vj,h1,h2,h3⟩:=h.pend j hj
   refine⟨vj, ?_, ?_, ?_⟩
   ·show vj.length=(if j=k then _ else S.dir j:DirL).pend.length
    rw[if_neg e];exact h1
   ·show Gr L _ 1 (if j=k then v2 else G.p j) vj.length vj
    rw[if_neg e]
    refine h2.keep fun b o hb ho=> ?_
    obtain⟨arr,ha⟩:=x0_ h2 hb
    rw[ho] at ha;cases ha
    exact hT.keep _ _ ho (hns _ _ ho (by simp[tyO])) (hnd _ _ ho (by simp[tyO])) (h.nodp j k hj hk e b hb)
   ·intro i hi
    show FnP L G.fb (vj.getD i undef) ((if j=k then _ else S.dir j:DirL).pend.getD i vK_)
    rw[if_neg e]
    exact KF (h3 i hi)
 ·intro n hn
  exact K _ _ (h.file n hn) (by simp[tyO,xF_]) (by simp[tyO,xF_]) (by simp[tyO,xF_])
 ·intro i j hi hj hij b hb
  have key: ∀j,j<3→ ∀b,slB (G.p j)=some b→b∈keys X:=fun j hj b hb=>by
   obtain⟨vj,-,h2,-⟩:=h.pend j hj
   obtain⟨arr,ha⟩:=x0_ h2 hb
   exact zg_ ha
  show slB (if j=k then v2 else G.p j)≠some b
  have hb':slB (if i=k then v2 else G.p i)=some b:=hb
  by_cases ei:i=k
  ·subst ei
   rw[if_pos rfl] at hb'
   rw[if_neg (Ne.symm hij)]
   rcases hsl with e| ⟨b',e,hb2⟩
   ·exact h.nodp i j hi hj hij b (by rw[←e];exact hb')
   ·rw[e] at hb';cases hb'
    exact fun h'=>hb2 (key j hj _ h')
  ·rw[if_neg ei] at hb'
   by_cases ej:j=k
   ·subst ej
    rw[if_pos rfl]
    rcases hsl with e| ⟨b',e,hb2⟩
    ·rw[e];exact h.nodp i j hi hj hij b hb'
    ·rw[e]
     intro h';cases h'
     exact hb2 (key i hi _ hb')
   ·rw[if_neg ej];exact h.nodp i j hi hj hij b hb'
 ·exact kJ_ h.ok _ (Wg_ c (h.ok.seen k hk)) (h.ok.stl k hk) (Jc_ (h.ok.seenN k hk) hok hcn) (h.ok.stlN k hk) (fun d hd h0=>by
   rcases List.mem_append.1 hd with hd|hd
   ·exact h.ok.pendN k hk d hd h0
   ·rw[List.mem_singleton.1 hd] at h0 ⊢;exact hcn h0)
end Go.Proofs
end
section
open Go Go.Proofs Go.Sx Go.StP
namespace Go.Proofs
set_option maxRecDepth 10000
set_option maxHeartbeats 400000
set_option linter.unusedSimpArgs false
def w2_ (S:DiskL) (k:Nat) (c:CallL):DiskL:=z4_ S k ⟨qo_ (S.dir k).seen c,(S.dir k).stl,(S.dir k).pend++ [c]⟩
theorem Qd_ (a b:Nat) (v q:Value) (x:Bool) (hq:Value.oneCell' q=true∧q.cells= #[q]):zu_ (some (x,1)) (some (xv_ a b v)) 2 q=some (xv_ a b q):=zt_ [vm a,vm b] [v] [q] [] x _ 71 rfl rfl hq.2 rfl (by simp[hq.1])
set_option linter.defProp false
def wb_:=And.intro (And.intro (@zn_) (And.intro (@zm_) (@qr_))) (And.intro (And.intro (@kt_) (@qL_)) (And.intro (@qG_) (@qH_)))
theorem wQ_ (X:ze_) (G:DkG) (S:DiskL) (k:Nat) (c:CallL) (v:Value) (w:World) (hX: ∀p,p∈X→w.heap[p.1]? =some p.2) (hn: (keys X).Nodup) (hP:DkP X G S) (hk:k<3) (hv:FnP X G.fb v c) (hok:okC (S.dir k).seen c) (hcn:c.kind=0→c.n<S.files.length) (hpl: (S.dir k).pend.length<1000000):
  Rets Tryz.prog 64 #[vp G.bd 0,vp (G.d k) 0,v] w (XS w X (fun r D=>r=vi ((zl_ S).2:Nat)∧if(zl_ S).2≠0 then D=setB X G.bd (jr_ G.bm (zl_ S).1) else∃v2,DkP D (setP G k v2) (w2_ (zl_ S).1 k c))):=by
 obtain⟨fk,cap,rfl,-,-⟩:=Jy_ hv (hP.seen k hk) (hP.ok.seen k hk) hok
 refine Rets.enterX Tryz.func64 rfl (rs:= [.tmp 6]) Tryz.results64 Tryz.ntmps64 hX hn ?_
 refine kf ?_
 first|with_reducible refine ks [] @wb_ ?_|refine kp @wb_ ?_
 refine Ow.callM rfl rfl Tryz.call73 (zg_ hP.disk) (fun w' hw'=>kB_ G.bd G.bm S w' hP.ok.fuse (hw'.has _ _ (zq_ hP.disk))) ?_
 obtain⟨hb1,hb2,hb3⟩:=jb_ S
 have hP1:=hP.setDisk (zl_ S).1 hb1 hb2 (xT_ hP.ok)
 have hE1:=(Ext.refl w X).setB (b:=G.bd) (o:=jr_ G.bm (zl_ S).1)
 have hv1:FnP (setB X G.bd (jr_ G.bm (zl_ S).1)) G.fb (.func (.func fk) #[] cap) c:=hv.keep fun b o ho hx=>qc_ hP.disk ho (by rcases hx with⟨s,rfl⟩ | ⟨a,rfl⟩<;>simp[tyO,jr_,kV_,KV_])
 generalize hL1:setB X G.bd (jr_ G.bm (zl_ S).1)=L1 at*
 by_cases hbn: (zl_ S).2=0
 ·have e2: (((zl_ S).2:Int) !=0)=false:=by rw[hbn];rfl
  have hsk:SrtN ((zl_ S).1.dir k).seen:=hP1.ok.seen k hk
  have hok1:okC ((zl_ S).1.dir k).seen c:=by rw[hb1];exact hok
  obtain⟨fk',cap',he,hfk,hcall⟩:=Jy_ hv1 (hP1.seen k hk) hsk hok1
  cases he
  have hdr:=za_ (w0:=w) (hP1.dir k hk)
  obtain⟨os,ms,hos,hms,-⟩:=hP1.seen k hk
  have hds:G.d k≠G.s k:=by
   intro e
   have h1:=hP1.dir k hk
   rw[e,hos] at h1;cases h1
   obtain⟨es,cl,h,-⟩:=hms;cases h
  obtain⟨vals,hvl,hGr,hF⟩:=hP1.pend k hk
  refine ko (And.intro @wb_ @e2) ?_
  first|with_reducible refine ks [] (And.intro @wb_ @hdr) ?_|refine kp (And.intro @wb_ @hdr) ?_
  refine Ow.callFnXC (b:=vm (G.s k)) (cap:=cap) (ars:= #[vm (G.s k)]++cap) rfl (X:=L1) (Y:= []) (List.append_nil _).symm rfl rfl rfl rfl hfk (fun w' hw' hX' hn'=>hcall w' hX' hn') (fun r D hC hS=> ?_)
  rw[List.append_nil]
  obtain⟨rfl,o',hO,hN2⟩:=hS
  have hE2:=hE1.came0 hC
  have hdl:Sx.look D (G.d k)=some (xv_ (G.s k) (G.t k) (G.p k)):=(hO.rest _ hds).trans (hP1.dir k hk)
  have hdr2:=za_ (w0:=w) hdl
  have hGD:Gr D 102 1 (G.p k) vals.length vals:=hGr.keep fun b o hb ho=>by
   obtain⟨arr,ha⟩:=x0_ hGr hb
   rw[ho] at ha;cases ha
   refine(hO.rest b ?_).trans ho
   rintro rfl
   rw[hos] at ho;cases ho
   obtain⟨es,cl,h,-⟩:=hms;cases h
  refine ko @wb_ ?_
  first|with_reducible refine ks [] (And.intro @wb_ @hdr2) ?_|refine kp (And.intro @wb_ @hdr2) ?_
  refine Ow.buildSlice (e:=102) #[.func (.func fk) #[] cap] rfl rfl (by kernel_rfl) fun ba hba hwa=> ?_
  refine ko @wb_ ?_
  refine Ow.appendG (e:=102) (k:=1) (new:= [.func (.func fk) #[] cap]) (G.p k) rfl rfl rfl Tryz.underlying69 (id (by kernel_rfl):qf_ Tryz.prog 102=some (false,1)) (by kernel_rfl) (id (by kernel_rfl):zK_ Tryz.prog 102=some .nilFunc) rfl Tryz.underlying69 (by intro k h;cases h) hGD.app (fun w' hw'=>AppX.one1 (hw'.has _ _ (List.mem_append_right _ List.mem_cons_self)) rfl rfl) rfl (by rw[hvl,hb1];omega) (fun v2 L2 hB2 _ hg2 hs2=> ?_)
  have hE3:=(hE2.app (o:= .cells #[.func (.func fk) #[] cap] 102 (0,0)) hwa).grew hg2
  have hpd:slB (G.p k)≠some (G.d k):=fun e=>by
   obtain⟨arr,ha⟩:=x0_ hGD e
   rw[hdl] at ha
   simp[xv_] at ha
  have hd2:Sx.look L2 (G.d k)=some (xv_ (G.s k) (G.t k) (G.p k)):=hg2.look _ _ hpd (zi_ hdl)
  have hr2:=za_ (w0:=w) hd2
  have st:=fun x=>Qd_ (G.s k) (G.t k) (G.p k) v2 x hB2.cell
  refine ko @wb_ ?_
  first|with_reducible refine ks [] (And.intro @wb_ (And.intro @hd2 (@st))) ?_|refine kp (And.intro @wb_ (And.intro @hd2 (@st))) ?_
  refine⟨_,(ke @wb_), ?_⟩
  refine⟨hE3.setB,by rw[hbn];rfl, ?_⟩
  rw[if_neg (by rw[hbn];simp)]
  have hAb: ∀b,jB_ (D++ [(ba, .cells #[.func (.func fk) #[] cap] 102 (0,0))]) b→b∉keys L1:=fun b hb hm=>by
   have:=zx_ hb (b:=b) (by rw[zo_,hO.keys];exact List.mem_append_left _ hm)
   omega
  have hkd: ∀b o,Sx.look L1 b=some o→b≠G.s k→b≠G.d k→slB (G.p k)≠some b→Sx.look (setB L2 (G.d k) (xv_ (G.s k) (G.t k) v2)) b=some o:=fun b o hb h1 h2 h3=>by
   rw[zb_ (Ne.symm h2)]
   exact hg2.look _ _ h3 (zi_ ((hO.rest b h1).trans hb))
  obtain⟨oN,mN,hN3,hN4,hN5⟩:=hN2
  have hps:slB (G.p k)≠some (G.s k):=fun e=>by
   obtain⟨arr,ha⟩:=x0_ hGr e
   rw[hos] at ha;cases ha
   obtain⟨es,cl,h,-⟩:=hms;cases h
  have hv2d:slB v2≠some (G.d k):=fun e=>by
   rcases hs2 with h| ⟨b',h,ha⟩
   ·exact hpd (by rw[←h];exact e)
   ·rw[h] at e;cases e
    exact hAb _ ha (zg_ (hP1.dir k hk))
  refine⟨v2,hP1.turn hk (c:=c) (v:= .func (.func fk) #[] cap) (v2:=v2) (vals:=vals) ⟨hkd⟩ ⟨oN,mN, ?_,hN4,hN5⟩ (zB_ hd2) hvl hF hGr (hB2.keep fun b o hb ho=> ?_) hv1 (hs2.imp id fun⟨b',h,ha⟩=>⟨b',h,hAb _ ha⟩) hok1 (by rw[hb2];exact hcn)⟩
  ·rw[zb_ hds]
   exact hg2.look _ _ hps (zi_ hN3)
  ·rw[zb_ (by rintro rfl;exact hv2d hb)];exact ho
 ·have e2:=ju_ hbn
  refine ko (And.intro @wb_ @e2) ?_
  first|with_reducible refine ks [] @wb_ ?_|refine kp @wb_ ?_
  refine⟨_,(ke @wb_), ?_⟩
  refine⟨hE1,rfl, ?_⟩
  rw[if_pos hbn]
end Go.Proofs
end
section
open Go Go.Proofs Go.Sx Go.StP
namespace Go.Proofs
set_option maxRecDepth 10000
set_option maxHeartbeats 400000
set_option linter.unusedSimpArgs false
def addF (G:DkG) (bf:Nat):DkG:={G with fb:=G.fb++ [bf]}
def kg_ (S:DiskL) (f:FileL):DiskL:={S with files:=S.files++ [f]}
theorem afg_ {S:DiskL} (h:DkOk S) {f:FileL} (hf:f.data.length≤1048576∧f.stl≤f.data.length):DkOk (kg_ S f):=by
 have e: (kg_ S f).files.length=S.files.length+1:=by unfold kg_;simp
 refine⟨h.seen,h.stl,fun k hk p hp=>by rw[e];exact Nat.lt_succ_of_lt (h.seenN k hk p hp),fun k hk p hp=>by rw[e];exact Nat.lt_succ_of_lt (h.stlN k hk p hp),fun k hk c hc h0=>by rw[e];exact Nat.lt_succ_of_lt (h.pendN k hk c hc h0),fun g hg=> ?_,h.fuse,h.max⟩
 rcases List.mem_append.1 hg with hg|hg
 ·exact h.file g hg
 ·rw[List.mem_singleton.1 hg];exact hf
theorem anz_ {fb:List Nat} {bf n:Nat} (h:n<fb.length): (fb++ [bf]).getD n 0=fb.getD n 0:=XE_ 0 n h
theorem DkP.addFile {X:ze_} {G:DkG} {S:DiskL} (h:DkP X G S) {bf:Nat} {f:FileL} (hb:Sx.look X bf=some (xF_ f)) (hn:bf∉G.fb) (hf:f.data.length≤1048576∧f.stl≤f.data.length):DkP X (addF G bf) (kg_ S f):=by
 have hl:=h.len
 have hNm: ∀ {b:Nat} {l:NmL},(∀p,p∈l→p.2<S.files.length)→NmM X G.fb b l→NmM X (G.fb++ [bf]) b l:=by
  rintro b l hlt ⟨o,m,h1,h2,h3⟩
  exact⟨o,m,h1,h2,h3.mono fun p hp=>anz_ (by have:=hlt p hp;omega)⟩
 refine⟨h.disk,h.dirs,h.dir,fun k hk=>hNm (h.ok.seenN k hk) (h.seen k hk),fun k hk=>hNm (h.ok.stlN k hk) (h.stl k hk),fun k hk=> ?_,fun n hn'=> ?_, ?_, ?_,h.nodm,h.nodd,h.nodb,h.nodp,afg_ h.ok hf⟩
 ·obtain⟨vals,h1,h2,h3⟩:=h.pend k hk
  refine⟨vals,h1,h2,fun i hi=> ?_⟩
  have hF:=h3 i hi
  have hm: ((S.dir k).pend.getD i vK_)∈ (S.dir k).pend:=by
   rw[List.getD_eq_getElem?_getD,List.getElem?_eq_getElem (by omega)];exact List.getElem_mem _
  have hc:=h.ok.pendN k hk _ hm
  show FnP X (G.fb++ [bf]) (vals.getD i undef) ((S.dir k).pend.getD i vK_)
  generalize (S.dir k).pend.getD i vK_=c at*
  unfold FnP at hF ⊢
  split at hF
  ·rename_i hk0
   rw[anz_ (by have:=hc hk0;omega)]
   exact hF
  ·exact hF
  ·exact hF
 ·have hn2:n<S.files.length+1:=by
   have: (kg_ S f).files.length=S.files.length+1:=by unfold kg_;simp
   omega
  show Sx.look X ((G.fb++ [bf]).getD n 0)=some (xF_ ((S.files++ [f]).getD n qO_))
  by_cases e:n=S.files.length
  ·subst e
   rw[Z0_ _ _ hl,Z0_ _ _ rfl];exact hb
  ·rw[XE_ _ _ (by omega),XE_ _ _ (by omega)]
   exact h.file n (by omega)
 ·show(G.fb++ [bf]).length=(S.files++ [f]).length
  rw[List.length_append,List.length_append,hl];rfl
 ·show(G.fb++ [bf]).Nodup
  refine List.nodup_append.2 ⟨h.nodf,by simp,fun a ha b hb'=> ?_⟩
  rw[List.mem_singleton.1 hb']
  rintro rfl;exact hn ha
theorem ajb_:qM_ (xX_ Tryz.prog 67) (zK_ Tryz.prog 67) []=some (.agg #[vs [],vi 0]):=by
 rw[show xX_ Tryz.prog 67=some [(0,1),(1,1)] from id (by kernel_rfl),show zK_ Tryz.prog 67=some (.agg #[vs [],vi 0]) from id (by kernel_rfl)];rfl
theorem ar5_:zK_ Tryz.prog 65=some (.pointer none):=zrPf
theorem ajE_ (b:Nat) (a:Bool):zu_ (some (a,1)) (some (.cells (Value.pointer none).cells 65 (0,0))) 0 (vp b 0)=some (KV_ b):=
 zt_ [] [.pointer none] [vp b 0] [] a _ 65 rfl rfl rfl rfl rfl
set_option linter.defProp false
def vC_:=And.intro (@zn_) (And.intro (@zm_) (@ajE_))
theorem Kr_ (name:List UInt8) (w:World):Rets Tryz.prog 111 #[vs name] w (XS w [] (fun v D=> ∃bp bn bf,v= .func (.func 133) #[] #[vp bp 0,vp bn 0]∧Sx.look D bp=some (KV_ bf)∧Sx.look D bn=some (kV_ name)∧Sx.look D bf=some (xF_ qO_))):=by
 refine Rets.enterX Tryz.func111 rfl (rs:= [.tmp 2]) Tryz.results111 Tryz.ntmps111 (fun p hp=>by cases hp) (by simp[keys]) ?_
 refine kf ?_
 first|with_reducible refine ks [] @vC_ ?_|refine kp @vC_ ?_
 refine Ow.box rfl rfl fun bn hbn hwn=> ?_
 simp only[qm_,ql_,qu_,List.nil_append]
 refine ko @vC_ ?_
 first|with_reducible refine ks [] @vC_ ?_|refine kp @vC_ ?_
 refine Ow.build (.agg #[vs [],vi 0]) rfl ajb_ ?_
 refine ko @vC_ ?_
 refine Ow.box rfl rfl fun bf hbf hwf=> ?_
 simp only[qm_,ql_,qu_,zh_]
 refine ko @vC_ ?_
 refine Ow.alloc rfl rfl ar5_ fun bp hbp hwp=> ?_
 have h1:bn<bf:=zx_ hbf (by simp[keys])
 have h2:bn<bp:=zx_ hbp (by simp[keys])
 have h3:bf<bp:=zx_ hbp (by simp[keys])
 refine Ow.permL (M:= [(bp, .cells (Value.pointer none).cells 65 (0,0)),(bf, .cells #[vs [],vi 0] 67 (0,0)),(bn, .cells (vs name).cells 9 (0,0))]) (by classical exact List.perm_iff_count.2 fun a=>by simp only[List.count_append,List.count_cons,List.count_nil]<;>omega) ?_
 refine ko @vC_ ?_
 first|with_reducible refine ks [] @vC_ ?_|refine kp @vC_ ?_
 refine⟨_,(ke @vC_), ?_⟩
 refine⟨Ext.of_new ⟨hwp,hwf,hwn,trivial⟩,bp,bn,bf, ?_, ?_, ?_, ?_⟩
 ·simp only[kD_,List.map_toArray,List.map_cons,List.map_nil,qm_,ql_,qu_]
 ·simp[Sx.look]
 ·simp[Sx.look,show bp≠bn by omega,show bf≠bn by omega];rfl
 ·simp[Sx.look,show bp≠bf by omega];rfl
theorem X6_ (name:List UInt8) (w:World):Rets Tryz.prog 65 #[vs name] w (XS w [] (fun v D=> ∃bn,v= .func (.func 90) #[] #[vp bn 0]∧Sx.look D bn=some (kV_ name))):=by
 refine Rets.enterX Tryz.func65 rfl (rs:= [.tmp 2]) Tryz.results65 Tryz.ntmps65 (fun p hp=>by cases hp) (by simp[keys]) ?_
 refine kf ?_
 first|with_reducible refine ks [] @vC_ ?_|refine kp @vC_ ?_
 refine Ow.box rfl rfl fun bn hbn hwn=> ?_
 simp only[qm_,ql_,qu_,List.nil_append]
 refine ko @vC_ ?_
 first|with_reducible refine ks [] @vC_ ?_|refine kp @vC_ ?_
 refine⟨_,(ke @vC_), ?_⟩
 exact⟨Ext.of_new ⟨hwn,trivial⟩,bn,by simp only[kD_,List.map_toArray,List.map_cons,List.map_nil,qm_,ql_,qu_],by simp[Sx.look];rfl⟩
end Go.Proofs
end
section
open Go Go.Proofs Go.Sx Go.StP
namespace Go.Proofs
set_option maxRecDepth 10000
set_option maxHeartbeats 400000
set_option linter.unusedSimpArgs false
def j3_ (S:DiskL) (dir name:List UInt8):DiskL×Nat:=
 if jd_ S dir [name]≠0 then(S,jd_ S dir [name]) else match atD S dir name with
  |some _=>(S,7)
  |none=>if(zl_ S).2≠0 then zl_ S else(w2_ (kg_ (zl_ S).1 qO_) ((zD_ dir).getD 0) ⟨0,name,[],S.files.length⟩,0)
def zR_ (S:DiskL) (dir name:List UInt8):DiskL×Nat:=
 if jd_ S dir [name]≠0 then(S,jd_ S dir [name]) else match atD S dir name with
  |none=>(S,6)
  |some _=>if(zl_ S).2≠0 then zl_ S else(w2_ (zl_ S).1 ((zD_ dir).getD 0) ⟨2,name,[],0⟩,0)
def j7_ (S:DiskL) (dir name to:List UInt8):DiskL×Nat:=
 if jd_ S dir [name,to]≠0 then(S,jd_ S dir [name,to]) else match atD S dir name with
  |none=>(S,6)
  |some _=>if name=to then zl_ S else if(zl_ S).2≠0 then zl_ S else(w2_ (zl_ S).1 ((zD_ dir).getD 0) ⟨1,name,to,0⟩,0)
theorem ahi_ (S:DiskL) (f:FileL):zl_ (kg_ S f)=(kg_ (zl_ S).1 f,(zl_ S).2):=by
 unfold zl_
 by_cases h1:S.fused=true∧S.fuse=0
 ·rw[if_pos h1,if_pos (by exact h1)];rfl
 ·rw[if_neg h1,if_neg (by exact h1)]
  by_cases h2:S.fused=true
  ·rw[if_pos h2,if_pos (by exact h2)];rfl
  ·rw[if_neg h2,if_neg (by exact h2)]
theorem ap6_ (b o:Nat):q7_ Tryz.prog .neq 65 (vp b o) (.pointer none)=some (.bool true):=by
 simp[q7_,eqX,q8_,qR_,Tryz.underlying65,vp]
theorem apL_:q7_ Tryz.prog .neq 65 (.pointer none) (.pointer none)=some (.bool false):=by
 simp[q7_,eqX,q8_,qR_,Tryz.underlying65]
theorem ZM_ {L D:ze_} {B:Nat} (hA:jB_ L B) (hN:New B D) {b:Nat} {o:Obj} (h:Sx.look D b=some o):Sx.look (L++D) b=some o:=by
 rw[zM_ (fun hm=>by have:=zx_ hA hm;have:=hN.le b (zg_ h);omega)];exact h
theorem DkP.fb_key {X:ze_} {G:DkG} {S:DiskL} (h:DkP X G S) {b:Nat} (hb:b∈G.fb):b∈keys X:=by
 obtain⟨n,hn,rfl⟩:=List.getElem_of_mem hb
 have:=h.file n (by rw[←h.len];exact hn)
 rw[List.getD_eq_getElem?_getD,List.getElem?_eq_getElem hn] at this
 exact zg_ this
set_option linter.defProp false
def zI_:=And.intro (And.intro (And.intro (And.intro (@zn_) (@zm_)) (And.intro (@qr_) (@kt_))) (And.intro (And.intro (@qL_) (@qG_)) (And.intro (@qH_) (And.intro (@xU_) (@xW_))))) (And.intro (And.intro (And.intro (@aaG_) (@agE_)) (And.intro (@Ve_) (@akV_))) (And.intro (And.intro (@ab1_) (@ap6_)) (And.intro (@apL_) (And.intro (@Sx.tup2_0) (@Sx.tup2_1)))))
theorem aa7_ (X:ze_) (G:DkG) (S:DiskL) (dir name:List UInt8) (w:World) (hX: ∀p,p∈X→w.heap[p.1]? =some p.2) (hn: (keys X).Nodup) (hP:DkP X G S) (hnm:name.length<1099511627776) (hpl: ∀k,k<3→(S.dir k).pend.length<1000000):
  Rets Tryz.prog 86 #[vp G.bd 0,vs dir,vs name] w (XS w X (fun v D=>v=vi ((j3_ S dir name).2:Nat)∧ ∃G',G'.bd=G.bd∧DkP D G' (j3_ S dir name).1)):=by
 refine Rets.enterX Tryz.func86 rfl (rs:= [.tmp 6]) Tryz.results86 Tryz.ntmps86 hX hn ?_
 refine kf ?_
 first|with_reducible refine ks [] @zI_ ?_|refine kp @zI_ ?_
 refine Ow.buildSlice (e:=9) #[vs name] rfl rfl (by kernel_rfl) fun b1 hb1 hw1=> ?_
 have hP1:=hP.mono (X':=X++ [(b1,Obj.cells #[vs name] 9 (0,0))]) fun b o h=>zi_ h
 have hE1:=(Ext.refl w X).app (o:=Obj.cells #[vs name] 9 (0,0)) hw1
 have hm1: (b1,Obj.cells #[vs name] 9 (0,0))∈X++ [(b1,Obj.cells #[vs name] 9 (0,0))]:=by simp
 generalize X++ [(b1,Obj.cells #[vs name] 9 (0,0))]=L1 at*
 refine ko @zI_ ?_
 refine Ow.callC rfl rfl Tryz.call46 (fun w' hw'=>Rets.toX (jO_ w' G S dir (vsl b1 0 1 1) [name] (hP1.world hw') (ab2_ (hw'.has _ _ hm1)) (by simp) (by simpa using hnm))) (fun B2 v2 D2 hA2 hB2 hN2 hS2=> ?_)
 obtain⟨rfl,hS2⟩:=hS2
 rw[List.append_nil]
 clear hm1 hA2 hN2
 unfold j3_ atD
 rcases hS2 with⟨he,rfl⟩ | ⟨he,k,hk,rfl⟩
 ·have e1:=ju_ he
  refine ko @zI_ ?_
  first|with_reducible refine ks [] (And.intro @zI_ @e1) ?_|refine kp (And.intro @zI_ @e1) ?_
  refine⟨_,(ke @zI_), ?_⟩
  rw[if_pos he]
  exact⟨hE1,rfl,G,rfl,hP1⟩
 ·have he': ¬ (jd_ S dir [name]≠0):=by rw[he];simp
  have hk3:=(z3_ hk).1
  have hdr:=za_ (w0:=w) (hP1.dir k hk3)
  obtain⟨os,ms,hos,hms,hnp⟩:=hP1.seen k hk3
  have hso:=za_ (w0:=w) hos
  have e1: ((0:Int) !=0)=false:=rfl
  refine ko @zI_ ?_
  first|with_reducible refine ks [] (And.intro @zI_ (And.intro @e1 (@hdr))) ?_|refine kp (And.intro @zI_ (And.intro @e1 (@hdr))) ?_
  refine Ow.mapGetG (encK:=vs) (encV:=qJ_) (k:=name) (z:=none) rfl rfl Tryz.underlying68 jF_ zrPf rfl rfl hso hms ?_
  rw[hnp.get (hP.ok.seen k hk3).nodup]
  show Ow _ _ _ _ _ _ _ _
  have hq: (zD_ dir).bind (fun k=>zC_ (S.dir k).seen name)=zC_ (S.dir k).seen name:=by rw[hk];rfl
  cases hf:zC_ (S.dir k).seen name with
  |some n=>
   have hp: ∀q:Nat,qJ_ (some q)=vp q 0:=fun _=>rfl
   refine ko (And.intro @zI_ @hp) ?_
   first|with_reducible refine ks [] @zI_ ?_|refine kp @zI_ ?_
   refine⟨_,(ke @zI_), ?_⟩
   rw[if_neg he',hq,hf]
   exact⟨hE1,rfl,G,rfl,hP1⟩
  |none=>
   have hp0:qJ_ none= .pointer none:=rfl
   refine ko (And.intro @zI_ @hp0) ?_
   first|with_reducible refine ks [] @zI_ ?_|refine kp @zI_ ?_
   refine Ow.callC rfl rfl Tryz.call111 (fun w' hw'=>Kr_ name w') (fun B3 v3 D3 hA3 hB3 hN3 hS3=> ?_)
   obtain⟨bp,bn,bf,rfl,hbp,hbn,hbf⟩:=hS3
   have hP2:=hP1.mono (X':=L1++D3) fun b o h=>zi_ h
   have hbp2:=ZM_ hA3 hN3 hbp
   have hbn2:=ZM_ hA3 hN3 hbn
   have hbf2:=ZM_ hA3 hN3 hbf
   have hnf:bf∉G.fb:=fun hm=>by
    have h1:=zx_ hA3 (hP1.fb_key hm)
    have h2:=hN3.le bf (zg_ hbf)
    omega
   have hP3:=hP2.addFile hbf2 hnf (f:=qO_) ⟨by decide,by decide⟩
   have hE2:Ext w X (L1++D3):=⟨fun c hc=>by
    rw[zo_] at hc
    rcases List.mem_append.1 hc with hc|hc
    ·exact hE1.new c hc
    ·exact .inr (Nat.le_trans hB3 (hN3.le c hc)),fun c hc=>by rw[zo_];exact List.mem_append_left _ (hE1.all c hc)⟩
   generalize L1++D3=L3 at*
   refine ko @zI_ ?_
   refine Ow.callX (X:=L3) (Y:= []) (List.append_nil _).symm rfl rfl Tryz.call64 (fun w' hw' hX' hn'=>wQ_ L3 (addF G bf) (kg_ S qO_) k ⟨0,name,[],S.files.length⟩ _ w' hX' hn' hP3 hk3 ⟨bp,bn,rfl,by show Sx.look L3 bp=some (KV_ ((G.fb++ [bf]).getD S.files.length 0));rw[Z0_ _ _ hP.len];exact hbp2,hbn2⟩ (fun h=>by cases h) (fun _=>by show S.files.length< (S.files++ [qO_]).length;simp) (hpl k hk3)) (fun v4 D4 hC4 hS4=> ?_)
   rw[ahi_] at hS4
   obtain⟨rfl,hS4⟩:=hS4
   simp only at hS4
   have hE4:=hE2.came0 hC4
   rw[List.append_nil]
   refine ko @zI_ ?_
   first|with_reducible refine ks [] @zI_ ?_|refine kp @zI_ ?_
   refine⟨_,(ke @zI_), ?_⟩
   rw[if_neg he',hq,hf]
   simp only
   by_cases hbn': (zl_ S).2=0
   ·rw[if_neg (by rw[hbn'];simp)] at hS4
    rw[if_neg (by rw[hbn'];simp)]
    obtain⟨v5,hP5⟩:=hS4
    rw[hk]
    exact⟨hE4,by rw[hbn'];rfl,setP (addF G bf) k v5,rfl,hP5⟩
   ·rw[if_pos hbn'] at hS4
    rw[if_pos hbn']
    subst hS4
    obtain⟨hb1,hb2,hb3⟩:=jb_ S
    exact⟨hE4,rfl,G,rfl,hP2.setDisk (zl_ S).1 hb1 hb2 (xT_ hP.ok)⟩
theorem v9_ (X:ze_) (G:DkG) (S:DiskL) (dir name:List UInt8) (w:World) (hX: ∀p,p∈X→w.heap[p.1]? =some p.2) (hn: (keys X).Nodup) (hP:DkP X G S) (hnm:name.length<1099511627776) (hpl: ∀k,k<3→(S.dir k).pend.length<1000000):
  Rets Tryz.prog 34 #[vp G.bd 0,vs dir,vs name] w (XS w X (fun v D=>v=vi ((zR_ S dir name).2:Nat)∧ ∃G',G'.bd=G.bd∧DkP D G' (zR_ S dir name).1)):=by
 refine Rets.enterX Tryz.func34 rfl (rs:= [.tmp 6]) Tryz.results34 Tryz.ntmps34 hX hn ?_
 refine kf ?_
 first|with_reducible refine ks [] @zI_ ?_|refine kp @zI_ ?_
 refine Ow.buildSlice (e:=9) #[vs name] rfl rfl (by kernel_rfl) fun b1 hb1 hw1=> ?_
 have hP1:=hP.mono (X':=X++ [(b1,Obj.cells #[vs name] 9 (0,0))]) fun b o h=>zi_ h
 have hE1:=(Ext.refl w X).app (o:=Obj.cells #[vs name] 9 (0,0)) hw1
 have hm1: (b1,Obj.cells #[vs name] 9 (0,0))∈X++ [(b1,Obj.cells #[vs name] 9 (0,0))]:=by simp
 generalize X++ [(b1,Obj.cells #[vs name] 9 (0,0))]=L1 at*
 refine ko @zI_ ?_
 refine Ow.callC rfl rfl Tryz.call46 (fun w' hw'=>Rets.toX (jO_ w' G S dir (vsl b1 0 1 1) [name] (hP1.world hw') (ab2_ (hw'.has _ _ hm1)) (by simp) (by simpa using hnm))) (fun B2 v2 D2 hA2 hB2 hN2 hS2=> ?_)
 obtain⟨rfl,hS2⟩:=hS2
 rw[List.append_nil]
 clear hm1 hA2 hN2
 unfold zR_ atD
 rcases hS2 with⟨he,rfl⟩ | ⟨he,k,hk,rfl⟩
 ·have e1:=ju_ he
  refine ko @zI_ ?_
  first|with_reducible refine ks [] (And.intro @zI_ @e1) ?_|refine kp (And.intro @zI_ @e1) ?_
  refine⟨_,(ke @zI_), ?_⟩
  rw[if_pos he]
  exact⟨hE1,rfl,G,rfl,hP1⟩
 ·have he': ¬ (jd_ S dir [name]≠0):=by rw[he];simp
  have hk3:=(z3_ hk).1
  have hdr:=za_ (w0:=w) (hP1.dir k hk3)
  obtain⟨os,ms,hos,hms,hnp⟩:=hP1.seen k hk3
  have hso:=za_ (w0:=w) hos
  have e1: ((0:Int) !=0)=false:=rfl
  refine ko @zI_ ?_
  first|with_reducible refine ks [] (And.intro @zI_ (And.intro @e1 (@hdr))) ?_|refine kp (And.intro @zI_ (And.intro @e1 (@hdr))) ?_
  refine Ow.mapGetG (encK:=vs) (encV:=qJ_) (k:=name) (z:=none) rfl rfl Tryz.underlying68 jF_ zrPf rfl rfl hso hms ?_
  rw[hnp.get (hP.ok.seen k hk3).nodup]
  show Ow _ _ _ _ _ _ _ _
  have hq: (zD_ dir).bind (fun k=>zC_ (S.dir k).seen name)=zC_ (S.dir k).seen name:=by rw[hk];rfl
  cases hf:zC_ (S.dir k).seen name with
  |none=>
   have hp0:qJ_ none= .pointer none:=rfl
   refine ko (And.intro @zI_ @hp0) ?_
   first|with_reducible refine ks [] @zI_ ?_|refine kp @zI_ ?_
   refine⟨_,(ke @zI_), ?_⟩
   rw[if_neg he',hq,hf]
   exact⟨hE1,rfl,G,rfl,hP1⟩
  |some n=>
   have hp: ∀q:Nat,qJ_ (some q)=vp q 0:=fun _=>rfl
   refine ko (And.intro @zI_ @hp) ?_
   first|with_reducible refine ks [] @zI_ ?_|refine kp @zI_ ?_
   refine Ow.callC rfl rfl Tryz.call65 (fun w' hw'=>X6_ name w') (fun B3 v3 D3 hA3 hB3 hN3 hS3=> ?_)
   obtain⟨bn,rfl,hbn⟩:=hS3
   have hP2:=hP1.mono (X':=L1++D3) fun b o h=>zi_ h
   have hbn2:=ZM_ hA3 hN3 hbn
   have hE2:Ext w X (L1++D3):=⟨fun c hc=>by
    rw[zo_] at hc
    rcases List.mem_append.1 hc with hc|hc
    ·exact hE1.new c hc
    ·exact .inr (Nat.le_trans hB3 (hN3.le c hc)),fun c hc=>by rw[zo_];exact List.mem_append_left _ (hE1.all c hc)⟩
   generalize L1++D3=L3 at*
   refine ko @zI_ ?_
   refine Ow.callX (X:=L3) (Y:= []) (List.append_nil _).symm rfl rfl Tryz.call64 (fun w' hw' hX' hn'=>wQ_ L3 G S k ⟨2,name,[],0⟩ _ w' hX' hn' hP2 hk3 ⟨bn,rfl,hbn2⟩ (fun h=>by cases h) (fun h=>by cases h) (hpl k hk3)) (fun v4 D4 hC4 hS4=> ?_)
   obtain⟨rfl,hS4⟩:=hS4
   have hE4:=hE2.came0 hC4
   rw[List.append_nil]
   refine ko @zI_ ?_
   first|with_reducible refine ks [] @zI_ ?_|refine kp @zI_ ?_
   refine⟨_,(ke @zI_), ?_⟩
   rw[if_neg he',hq,hf]
   simp only
   by_cases hbn': (zl_ S).2=0
   ·rw[if_neg (by rw[hbn'];simp)] at hS4
    rw[if_neg (by rw[hbn'];simp)]
    obtain⟨v5,hP5⟩:=hS4
    rw[hk]
    exact⟨hE4,by rw[hbn'];rfl,setP G k v5,rfl,hP5⟩
   ·rw[if_pos hbn'] at hS4
    rw[if_pos hbn']
    subst hS4
    obtain⟨hb1,hb2,hb3⟩:=jb_ S
    exact⟨hE4,rfl,G,rfl,hP2.setDisk (zl_ S).1 hb1 hb2 (xT_ hP.ok)⟩
theorem abT_ (X:ze_) (G:DkG) (S:DiskL) (dir name to:List UInt8) (w:World) (hX: ∀p,p∈X→w.heap[p.1]? =some p.2) (hn: (keys X).Nodup) (hP:DkP X G S) (hnm:name.length<1099511627776) (hto:to.length<1099511627776) (hpl: ∀k,k<3→(S.dir k).pend.length<1000000):
  Rets Tryz.prog 89 #[vp G.bd 0,vs dir,vs name,vs to] w (XS w X (fun v D=>v=vi ((j7_ S dir name to).2:Nat)∧ ∃G',G'.bd=G.bd∧DkP D G' (j7_ S dir name to).1)):=by
 refine Rets.enterX Tryz.func89 rfl (rs:= [.tmp 8]) Tryz.results89 Tryz.ntmps89 hX hn ?_
 refine kf ?_
 first|with_reducible refine ks [] @zI_ ?_|refine kp @zI_ ?_
 refine Ow.box rfl rfl fun b6 hb6 hw6=> ?_
 simp only[qm_,ql_,qu_]
 refine ko @zI_ ?_
 refine Ow.box rfl rfl fun b7 hb7 hw7=> ?_
 simp only[qm_,ql_,qu_]
 refine Ow.permL (M:=X++ [(b6,kV_ name)]++ [(b7,kV_ to)]) (List.Perm.refl _) ?_
 have hP0:=hP.mono (X':=X++ [(b6,kV_ name)]++ [(b7,kV_ to)]) fun b o h=>zi_ (zi_ h)
 have hE0:=((Ext.refl w X).app (o:=kV_ name) hw6).app (o:=kV_ to) hw7
 have hl6:Sx.look (X++ [(b6,kV_ name)]++ [(b7,kV_ to)]) b6=some (kV_ name):=zi_ (j9_ hb6)
 have hl7:Sx.look (X++ [(b6,kV_ name)]++ [(b7,kV_ to)]) b7=some (kV_ to):=j9_ hb7
 generalize X++ [(b6,kV_ name)]++ [(b7,kV_ to)]=L0 at*
 have hr6:=za_ (w0:=w) hl6
 have hr7:=za_ (w0:=w) hl7
 refine ko @zI_ ?_
 first|with_reducible refine ks [] (And.intro @zI_ (And.intro @hr6 (@hr7))) ?_|refine kp (And.intro @zI_ (And.intro @hr6 (@hr7))) ?_
 refine Ow.buildSlice (e:=9) #[vs name,vs to] rfl rfl (by kernel_rfl) fun b1 hb1 hw1=> ?_
 have hP1:=hP0.mono (X':=L0++ [(b1,Obj.cells #[vs name,vs to] 9 (0,0))]) fun b o h=>zi_ h
 have hE1:=hE0.app (o:=Obj.cells #[vs name,vs to] 9 (0,0)) hw1
 have hm1: (b1,Obj.cells #[vs name,vs to] 9 (0,0))∈L0++ [(b1,Obj.cells #[vs name,vs to] 9 (0,0))]:=by simp
 have hl6:=zi_ (M:= [(b1,Obj.cells #[vs name,vs to] 9 (0,0))]) hl6
 have hl7:=zi_ (M:= [(b1,Obj.cells #[vs name,vs to] 9 (0,0))]) hl7
 generalize L0++ [(b1,Obj.cells #[vs name,vs to] 9 (0,0))]=L1 at*
 have hr6:=za_ (w0:=w) hl6
 have hr7:=za_ (w0:=w) hl7
 have hnms: ∀s,s∈ [name,to]→s.length<1099511627776:=by
  intro s hs
  simp only[List.mem_cons,List.not_mem_nil,or_false] at hs
  rcases hs with rfl|rfl
  ·exact hnm
  ·exact hto
 refine ko @zI_ ?_
 refine Ow.callC rfl rfl Tryz.call46 (fun w' hw'=>Rets.toX (jO_ w' G S dir (vsl b1 0 2 2) [name,to] (hP1.world hw') (aqJ_ (hw'.has _ _ hm1)) (by simp) hnms)) (fun B2 v2 D2 hA2 hB2 hN2 hS2=> ?_)
 obtain⟨rfl,hS2⟩:=hS2
 rw[List.append_nil]
 clear hm1 hA2 hN2 hnms
 unfold j7_ atD
 rcases hS2 with⟨he,rfl⟩ | ⟨he,k,hk,rfl⟩
 ·have e1:=ju_ he
  refine ko @zI_ ?_
  first|with_reducible refine ks [] (And.intro @zI_ @e1) ?_|refine kp (And.intro @zI_ @e1) ?_
  refine⟨_,(ke @zI_), ?_⟩
  rw[if_pos he]
  exact⟨hE1,rfl,G,rfl,hP1⟩
 ·have he': ¬ (jd_ S dir [name,to]≠0):=by rw[he];simp
  have hk3:=(z3_ hk).1
  have hdr:=za_ (w0:=w) (hP1.dir k hk3)
  obtain⟨os,ms,hos,hms,hnp⟩:=hP1.seen k hk3
  have hso:=za_ (w0:=w) hos
  have e1: ((0:Int) !=0)=false:=rfl
  have hq: (zD_ dir).bind (fun k=>zC_ (S.dir k).seen name)=zC_ (S.dir k).seen name:=by rw[hk];rfl
  refine ko @zI_ ?_
  first|with_reducible refine ks [] (And.intro @zI_ @e1) ?_|refine kp (And.intro @zI_ @e1) ?_
  refine Cw.regionS [G.d k,b6] [0,1,2,3,4,5,6,7] [] (by kernel_rfl) (by kernel_rfl) (by kernel_rfl) ?_
  simp only[zj_, ↓zf_, ↓zc_, ↓zw_, ↓zv_,zd_]
  refine kq (And.intro @zI_ (And.intro @hdr (@hr6))) ?_
  refine Ow.soft rfl rfl rfl ?_
  refine Ow.mapGetG (encK:=vs) (encV:=qJ_) (k:=name) (z:=none) rfl rfl Tryz.underlying68 jF_ zrPf rfl rfl hso hms ?_
  with_reducible refine Ow.nil ?_
  refine⟨by intro b hb;simp only[List.mem_cons,List.not_mem_nil,or_false] at hb;(try subst hb);rfl, ?_⟩
  rw[hnp.get (hP.ok.seen k hk3).nodup]
  show Ow _ _ _ _ _ _ _ _
  cases hf:zC_ (S.dir k).seen name with
  |none=>
   have hp0:qJ_ none= .pointer none:=rfl
   refine kq (And.intro @zI_ @hp0) ?_
   try with_reducible refine Ow.nil ?_
   first|with_reducible refine ks [] @zI_ ?_|refine kp @zI_ ?_
   refine⟨_,(ke @zI_), ?_⟩
   rw[if_neg he',hq,hf]
   exact⟨hE1,rfl,G,rfl,hP1⟩
  |some n=>
   have hp: ∀q:Nat,qJ_ (some q)=vp q 0:=fun _=>rfl
   have hbk:G.bd∈keys L1:=zg_ hP1.disk
   obtain⟨hb1,hb2,hb3⟩:=jb_ S
   refine kq (And.intro @zI_ @hp) ?_
   try with_reducible refine Ow.nil ?_
   cases hnt: (name==to) with
   |true=>
    have hnt':name=to:=eq_of_beq hnt
    first|with_reducible refine ks [] (And.intro @zI_ (And.intro @hr6 (And.intro @hr7 (@hnt)))) ?_|refine kp (And.intro @zI_ (And.intro @hr6 (And.intro @hr7 (@hnt)))) ?_
    refine Ow.callM rfl rfl Tryz.call73 hbk (fun w' hw'=>kB_ G.bd G.bm S w' hP.ok.fuse (hw'.has _ _ (zq_ hP1.disk))) ?_
    have hP2:=hP1.setDisk (zl_ S).1 hb1 hb2 (xT_ hP.ok)
    have hE2:=hE1.setB (b:=G.bd) (o:=jr_ G.bm (zl_ S).1)
    generalize setB L1 G.bd (jr_ G.bm (zl_ S).1)=L2 at*
    refine ko @zI_ ?_
    first|with_reducible refine ks [] @zI_ ?_|refine kp @zI_ ?_
    refine⟨_,(ke @zI_), ?_⟩
    rw[if_neg he',hq,hf]
    simp only
    rw[if_pos hnt']
    exact⟨hE2,rfl,G,rfl,hP2⟩
   |false=>
    have hnt':name≠to:=fun e=>by rw[e] at hnt;simp at hnt
    first|with_reducible refine ks [] (And.intro @zI_ (And.intro @hr6 (And.intro @hr7 (@hnt)))) ?_|refine kp (And.intro @zI_ (And.intro @hr6 (And.intro @hr7 (@hnt)))) ?_
    simp only[List.map_toArray,List.map_cons,List.map_nil,qm_,ql_,qu_]
    refine Ow.callX (X:=L1) (Y:= []) (List.append_nil _).symm rfl rfl Tryz.call64 (fun w' hw' hX' hn'=>wQ_ L1 G S k ⟨1,name,to,0⟩ (.func (.func 112) #[] #[vp b6 0,vp b7 0]) w' hX' hn' hP1 hk3 ⟨b6,b7,rfl,hl6,hl7⟩ (fun _=>⟨by rw[hf];simp,hnt'⟩) (fun h=>by cases h) (hpl k hk3)) (fun v4 D4 hC4 hS4=> ?_)
    obtain⟨rfl,hS4⟩:=hS4
    have hE4:=hE1.came0 hC4
    rw[List.append_nil]
    refine ko @zI_ ?_
    first|with_reducible refine ks [] @zI_ ?_|refine kp @zI_ ?_
    refine⟨_,(ke @zI_), ?_⟩
    rw[if_neg he',hq,hf]
    simp only
    rw[if_neg hnt']
    by_cases hbn': (zl_ S).2=0
    ·rw[if_neg (by rw[hbn'];simp)] at hS4
     rw[if_neg (by rw[hbn'];simp)]
     obtain⟨v5,hP5⟩:=hS4
     rw[hk]
     exact⟨hE4,by rw[hbn'];rfl,setP G k v5,rfl,hP5⟩
    ·rw[if_pos hbn'] at hS4
     rw[if_pos hbn']
     subst hS4
     exact⟨hE4,rfl,G,rfl,hP1.setDisk (zl_ S).1 hb1 hb2 (xT_ hP.ok)⟩
end Go.Proofs
end
section
open Go Go.Proofs Go.Sx Go.StP
namespace Go.Proofs
set_option maxRecDepth 10000
set_option maxHeartbeats 400000
set_option linter.unusedSimpArgs false
structure CpG where
 L:ze_
 it:Obj
 o:Obj
 dn:List (List UInt8×Option Nat)
 lf:List (List UInt8×Option Nat)
theorem JS_ {α β:Type} [BEq α] [LawfulBEq α] {k:α} {v:β}: ∀ {m:List (α×β)},(∀p,p∈m→p.1≠k)→updG k v m=m++ [(k,v)]
 | [],_=>rfl
 |p::r,h=>by
  have h1: (k==p.1)=false:=beq_eq_false_iff_ne.2 fun e=>h p List.mem_cons_self e.symm
  unfold updG
  rw[if_neg (by rw[h1];simp),JS_ fun q hq=>h q (List.mem_cons_of_mem _ hq)];rfl
set_option linter.defProp false
def kz_:=And.intro (And.intro (And.intro (@zn_) (@zm_)) (And.intro (@Sx.tup2_0) (@Sx.tup2_1))) (And.intro (And.intro (@QG_) (@Sx.tup3_0)) (And.intro (@Sx.tup3_1) (@Sx.tup3_2)))
theorem ahy_ (X:ze_) (bt bs:Nat) (ot os:Obj) (m:List (List UInt8×Option Nat)) (w:World) (hX: ∀p,p∈X→w.heap[p.1]? =some p.2) (hn: (keys X).Nodup)
  (ht:Sx.look X bt=some ot) (hmt:wB_ vs qJ_ ot ([]:List (List UInt8×Option Nat))) (hs:Sx.look X bs=some os) (hms:wB_ vs qJ_ os m) (hne:bt≠bs) (hnd: (m.map Prod.fst).Nodup):
  Rets Tryz.prog 56 #[vm bt,vm bs] w (XS w X (fun v D=>v=kD_ []∧(∀b o,b≠bt→Sx.look X b=some o→Sx.look D b=some o)∧ ∃o' m',Sx.look D bt=some o'∧wB_ vs qJ_ o' m'∧m'.Perm m)):=by
 refine Rets.enterX Tryz.func56 rfl (rs:= []) Tryz.results56 Tryz.ntmps56 hX hn ?_
 refine kf ?_
 first|with_reducible refine ks [] @kz_ ?_|refine kp @kz_ ?_
 refine Ow.rangeMapG (encK:=vs) (encV:=qJ_) rfl rfl Tryz.underlying68 rfl (za_ hs) hms fun bi oi hbi hwi hI=> ?_
 have hbiX: ∀b o,Sx.look X b=some o→b≠bi:=fun b o hb e=>by
  have:=zx_ hbi (zg_ hb)
  omega
 refine ko @kz_ ?_
 first|with_reducible refine ks [] @kz_ ?_|refine kp @kz_ ?_
 refine Cw.loopG (G:=CpG) [8,9,10,11,12,4,5,13,14,15] (fun g=> []) (fun g=>g.L) (fun g=>Sx.look g.L bi=some g.it∧Sx.look g.L bt=some g.o∧wB_ vs qJ_ g.o g.dn∧(∀b o,b≠bt→Sx.look X b=some o→Sx.look g.L b=some o)∧Ext w X g.L∧ItG vs qJ_ g.it bs os m g.dn g.lf) (fun g=>g.lf.length) ⟨X++ [(bi,oi)],oi,ot,[],m⟩ rfl rfl ?_ ?_
 ·exact⟨j9_ hbi,zi_ ht,hmt,fun b o _ hb=>zi_ hb,(Ext.refl w X).app hwi,hI⟩
 intro g j hg
 refine kv ?_
 clear hI
 obtain⟨L,it,o,dn,lf⟩:=g
 simp only at hg ⊢
 obtain⟨hli,hlt,hmo,hkeep,hE,hI⟩:=hg
 have hls:=hkeep bs os (Ne.symm hne) hs
 have hit:bt≠bi:=hbiX _ _ ht
 have hsi:bs≠bi:=hbiX _ _ hs
 first|with_reducible refine ks [] @kz_ ?_|refine kp @kz_ ?_
 refine Ow.nextMapG rfl rfl rfl hli (za_ hls) hI (fun hlf=> ?_) (fun p it' lf' hl' hI'=> ?_)
 ·subst hlf
  have hp:=x3_ hI
  rw[List.append_nil] at hp
  refine ko @kz_ ?_
  first|with_reducible refine ks [] @kz_ ?_|refine kp @kz_ ?_
  refine⟨_,(ke @kz_), ?_⟩
  exact⟨hE,rfl,hkeep,o,dn,hlt,hmo,hp⟩
 ·have h1:Sx.look (setB L bi it') bi=some it':=zB_ hli
  have h2:Sx.look (setB L bi it') bt=some o:=by rw[zb_ (Ne.symm hit)];exact hlt
  have h3:Sx.look (setB L bi it') bs=some os:=by rw[zb_ (Ne.symm hsi)];exact hls
  have h4: ∀b o,b≠bt→Sx.look X b=some o→Sx.look (setB L bi it') b=some o:=fun b o hb hx=>by rw[zb_ (Ne.symm (hbiX _ _ hx))];exact hkeep b o hb hx
  have hE1:=hE.setB (b:=bi) (o:=it')
  generalize setB L bi it'=L1 at*
  refine ko @kz_ ?_
  first|with_reducible refine ks [] @kz_ ?_|refine kp @kz_ ?_
  refine Ow.entryMapG (encK:=vs) (encV:=qJ_) rfl rfl rfl (za_ h1) (za_ h3) hI' ?_
  obtain⟨s,q⟩:=p
  have hp:=x3_ hI'
  have hds: ∀p,p∈dn→p.1≠s:=by
   have h5:=((hp.map Prod.fst).nodup_iff).2 hnd
   rw[List.map_append,List.map_append,List.nodup_append] at h5
   have h6:=h5.1
   rw[List.nodup_append] at h6
   intro p hp' e
   exact h6.2.2 p.1 (List.mem_map_of_mem hp') s (by simp) e
  refine ko @kz_ ?_
  first|with_reducible refine ks [] @kz_ ?_|refine kp @kz_ ?_
  refine Ow.mapUpdateG (encK:=vs) (encV:=qJ_) (k:=s) (v:=q) rfl rfl Tryz.underlying68 jF_ rfl rfl rfl h2 hmo (fun o2 hm2=> ?_)
  rw[JS_ hds] at hm2
  refine ko @kz_ ?_
  first|with_reducible refine ks [] @kz_ ?_|refine kp @kz_ ?_
  exact Again.mk ⟨setB L1 bt o2,it',o2,dn++ [(s,q)],lf'⟩ (by show lf'.length<lf.length;omega) ⟨by show Sx.look (setB L1 bt o2) bi=_;rw[zb_ hit];exact h1,zB_ h2,hm2,fun b o hb hx=>by show Sx.look (setB L1 bt o2) b=_;rw[zb_ (Ne.symm hb)];exact h4 b o hb hx,hE1.setB,hI'⟩ rfl rfl
end Go.Proofs
end
section
open Go Go.Proofs Go.Sx Go.StP
namespace Go.Proofs
set_option maxRecDepth 10000
set_option maxHeartbeats 400000
set_option linter.unusedSimpArgs false
def aix_ (G:DkG) (k s':Nat):DkG:={G with s:=fun j=>if j=k then s' else G.s j,p:=fun j=>if j=k then .slice none 0 0 else G.p j}
theorem DkP.calm {X L:ze_} {G:DkG} {S:DiskL} (h:DkP X G S) {k:Nat} (hk:k<3) {s':Nat} (d:DirL) (hd0:d.pend= [])
  (keep: ∀b o,Sx.look X b=some o→b≠G.t k→b≠G.d k→Sx.look L b=some o) (hs:NmM L G.fb s' d.seen) (ht:NmM L G.fb (G.t k) d.stl)
  (hd:Sx.look L (G.d k)=some (xv_ s' (G.t k) (.slice none 0 0))) (hsn:s'=G.s k∨s'∉keys X) (h1:SrtN d.seen) (h2:SrtN d.stl) (h3: ∀p,p∈d.seen→p.2<S.files.length) (h4: ∀p,p∈d.stl→p.2<S.files.length):
  DkP L (aix_ G k s') (z4_ S k d):=by
 obtain⟨otk,mtk,hotk,hmtk,-⟩:=h.stl k hk
 have hnt: ∀b o,Sx.look X b=some o→tyO o≠none→b≠G.t k:=by
  rintro b o hb ht rfl
  rw[hotk] at hb;cases hb;exact ht (qK_ hmtk)
 have hnd: ∀b o,Sx.look X b=some o→tyO o≠some 71→b≠G.d k:=by
  rintro b o hb ht rfl
  rw[h.dir k hk] at hb;cases hb;exact ht rfl
 have K: ∀b o,Sx.look X b=some o→tyO o≠none→tyO o≠some 71→Sx.look L b=some o:=fun b o hb h1 h2=>keep b o hb (hnt b o hb h1) (hnd b o hb h2)
 have KM: ∀b o,Sx.look X b=some o→tyO o=none→b≠G.t k→Sx.look L b=some o:=fun b o hb h1 h2=>keep b o hb h2 (hnd b o hb (by rw[h1];intro e;cases e))
 have KF: ∀ {w c},FnP X G.fb w c→FnP L G.fb w c:=fun hw=>hw.keep fun b o hb hx=>K b o hb (by rcases hx with⟨s,rfl⟩ | ⟨a,rfl⟩<;>simp[tyO,kV_,KV_]) (by rcases hx with⟨s,rfl⟩ | ⟨a,rfl⟩<;>simp[tyO,kV_,KV_])
 have hs1: ∀j,j<3→j≠k→s'≠G.s j:=fun j hj hjk=>by
  rcases hsn with e|e
  ·rw[e];exact(vY_ h.nodm hk hj).1 (Ne.symm hjk)
  ·obtain⟨o,m,ho,-⟩:=h.seen j hj
   rintro rfl;exact e (zg_ ho)
 have hs2: ∀j,j<3→s'≠G.t j:=fun j hj=>by
  rcases hsn with e|e
  ·rw[e];exact(vY_ h.nodm hk hj).2.2
  ·obtain⟨o,m,ho,-⟩:=h.stl j hj
   rintro rfl;exact e (zg_ ho)
 have hs3:G.bm≠s':=by
  rcases hsn with e|e
  ·rw[e];exact(h.nodb k hk).1
  ·obtain⟨o,ho,-⟩:=h.dirs
   rintro rfl;exact e (zg_ ho)
 refine⟨?_, ?_, ?_, ?_, ?_, ?_, ?_,h.len,h.nodf, ?_,h.nodd, ?_, ?_, ?_⟩
 ·exact K _ _ h.disk (by simp[tyO,jr_]) (by simp[tyO,jr_])
 ·obtain⟨o,h1,h2⟩:=h.dirs
  exact⟨o,KM _ _ h1 (qK_ h2) (h.nodb k hk).2,h2⟩
 ·intro j hj
  show Sx.look L (G.d j)=some (xv_ (if j=k then s' else G.s j) (G.t j) (if j=k then .slice none 0 0 else G.p j))
  by_cases e:j=k
  ·subst e;rw[if_pos rfl,if_pos rfl];exact hd
  ·rw[if_neg e,if_neg e]
   exact keep _ _ (h.dir j hj) (hnt _ _ (h.dir j hj) (by simp[tyO,xv_])) (anM_ h.nodd hj hk e)
 ·intro j hj
  show NmM L G.fb (if j=k then s' else G.s j) (if j=k then d else S.dir j).seen
  by_cases e:j=k
  ·subst e;rw[if_pos rfl,if_pos rfl];exact hs
  ·rw[if_neg e,if_neg e]
   obtain⟨o,m,h1,h2,h3⟩:=h.seen j hj
   exact⟨o,m,KM _ _ h1 (qK_ h2) (vY_ h.nodm hj hk).2.2,h2,h3⟩
 ·intro j hj
  show NmM L G.fb (G.t j) (if j=k then d else S.dir j).stl
  by_cases e:j=k
  ·subst e;rw[if_pos rfl];exact ht
  ·rw[if_neg e]
   obtain⟨o,m,h1,h2,h3⟩:=h.stl j hj
   exact⟨o,m,KM _ _ h1 (qK_ h2) ((vY_ h.nodm hj hk).2.1 e),h2,h3⟩
 ·intro j hj
  by_cases e:j=k
  ·subst e
   refine⟨[], ?_, ?_,fun i hi=>absurd hi (Nat.not_lt_zero _)⟩
   ·show 0=(if j=j then d else S.dir j:DirL).pend.length
    rw[if_pos rfl,hd0];rfl
   ·show Gr L _ 1 (if j=j then .slice none 0 0 else G.p j) 0 []
    rw[if_pos rfl];exact Gr.nl
  ·obtain⟨vj,h1,h2,h3⟩:=h.pend j hj
   refine⟨vj, ?_, ?_, ?_⟩
   ·show vj.length=(if j=k then _ else S.dir j:DirL).pend.length
    rw[if_neg e];exact h1
   ·show Gr L _ 1 (if j=k then .slice none 0 0 else G.p j) vj.length vj
    rw[if_neg e]
    refine h2.keep fun b o hb ho=> ?_
    obtain⟨arr,ha⟩:=x0_ h2 hb
    rw[ho] at ha;cases ha
    exact K _ _ ho (by simp[tyO]) (by simp[tyO])
   ·intro i hi
    show FnP L G.fb (vj.getD i undef) ((if j=k then _ else S.dir j:DirL).pend.getD i vK_)
    rw[if_neg e]
    exact KF (h3 i hi)
 ·intro n hn
  exact K _ _ (h.file n hn) (by simp[tyO,xF_]) (by simp[tyO,xF_])
 ·have hn:=h.nodm
  have hk':k=0∨k=1∨k=2:=by omega
  rcases hk' with rfl|rfl|rfl
  ·show [s',G.s 1,G.s 2,G.t 0,G.t 1,G.t 2].Nodup
   exact List.nodup_cons.2 ⟨by simp only[List.mem_cons,List.not_mem_nil,or_false,not_or];exact⟨hs1 1 (by omega) (by omega),hs1 2 (by omega) (by omega),hs2 0 (by omega),hs2 1 (by omega),hs2 2 (by omega)⟩,(List.nodup_cons.1 hn).2⟩
  ·show [G.s 0,s',G.s 2,G.t 0,G.t 1,G.t 2].Nodup
   refine(List.Perm.swap (G.s 0) s' _).nodup_iff.1 ?_
   exact List.nodup_cons.2 ⟨by simp only[List.mem_cons,List.not_mem_nil,or_false,not_or];exact⟨hs1 0 (by omega) (by omega),hs1 2 (by omega) (by omega),hs2 0 (by omega),hs2 1 (by omega),hs2 2 (by omega)⟩,(List.nodup_cons.1 ((List.Perm.swap (G.s 0) (G.s 1) _).nodup_iff.2 hn)).2⟩
  ·show [G.s 0,G.s 1,s',G.t 0,G.t 1,G.t 2].Nodup
   have hp: ∀x:Nat,(x:: [G.s 0,G.s 1,G.t 0,G.t 1,G.t 2]).Perm [G.s 0,G.s 1,x,G.t 0,G.t 1,G.t 2]:=fun x=>((List.perm_middle (l₁:= [G.s 0,G.s 1]) (a:=x) (l₂:= [G.t 0,G.t 1,G.t 2]))).symm
   refine(hp s').nodup_iff.1 ?_
   exact List.nodup_cons.2 ⟨by simp only[List.mem_cons,List.not_mem_nil,or_false,not_or];exact⟨hs1 0 (by omega) (by omega),hs1 1 (by omega) (by omega),hs2 0 (by omega),hs2 1 (by omega),hs2 2 (by omega)⟩,(List.nodup_cons.1 ((hp (G.s 2)).nodup_iff.2 hn)).2⟩
 ·intro j hj
  show G.bm≠ (if j=k then s' else G.s j)∧G.bm≠G.t j
  by_cases e:j=k
  ·rw[if_pos e];exact⟨hs3,(h.nodb j hj).2⟩
  ·rw[if_neg e];exact h.nodb j hj
 ·intro i j hi hj hij b hb
  show slB (if j=k then .slice none 0 0 else G.p j)≠some b
  have hb':slB (if i=k then .slice none 0 0 else G.p i)=some b:=hb
  by_cases ei:i=k
  ·rw[if_pos ei] at hb';cases hb'
  ·rw[if_neg ei] at hb'
   by_cases ej:j=k
   ·rw[if_pos ej];intro e;cases e
   ·rw[if_neg ej];exact h.nodp i j hi hj hij b hb'
 ·exact kJ_ h.ok _ h1 h2 h3 h4 (fun c hc=>by rw[hd0] at hc;cases hc)
set_option linter.defProp false
def Wu_:=And.intro (And.intro (And.intro (@zn_) (@zm_)) (And.intro (@qr_) (@qL_))) (And.intro (And.intro (@qG_) (@qH_)) (And.intro (@Sx.tup2_0) (@Sx.tup2_1)))
def jV_ (S:DiskL) (k:Nat):DiskL:=z4_ S k ⟨(S.dir k).seen,(S.dir k).seen,[]⟩
theorem JH_ (X:ze_) (G:DkG) (S:DiskL) (k:Nat) (w:World) (hX: ∀p,p∈X→w.heap[p.1]? =some p.2) (hn: (keys X).Nodup) (hP:DkP X G S) (hk:k<3):
  Rets Tryz.prog 28 #[vp (G.d k) 0] w (XS w X (fun v D=>v=kD_ []∧DkP D (aix_ G k (G.s k)) (jV_ S k)∧ ∀b o,Sx.look X b=some o→b≠G.t k→b≠G.d k→Sx.look D b=some o)):=by
 obtain⟨ot,mt,hot,hmt,hnt⟩:=hP.stl k hk
 obtain⟨os,ms,hos,hms,hns⟩:=hP.seen k hk
 have hdl:=hP.dir k hk
 have hst:G.s k≠G.t k:=(vY_ hP.nodm hk hk).2.2
 have hnm: ∀ {b:Nat} {o:Obj} {m:List (List UInt8×Option Nat)},Sx.look X b=some o→wB_ vs qJ_ o m→G.d k≠b:=by
  rintro b o m hb hm rfl
  rw[hdl] at hb;cases hb
  obtain⟨es,cl,h,-⟩:=hm;cases h
 have hdt:=hnm hot hmt
 refine Rets.enterX Tryz.func28 rfl (rs:= []) Tryz.results28 Tryz.ntmps28 hX hn ?_
 refine kf ?_
 ((try with_reducible refine Cw.go [] ?_);(try simp(disch:=(first|assumption|omega| (simp only[w5_,wR_,UInt64.reduceToNat];try omega))) only[↓Sx.S0,Sx.S1,Tryz.fx,Wu_,Nat.reduceAdd,Nat.reducePow,Int.reducePow,Nat.reduceBEq, ↓reduceIte,UInt8.reduceToNat,UInt16.reduceToNat,UInt32.reduceToNat,UInt64.reduceToNat,Int.reduceToNat,(za_ (w0:=w) hdl)]))
 refine Ow.mapClearG (encK:=vs) (encV:=qJ_) rfl rfl Tryz.underlying68 rfl hot hmt (fun o1 hm1=> ?_)
 have hO:Only X (setB X (G.t k) o1) (G.t k) o1:=Only.set hot
 have hE1:=(Ext.refl w X).setB (b:=G.t k) (o:=o1)
 generalize setB X (G.t k) o1=L1 at*
 have hdl1:Sx.look L1 (G.d k)=some (xv_ (G.s k) (G.t k) (G.p k)):=(hO.rest _ hdt).trans hdl
 have hos1:Sx.look L1 (G.s k)=some os:=(hO.rest _ hst).trans hos
 have hr1:=za_ (w0:=w) hdl1
 refine ko @Wu_ ?_
 first|with_reducible refine ks [] @Wu_ ?_|refine kp @Wu_ ?_
 refine Cw.regionS [G.d k] [0,1,2,4,5,6,3,7,8] [] (by kernel_rfl) (by kernel_rfl) (by kernel_rfl) ?_
 simp only[zj_, ↓zf_, ↓zc_, ↓zw_, ↓zv_,zd_]
 refine kq (And.intro @Wu_ @hr1) ?_
 refine Ow.soft rfl rfl rfl ?_
 refine Ow.callX (X:=L1) (Y:= []) (List.append_nil _).symm rfl rfl Tryz.call56 (fun w' hw' hX' hn'=>ahy_ L1 (G.t k) (G.s k) o1 os ms w' hX' hn' hO.at_ hm1 hos1 hms (Ne.symm hst) (hns.keys (hP.ok.seen k hk).nodup)) (fun v4 D4 hC4 hS4=> ?_)
 obtain⟨rfl,hkp,o2,m2,hl2,hm2,hp2⟩:=hS4
 have hE2:=hE1.came0 hC4
 rw[List.append_nil]
 have hdl2:=hkp _ _ hdt hdl1
 have hr2:=za_ (w0:=w) hdl2
 with_reducible refine Ow.nil ?_
 refine⟨fun b hb=>by rw[List.mem_singleton] at hb;subst hb;rw[hr1,hr2], ?_⟩
 refine kq @Wu_ ?_
 try with_reducible refine Ow.nil ?_
 have st:=fun x=>Qd_ (G.s k) (G.t k) (G.p k) (.slice none 0 0) x ⟨rfl,rfl⟩
 first|with_reducible refine ks [] (And.intro @Wu_ (And.intro @hdl2 (@st))) ?_|refine kp (And.intro @Wu_ (And.intro @hdl2 (@st))) ?_
 refine⟨_,(ke @Wu_), ?_⟩
 have hkeep: ∀b o,Sx.look X b=some o→b≠G.t k→b≠G.d k→Sx.look (setB D4 (G.d k) (xv_ (G.s k) (G.t k) (.slice none 0 0))) b=some o:=fun b o hb h1 h2=>by
  rw[zb_ (Ne.symm h2)]
  exact hkp _ _ h1 ((hO.rest _ h1).trans hb)
 refine⟨hE2.setB,rfl, ?_,hkeep⟩
 have hos2:=hkp _ _ hst hos1
 refine hP.calm hk ⟨(S.dir k).seen,(S.dir k).seen,[]⟩ rfl hkeep ⟨os,ms, ?_,hms,hns⟩ ⟨o2,m2, ?_,hm2,hp2.trans hns⟩ (zB_ hdl2) (.inl rfl) (hP.ok.seen k hk) (hP.ok.seen k hk) (hP.ok.seenN k hk) (hP.ok.seenN k hk)
 ·rw[zb_ (hnm hos hms)];exact hos2
 ·rw[zb_ hdt];exact hl2
end Go.Proofs
end
section
open Go Go.Proofs Go.Sx Go.StP
namespace Go.Proofs
set_option maxRecDepth 10000
set_option maxHeartbeats 400000
set_option linter.unusedSimpArgs false
def zS_ (S:DiskL) (dir:List UInt8):DiskL×Nat:=
 if jd_ S dir []≠0 then(S,jd_ S dir []) else if(zl_ S).2≠0 then zl_ S else(jV_ (zl_ S).1 ((zD_ dir).getD 0),0)
set_option linter.defProp false
def kF_:=And.intro (And.intro (And.intro (@zn_) (@zm_)) (And.intro (@qr_) (@qL_))) (And.intro (And.intro (@qG_) (@qH_)) (And.intro (@Sx.tup2_0) (@Sx.tup2_1)))
theorem Zn_ (X:ze_) (G:DkG) (S:DiskL) (dir:List UInt8) (w:World) (hX: ∀p,p∈X→w.heap[p.1]? =some p.2) (hn: (keys X).Nodup) (hP:DkP X G S):
  Rets Tryz.prog 47 #[vp G.bd 0,vs dir] w (XS w X (fun v D=>v=vi ((zS_ S dir).2:Nat)∧ ∃G',G'.bd=G.bd∧DkP D G' (zS_ S dir).1)):=by
 refine Rets.enterX Tryz.func47 rfl (rs:= [.tmp 4]) Tryz.results47 Tryz.ntmps47 hX hn ?_
 refine kf ?_
 first|with_reducible refine ks [] @kF_ ?_|refine kp @kF_ ?_
 refine Ow.callC rfl rfl Tryz.call46 (fun w' hw'=>Rets.toX (jO_ w' G S dir (.slice none 0 0) [] (hP.world hw') (SlV.nil w') (by simp) (fun s hs=>by cases hs))) (fun B2 v2 D2 hA2 hB2 hN2 hS2=> ?_)
 obtain⟨rfl,hS2⟩:=hS2
 rw[List.append_nil]
 unfold zS_
 rcases hS2 with⟨he,rfl⟩ | ⟨he,k,hk,rfl⟩
 ·have e1:=ju_ he
  refine ko @kF_ ?_
  first|with_reducible refine ks [] (And.intro @kF_ @e1) ?_|refine kp (And.intro @kF_ @e1) ?_
  refine⟨_,(ke @kF_), ?_⟩
  rw[if_pos he]
  exact⟨Ext.refl w X,rfl,G,rfl,hP⟩
 ·have he': ¬ (jd_ S dir []≠0):=by rw[he];simp
  have hk3:=(z3_ hk).1
  have e1: ((0:Int) !=0)=false:=rfl
  obtain⟨hb1,hb2,hb3⟩:=jb_ S
  refine ko @kF_ ?_
  first|with_reducible refine ks [] (And.intro @kF_ @e1) ?_|refine kp (And.intro @kF_ @e1) ?_
  refine Ow.callM rfl rfl Tryz.call73 (zg_ hP.disk) (fun w' hw'=>kB_ G.bd G.bm S w' hP.ok.fuse (hw'.has _ _ (zq_ hP.disk))) ?_
  have hP2:=hP.setDisk (zl_ S).1 hb1 hb2 (xT_ hP.ok)
  have hE2:=(Ext.refl w X).setB (b:=G.bd) (o:=jr_ G.bm (zl_ S).1)
  generalize setB X G.bd (jr_ G.bm (zl_ S).1)=L2 at*
  by_cases hbn: (zl_ S).2=0
  ·have e2: (((zl_ S).2:Int) !=0)=false:=by rw[hbn];rfl
   refine ko (And.intro @kF_ @e2) ?_
   first|with_reducible refine ks [] @kF_ ?_|refine kp @kF_ ?_
   refine Ow.callX (X:=L2) (Y:= []) (List.append_nil _).symm rfl rfl Tryz.call28 (fun w' hw' hX' hn'=>JH_ L2 G (zl_ S).1 k w' hX' hn' hP2 hk3) (fun v4 D4 hC4 hS4=> ?_)
   obtain⟨rfl,hS4,-⟩:=hS4
   have hE4:=hE2.came0 hC4
   rw[List.append_nil]
   refine ko @kF_ ?_
   first|with_reducible refine ks [] @kF_ ?_|refine kp @kF_ ?_
   refine⟨_,(ke @kF_), ?_⟩
   rw[if_neg he',if_neg (by rw[hbn];simp),hk]
   exact⟨hE4,rfl,aix_ G k (G.s k),rfl,hS4⟩
  ·have e2:=ju_ hbn
   refine ko (And.intro @kF_ @e2) ?_
   first|with_reducible refine ks [] @kF_ ?_|refine kp @kF_ ?_
   refine⟨_,(ke @kF_), ?_⟩
   rw[if_neg he',if_pos hbn]
   exact⟨hE2,rfl,G,rfl,hP2⟩
def QX_ (w:World):Prop:= ∃e fz,w.heap[0]? =some (.cells #[vs qB_,vs vx_,vs WR_] e fz)
def wK_ (quota:Int):DiskL:=⟨fun _=>⟨[],[],[]⟩,[],quota,0,false,false⟩
theorem aji_ (b:Nat) (q:Int):qM_ (xX_ Tryz.prog 64) (zK_ Tryz.prog 64) [(0,vm b),(1,vi q)]=some (.agg #[vm b,vi q,vi 0, .bool false, .bool false]):=by
 rw[show xX_ Tryz.prog 64=some [(0,1),(1,1),(2,1),(3,1),(4,1)] from id (by kernel_rfl),show zK_ Tryz.prog 64=some (.agg #[.map none,vi 0,vi 0, .bool false, .bool false]) from id (by kernel_rfl)];rfl
theorem akQ_ (a b:Nat):qM_ (xX_ Tryz.prog 71) (zK_ Tryz.prog 71) [(0,vm a),(1,vm b)]=some (.agg #[vm a,vm b, .slice none 0 0]):=by
 rw[show xX_ Tryz.prog 71=some [(0,1),(1,1),(2,1)] from id (by kernel_rfl),show zK_ Tryz.prog 71=some (.agg #[.map none, .map none, .slice none 0 0]) from id (by kernel_rfl)];rfl
theorem kd_ (e:TypeId) (fz:Nat×Nat):zk_ (some (true,3)) (some (.cells #[vs qB_,vs vx_,vs WR_] e fz)) 0=some (.agg #[vs qB_,vs vx_,vs WR_]):=xa_ _ e fz 3 rfl
theorem vQ_ {k:Nat} (hk:k<3):vP_ (.arr 3 (false,1)) (.agg #[vs qB_,vs vx_,vs WR_]) (some (k:Int))=some (vs (qp_ k)):=by
 have:k=0∨k=1∨k=2:=by omega
 rcases this with rfl|rfl|rfl<;>rfl
def Qy_ (d:Nat→Nat):Nat→List (List UInt8×Option Nat)
 |0=> []
 |k+1=>Qy_ d k++ [(qp_ k,some (d k))]
theorem J9_ {d d':Nat→Nat}: ∀ {k:Nat},(∀j,j<k→d' j=d j)→Qy_ d' k=Qy_ d k
 |0,_=>rfl
 |k+1,h=>by
  unfold Qy_
  rw[J9_ fun j hj=>h j (by omega),h k (by omega)]
theorem aeV_ {d:Nat→Nat} {j:Nat} (hj:j<3): ∀ {k:Nat},k≤j→ ∀p,p∈Qy_ d k→p.1≠qp_ j
 |0,_,_,hp=>by cases hp
 |k+1,hk,p,hp=>by
  rcases List.mem_append.1 hp with hp|hp
  ·exact aeV_ hj (by omega) p hp
  ·rw[List.mem_singleton.1 hp]
   intro e
   have h1:=jx_ (k:=k) (by omega)
   have h2:=jx_ hj
   have e':qp_ k=qp_ j:=e
   rw[e',h2] at h1
   cases h1;omega
structure NwG where
 L:ze_
 o:Obj
 k:Nat
 d:Nat→Nat
 s:Nat→Nat
 t:Nat→Nat
def mtM (L:ze_) (b:Nat):Prop:= ∃o,Sx.look L b=some o∧wB_ vs qJ_ o ([]:List (List UInt8×Option Nat))
set_option linter.defProp false
def k0_:=And.intro (And.intro (@zn_) (And.intro (@zm_) (@qr_))) (And.intro (@qL_) (And.intro (@qG_) (@qH_)))
theorem aab_ (quota:Int) (w:World) (hq: -9223372036854775808≤quota∧quota<9223372036854775808) (hG:QX_ w):
  Rets Tryz.prog 18 #[vi quota] w (XS w [] (fun v D=> ∃G,v=vp G.bd 0∧DkP D G (wK_ quota))):=by
 obtain⟨e,fz,hg⟩:=hG
 refine Rets.enterX Tryz.func18 rfl (rs:= [.tmp 2]) Tryz.results18 Tryz.ntmps18 (fun p hp=>by cases hp) (by simp[keys]) ?_
 refine kf ?_
 first|with_reducible refine ks [] @k0_ ?_|refine kp @k0_ ?_
 refine Ow.makeMapG (encK:=vs) (encV:=qJ_) rfl rfl (fun bm om hbm hwm hM=> ?_)
 rw[List.nil_append]
 refine ko @k0_ ?_
 refine Ow.build (.agg #[vm bm,vi quota,vi 0, .bool false, .bool false]) rfl (aji_ bm quota) ?_
 refine ko @k0_ ?_
 refine Ow.box rfl rfl fun bd hbd hwd=> ?_
 simp only[qm_,ql_,qu_,zh_]
 have hmd:bm<bd:=zx_ hbd (by simp[keys])
 refine Ow.permL (M:= [(bm,om)]++ [(bd,jr_ bm (wK_ quota))]) (List.Perm.refl _) ?_
 have h0:Sx.look ([(bm,om)]++ [(bd,jr_ bm (wK_ quota))]) bm=some om:=by simp[Sx.look]
 have h1:Sx.look ([(bm,om)]++ [(bd,jr_ bm (wK_ quota))]) bd=some (jr_ bm (wK_ quota)):=j9_ hbd
 have hN:New w.heap.size ([(bm,om)]++ [(bd,jr_ bm (wK_ quota))]):=⟨hwm,hwd,trivial⟩
 generalize [(bm,om)]++ [(bd,jr_ bm (wK_ quota))]=L0 at*
 have hg0:=(Array.getElem?_eq_some_iff.1 hg).1
 have hrg:zy_ w L0 0=some (.cells #[vs qB_,vs vx_,vs WR_] e fz):=by rw[z6_ (hN.not hg0)];exact hg
 refine ko @k0_ ?_
 first|with_reducible refine ks [] (And.intro @k0_ (And.intro @hrg (@kd_))) ?_|refine kp (And.intro @k0_ (And.intro @hrg (@kd_))) ?_
 refine Cw.loopG (G:=NwG) [12,13,5,14,15,16,17,18,19,20,21,22,23,11] (fun g=> [(11,vi g.k)]) (fun g=>g.L) (fun g=>g.k≤3∧Sx.look g.L bm=some g.o∧wB_ vs qJ_ g.o (Qy_ g.d g.k)∧Sx.look g.L bd=some (jr_ bm (wK_ quota))∧New w.heap.size g.L∧ ∀j,j<g.k→Sx.look g.L (g.d j)=some (xv_ (g.s j) (g.t j) (.slice none 0 0))∧mtM g.L (g.s j)∧mtM g.L (g.t j)∧g.s j<g.t j∧g.t j<g.d j∧bd<g.s j∧ ∀i,i<j→g.d i<g.s j) (fun g=>3 - g.k) ⟨L0,om,0,fun _=>0,fun _=>0,fun _=>0⟩ rfl rfl ?_ ?_
 ·exact⟨Nat.zero_le _,h0,hM,h1,hN,fun j hj=>absurd hj (Nat.not_lt_zero _)⟩
 intro g j hg
 refine kv ?_
 clear h0 hM h1 hN hrg
 obtain⟨L,o,k,d,s,t⟩:=g
 simp only at hg ⊢
 obtain⟨hk,hlm,hM,hld,hN,hall⟩:=hg
 by_cases hlt:k<3
 ·have d1:decide ((k:Int)<3)=true:=decide_eq_true (by omega)
  have ixk:=vQ_ hlt
  have rdd:=za_ (w0:=w) hld
  first|with_reducible refine ks [] (And.intro @k0_ (And.intro @d1 (And.intro @ixk (@rdd)))) ?_|refine kp (And.intro @k0_ (And.intro @d1 (And.intro @ixk (@rdd)))) ?_
  refine Ow.makeMapG (encK:=vs) (encV:=qJ_) rfl rfl (fun bs os hbs hws hMs=> ?_)
  refine ko @k0_ ?_
  refine Ow.makeMapG (encK:=vs) (encV:=qJ_) rfl rfl (fun bt ot hbt hwt hMt=> ?_)
  refine ko @k0_ ?_
  refine Ow.build (.agg #[vm bs,vm bt, .slice none 0 0]) rfl (akQ_ bs bt) ?_
  refine ko @k0_ ?_
  refine Ow.box rfl rfl fun br hbr hwr=> ?_
  simp only[qm_,ql_,qu_,zh_]
  refine Ow.permL (M:=L++ [(bs,os)]++ [(bt,ot)]++ [(br,xv_ bs bt (.slice none 0 0))]) (List.Perm.refl _) ?_
  have up: ∀b x,Sx.look L b=some x→Sx.look (L++ [(bs,os)]++ [(bt,ot)]++ [(br,xv_ bs bt (.slice none 0 0))]) b=some x:=fun b x h=>zi_ (zi_ (zi_ h))
  have ls:Sx.look (L++ [(bs,os)]++ [(bt,ot)]++ [(br,xv_ bs bt (.slice none 0 0))]) bs=some os:=zi_ (zi_ (j9_ hbs))
  have lt:Sx.look (L++ [(bs,os)]++ [(bt,ot)]++ [(br,xv_ bs bt (.slice none 0 0))]) bt=some ot:=zi_ (j9_ hbt)
  have lr:Sx.look (L++ [(bs,os)]++ [(bt,ot)]++ [(br,xv_ bs bt (.slice none 0 0))]) br=some (xv_ bs bt (.slice none 0 0)):=j9_ hbr
  have hN1:New w.heap.size (L++ [(bs,os)]++ [(bt,ot)]++ [(br,xv_ bs bt (.slice none 0 0))]):=((hN.app (show New w.heap.size [(bs,os)] from⟨hws,trivial⟩)).app (show New w.heap.size [(bt,ot)] from⟨hwt,trivial⟩)).app (show New w.heap.size [(br,xv_ bs bt (.slice none 0 0))] from⟨hwr,trivial⟩)
  have c1:bs<bt:=zx_ hbt (by rw[zo_];simp[keys])
  have c2:bt<br:=zx_ hbr (by rw[zo_];simp[keys])
  have c3:bd<bs:=zx_ hbs (zg_ hld)
  have c4: ∀j,j<k→d j<bs:=fun j hj=>zx_ hbs (zg_ (hall j hj).1)
  have c5:bm<bs:=zx_ hbs (zg_ hlm)
  generalize L++ [(bs,os)]++ [(bt,ot)]++ [(br,xv_ bs bt (.slice none 0 0))]=L1 at*
  refine ko @k0_ ?_
  refine Ow.mapUpdateG (encK:=vs) (encV:=qJ_) (k:=qp_ k) (v:=some br) rfl rfl Tryz.underlying62 jF_ rfl rfl rfl (up _ _ hlm) hM (fun o2 hm2=> ?_)
  rw[JS_ (aeV_ hlt (Nat.le_refl _))] at hm2
  have ne: ∀b x,b≠bm→Sx.look L1 b=some x→Sx.look (setB L1 bm o2) b=some x:=fun b x h1 h2=>by rw[zb_ (Ne.symm h1)];exact h2
  refine ko @k0_ ?_
  first|with_reducible refine ks [] @k0_ ?_|refine kp @k0_ ?_
  refine Again.mk ⟨setB L1 bm o2,o2,k+1,fun j=>if j=k then br else d j,fun j=>if j=k then bs else s j,fun j=>if j=k then bt else t j⟩ (by show 3 - (k+1)<3 - k;omega) ⟨hlt,zB_ (up _ _ hlm), ?_,ne _ _ (by omega) (up _ _ hld),New.of_le fun q hq=>hN1.le q (by rwa [zU_] at hq),fun j hj=> ?_⟩ rfl rfl
  ·show wB_ vs qJ_ o2 (Qy_ (fun j=>if j=k then br else d j) (k+1))
   unfold Qy_
   rw[J9_ (d:=d) fun j hj=>if_neg (by omega),if_pos rfl]
   exact hm2
  ·show Sx.look (setB L1 bm o2) (if j=k then br else d j)=some (xv_ (if j=k then bs else s j) (if j=k then bt else t j) (.slice none 0 0))∧mtM (setB L1 bm o2) (if j=k then bs else s j)∧mtM (setB L1 bm o2) (if j=k then bt else t j)∧(if j=k then bs else s j)< (if j=k then bt else t j)∧(if j=k then bt else t j)< (if j=k then br else d j)∧bd< (if j=k then bs else s j)∧ ∀i,i<j→(if i=k then br else d i)< (if j=k then bs else s j)
   by_cases e:j=k
   ·subst e
    simp only[if_pos]
    refine⟨ne _ _ (by omega) lr,⟨os,ne _ _ (by omega) ls,hMs⟩,⟨ot,ne _ _ (by omega) lt,hMt⟩,c1,c2,c3,fun i hi=> ?_⟩
    rw[if_neg (by omega)];exact c4 i hi
   ·simp only[if_neg e]
    have hj':j<k:=by have:j<k+1:=hj;omega
    obtain⟨q1,⟨oo,q2,q3⟩,⟨oo2,q4,q5⟩,q6,q7,q8,q9⟩:=hall j hj'
    refine⟨ne _ _ (by omega) (up _ _ q1),⟨oo,ne _ _ (by omega) (up _ _ q2),q3⟩,⟨oo2,ne _ _ (by omega) (up _ _ q4),q5⟩,q6,q7,q8,fun i hi=> ?_⟩
    rw[if_neg (by omega)];exact q9 i hi
 ·obtain rfl:k=3:=by omega
  have d1:decide (((3:Nat):Int)<3)=false:=rfl
  first|with_reducible refine ks [] (And.intro @k0_ @d1) ?_|refine kp (And.intro @k0_ @d1) ?_
  refine⟨_,(ke @k0_), ?_⟩
  obtain⟨a1,a2,a3,a4,a5,a6,a7⟩:=hall 0 (by omega)
  obtain⟨b1,b2,b3,b4,b5,b6,b7⟩:=hall 1 (by omega)
  obtain⟨c1,c2,c3,c4,c5,c6,c7⟩:=hall 2 (by omega)
  have b8:=b7 0 (by omega)
  have c8:=c7 1 (by omega)
  refine⟨Ext.of_new hN,⟨bd,bm,d,s,t,fun _=> .slice none 0 0,[]⟩,rfl,hld,⟨o,hlm,hM⟩,fun k hk=>(hall k hk).1,fun k hk=> ?_,fun k hk=> ?_,fun k hk=>⟨[],rfl,Gr.nl,fun i hi=>absurd hi (Nat.not_lt_zero _)⟩,fun n hn=>absurd hn (Nat.not_lt_zero _),rfl,List.nodup_nil, ?_, ?_,fun k hk=> ?_,fun i j hi hj hij b hb=>(by cases hb), ?_⟩
  ·obtain⟨x,y,z⟩:=(hall k hk).2.1
   exact⟨x,[],y,z,List.Perm.nil⟩
  ·obtain⟨x,y,z⟩:=(hall k hk).2.2.1
   exact⟨x,[],y,z,List.Perm.nil⟩
  ·show [s 0,s 1,s 2,t 0,t 1,t 2].Nodup
   simp only[List.nodup_cons,List.mem_cons,List.not_mem_nil,not_or,or_false,List.nodup_nil,and_true,not_false_eq_true]
   refine⟨⟨?_, ?_, ?_, ?_, ?_⟩,⟨?_, ?_, ?_, ?_⟩,⟨?_, ?_, ?_⟩,⟨?_, ?_⟩, ?_⟩<;>omega
  ·show [d 0,d 1,d 2].Nodup
   simp only[List.nodup_cons,List.mem_cons,List.not_mem_nil,not_or,or_false,List.nodup_nil,and_true,not_false_eq_true]
   refine⟨⟨?_, ?_⟩, ?_⟩<;>omega
  ·have:=(hall k hk).2.2.2
   show bm≠s k∧bm≠t k
   omega
  ·exact⟨fun _ _=>List.Pairwise.nil,fun _ _=>List.Pairwise.nil,fun _ _ p hp=>(by cases hp),fun _ _ p hp=>(by cases hp),fun _ _ c hc=>(by cases hc),fun f hf=>(by cases hf),⟨show(-9223372036854775808:Int)≤0 by decide,show(0:Int)<9223372036854775808 by decide,fun _=>show(0:Int)≤0 by decide⟩,hq⟩
end Go.Proofs
end
section
open Go Go.Proofs Go.Sx Go.StP
namespace Go.Proofs
set_option maxRecDepth 10000
set_option maxHeartbeats 400000
set_option linter.unusedSimpArgs false
structure FiL where
 dir:List UInt8
 name:List UInt8
 data:List UInt8
def fiC (r:FiL):List Value:= [vs r.dir]++ ([vs r.name]++ ([vs r.data]))
def fi0:FiL:=⟨[],[],[]⟩
theorem jX_ (r:FiL): (fiC r).length=3:=by simp[fiC]
theorem ZH_ (r:FiL):Value.cells (.agg (fiC r).toArray)=(fiC r).toArray:=zh_ _
theorem add_ (r:FiL): (fiC r).all Value.oneCell'=true:=by
 unfold fiC
 simp only[List.all_append,List.all_cons,List.all_nil,w9_,Bool.and_true,Bool.true_and]
 rfl
theorem zrFi:zK_ Tryz.prog 60=some (.agg (fiC fi0).toArray):=id (by kernel_rfl)
theorem anf_:qf_ Tryz.prog 60=some (true,3):=id (by kernel_rfl)
theorem aiH_ (r:FiL):fiC r=([]:List Value)++ (([vs r.dir])++ ([vs r.name]++ ([vs r.data]))):=by
 unfold fiC;simp only[List.append_assoc,List.nil_append,List.append_nil]
theorem arT_ (r:FiL):Sx.partV (false,1) (fiC r).toArray 0=some (vs r.dir):=by
 rw[aiH_];exact WO_ _ _ _ (by simp)
theorem amK_ (r:FiL) (n:Nat) (E:TypeId) (fz:Nat×Nat):zk_ (some (false,n)) (some (.cells (fiC r).toArray E fz)) 0=some (vs r.dir):=by
 rw[aiH_];exact qw_ _ _ _ n E fz (by simp)
theorem aoX_ {w:World} {v:Value} {l:List FiL} {b off:Nat} {arr:Array Value} {E:TypeId} {fz:Nat×Nat} (h:RowS 3 fiC fi0 w v l b off arr E fz) {k:Nat} (hk:k<l.length) (n:Nat):zk_ (some (false,n)) (some (.cells arr E fz)) (off+k*3+0)=some (vs (l.getD k fi0).dir):=by
 rw[RowS.cell h hk (by omega)];generalize l.getD k fi0=r;rw[aiH_];exact x6_ _ _ _ (by simp)
theorem aic_ (r:FiL):fiC r=(([vs r.dir]))++ (([vs r.name])++ ([vs r.data])):=by
 unfold fiC;simp only[List.append_assoc,List.nil_append,List.append_nil]
theorem ar3_ (r:FiL):Sx.partV (false,1) (fiC r).toArray 1=some (vs r.name):=by
 rw[aic_];exact WO_ _ _ _ (by simp)
theorem amd_ (r:FiL) (n:Nat) (E:TypeId) (fz:Nat×Nat):zk_ (some (false,n)) (some (.cells (fiC r).toArray E fz)) 1=some (vs r.name):=by
 rw[aic_];exact qw_ _ _ _ n E fz (by simp)
theorem aiM_ {w:World} {v:Value} {l:List FiL} {b off:Nat} {arr:Array Value} {E:TypeId} {fz:Nat×Nat} (h:RowS 3 fiC fi0 w v l b off arr E fz) {k:Nat} (hk:k<l.length) (n:Nat):zk_ (some (false,n)) (some (.cells arr E fz)) (off+k*3+1)=some (vs (l.getD k fi0).name):=by
 rw[RowS.cell h hk (by omega)];generalize l.getD k fi0=r;rw[aic_];exact x6_ _ _ _ (by simp)
theorem ajn_ (r:FiL):fiC r=(([vs r.dir])++ ([vs r.name]))++ (([vs r.data])++ (([]:List Value))):=by
 unfold fiC;simp only[List.append_assoc,List.nil_append,List.append_nil]
theorem arA_ (r:FiL):Sx.partV (false,1) (fiC r).toArray 2=some (vs r.data):=by
 rw[ajn_];exact WO_ _ _ _ (by simp)
theorem anj_ (r:FiL) (n:Nat) (E:TypeId) (fz:Nat×Nat):zk_ (some (false,n)) (some (.cells (fiC r).toArray E fz)) 2=some (vs r.data):=by
 rw[ajn_];exact qw_ _ _ _ n E fz (by simp)
theorem acI_ {w:World} {v:Value} {l:List FiL} {b off:Nat} {arr:Array Value} {E:TypeId} {fz:Nat×Nat} (h:RowS 3 fiC fi0 w v l b off arr E fz) {k:Nat} (hk:k<l.length) (n:Nat):zk_ (some (false,n)) (some (.cells arr E fz)) (off+k*3+2)=some (vs (l.getD k fi0).data):=by
 rw[RowS.cell h hk (by omega)];generalize l.getD k fi0=r;rw[ajn_];exact x6_ _ _ _ (by simp)
theorem aid_ (r:FiL) (E:TypeId) (fz:Nat×Nat):zk_ (some (true,3)) (some (.cells (fiC r).toArray E fz)) 0=some (.agg (fiC r).toArray):=xa_ _ E fz 3 (by rw[List.size_toArray,jX_])
theorem ame_ (old:Array Value) (r:FiL) (a:Bool) (E:TypeId) (h:old.size=3):zu_ (some (a,3)) (some (.cells old E (0,0))) 0 (.agg (fiC r).toArray)=some (.cells (fiC r).toArray E (0,0)):=jJ_ _ a old E (jX_ r) (add_ r) h
theorem aj4_ (r r':FiL) (a:Bool) (E:TypeId):zu_ (some (a,3)) (some (.cells (fiC r').toArray E (0,0))) 0 (.agg (fiC r).toArray)=some (.cells (fiC r).toArray E (0,0)):=ame_ _ r a E (by rw[List.size_toArray,jX_])
theorem anC_ {w:World} {v:Value} {l:List FiL} {b off:Nat} {arr:Array Value} {E:TypeId} {fz:Nat×Nat} (h:RowS 3 fiC fi0 w v l b off arr E fz) {k:Nat} (hk:k<l.length):zk_ (some (true,3)) (some (.cells arr E fz)) (off+k*3)=some (.agg (fiC (l.getD k fi0)).toArray):=RowS.load h jX_ (by omega) hk
theorem ao1_:Tryz.prog.stoodInHeld 60=false:=by kernel_rfl
theorem aoZ_:Tryz.prog.eqGuardType Tryz.prog.depth 60=false:=by kernel_rfl
theorem ar6_ (r r':FiL):eqD Tryz.prog 8 60 (.agg (fiC r).toArray) (.agg (fiC r').toArray)=some ((r.dir==r'.dir)&& (r.name==r'.name)&& (r.data==r'.data)):=by
 have hs: ∀ (a b:List UInt8),eqD Tryz.prog 7 9 (vs a) (vs b)=some (a==b):=by
  intro a b;unfold eqD;rw[Tryz.underlying9];simp only[vs,Vt_]
 have ags:qf_ Tryz.prog 9=some (false,1):=id (by kernel_rfl)
 unfold eqD
 rw[Tryz.underlying60]
 simp only
 rw[ao1_]
 simp only[Bool.false_eq_true, ↓reduceIte,kI_,k5_,ags,arT_,ar3_,arA_,hs]
 cases(r.dir==r'.dir)<;>cases(r.name==r'.name)<;>cases(r.data==r'.data)<;>simp
theorem neFi (r r':FiL):q7_ Tryz.prog .neq 60 (.agg (fiC r).toArray) (.agg (fiC r').toArray)=some (.bool (!((r.dir==r'.dir)&& (r.name==r'.name)&& (r.data==r'.data)))):=by
 unfold q7_ eqX;rw[aoZ_];simp[q8_,ar6_]
theorem afx_ (r:FiL):qM_ (xX_ Tryz.prog 60) (zK_ Tryz.prog 60) [(0,vs r.dir),(1,vs r.name),(2,vs r.data)]=some (.agg (fiC r).toArray):=by
 have hp:xX_ Tryz.prog 60=some [(0,1),(1,1),(2,1)]:=id (by kernel_rfl)
 rw[hp,zrFi]
 have e0: (fiC fi0).toArray=(([]:List Value)++ (([vs fi0.dir])++ ([vs fi0.name]++ ([vs fi0.data])))).toArray:=by congr 1<;>simp only[fiC,List.append_assoc,List.nil_append,List.append_nil]
 have q0:QJ_ (([]:List Value)++ (([vs fi0.dir])++ ([vs fi0.name]++ ([vs fi0.data])))).toArray 0 ([vs r.dir])=(([]:List Value)++ (([vs r.dir])++ ([vs fi0.name]++ ([vs fi0.data])))).toArray:=JY_ _ _ _ _ (by simp) (rfl)
 have s0: (([]:List Value)++ (([vs fi0.dir])++ ([vs fi0.name]++ ([vs fi0.data])))).toArray.size=3:=by simp
 have z0: (Value.cells (vs r.dir)).toList= [vs r.dir]:=by rfl
 have y0: (Value.cells (vs r.dir)).size=1:=by rw[←Array.length_toList,z0];simp
 have e1: (([]:List Value)++ (([vs r.dir])++ ([vs fi0.name]++ ([vs fi0.data])))).toArray=((([vs r.dir]))++ (([vs fi0.name])++ ([vs fi0.data]))).toArray:=by congr 1<;>simp only[fiC,List.append_assoc,List.nil_append,List.append_nil]
 have q1:QJ_ ((([vs r.dir]))++ (([vs fi0.name])++ ([vs fi0.data]))).toArray 1 ([vs r.name])=((([vs r.dir]))++ (([vs r.name])++ ([vs fi0.data]))).toArray:=JY_ _ _ _ _ (by simp) (rfl)
 have s1: ((([vs r.dir]))++ (([vs fi0.name])++ ([vs fi0.data]))).toArray.size=3:=by simp
 have z1: (Value.cells (vs r.name)).toList= [vs r.name]:=by rfl
 have y1: (Value.cells (vs r.name)).size=1:=by rw[←Array.length_toList,z1];simp
 have e2: ((([vs r.dir]))++ (([vs r.name])++ ([vs fi0.data]))).toArray=((([vs r.dir])++ ([vs r.name]))++ (([vs fi0.data])++ (([]:List Value)))).toArray:=by congr 1<;>simp only[fiC,List.append_assoc,List.nil_append,List.append_nil]
 have q2:QJ_ ((([vs r.dir])++ ([vs r.name]))++ (([vs fi0.data])++ (([]:List Value)))).toArray 2 ([vs r.data])=((([vs r.dir])++ ([vs r.name]))++ (([vs r.data])++ (([]:List Value)))).toArray:=JY_ _ _ _ _ (by simp) (rfl)
 have s2: ((([vs r.dir])++ ([vs r.name]))++ (([vs fi0.data])++ (([]:List Value)))).toArray.size=3:=by simp
 have z2: (Value.cells (vs r.data)).toList= [vs r.data]:=by rfl
 have y2: (Value.cells (vs r.data)).size=1:=by rw[←Array.length_toList,z2];simp
 have e3: ((([vs r.dir])++ ([vs r.name]))++ (([vs r.data])++ (([]:List Value)))).toArray=(fiC r).toArray:=by congr 1<;>simp only[fiC,List.append_assoc,List.nil_append,List.append_nil]
 simp only[qM_]
 rw[e0]
 unfold Sx.fillV
 simp only[List.getElem?_cons_zero,List.getElem?_cons_succ,z0,y0]
 rw[if_pos ⟨trivial,by rw[s0];decide⟩,q0]
 rw[e1]
 unfold Sx.fillV
 simp only[List.getElem?_cons_zero,List.getElem?_cons_succ,z1,y1]
 rw[if_pos ⟨trivial,by rw[s1];decide⟩,q1]
 rw[e2]
 unfold Sx.fillV
 simp only[List.getElem?_cons_zero,List.getElem?_cons_succ,z2,y2]
 rw[if_pos ⟨trivial,by rw[s2];decide⟩,q2]
 rw[e3];rfl
abbrev FiSl (w:World) (v:Value) (l:List FiL):Prop:=SlV 3 fiC fi0 w v l
theorem DkP.seen1 {X L:ze_} {G:DkG} {S:DiskL} (h:DkP X G S) {k:Nat} (hk:k<3) {l':NmL} (keep: ∀b o,Sx.look X b=some o→b≠G.s k→Sx.look L b=some o) (hs:NmM L G.fb (G.s k) l') (h1:SrtN l') (h3: ∀p,p∈l'→p.2<S.files.length):
  DkP L G (z4_ S k ⟨l',(S.dir k).stl,(S.dir k).pend⟩):=by
 obtain⟨osk,msk,hosk,hmsk,-⟩:=h.seen k hk
 have hns: ∀b o,Sx.look X b=some o→tyO o≠none→b≠G.s k:=by
  rintro b o hb ht rfl
  rw[hosk] at hb;cases hb;exact ht (qK_ hmsk)
 have K: ∀b o,Sx.look X b=some o→tyO o≠none→Sx.look L b=some o:=fun b o hb h1=>keep b o hb (hns b o hb h1)
 have es: ∀j,(z4_ S k ⟨l',(S.dir k).stl,(S.dir k).pend⟩).dir j=if j=k then⟨l',(S.dir k).stl,(S.dir k).pend⟩ else S.dir j:=fun _=>rfl
 have e2: ∀j,((z4_ S k ⟨l',(S.dir k).stl,(S.dir k).pend⟩).dir j).stl=(S.dir j).stl:=fun j=>by
  rw[es];by_cases e:j=k
  ·subst e;rw[if_pos rfl]
  ·rw[if_neg e]
 have e3: ∀j,((z4_ S k ⟨l',(S.dir k).stl,(S.dir k).pend⟩).dir j).pend=(S.dir j).pend:=fun j=>by
  rw[es];by_cases e:j=k
  ·subst e;rw[if_pos rfl]
  ·rw[if_neg e]
 refine⟨K _ _ h.disk (by simp[tyO,jr_]), ?_,fun j hj=>K _ _ (h.dir j hj) (by simp[tyO,xv_]),fun j hj=> ?_,fun j hj=> ?_,fun j hj=> ?_,fun n hn=>K _ _ (h.file n hn) (by simp[tyO,xF_]),h.len,h.nodf,h.nodm,h.nodd,h.nodb,h.nodp,kJ_ h.ok _ h1 (h.ok.stl k hk) h3 (h.ok.stlN k hk) (h.ok.pendN k hk)⟩
 ·obtain⟨o,h1,h2⟩:=h.dirs
  exact⟨o,keep _ _ h1 (h.nodb k hk).1,h2⟩
 ·rw[es]
  by_cases e:j=k
  ·subst e;rw[if_pos rfl];exact hs
  ·rw[if_neg e]
   obtain⟨o,m,h1,h2,h3⟩:=h.seen j hj
   exact⟨o,m,keep _ _ h1 ((vY_ h.nodm hj hk).1 e),h2,h3⟩
 ·rw[e2]
  obtain⟨o,m,h1,h2,h3⟩:=h.stl j hj
  exact⟨o,m,keep _ _ h1 (Ne.symm (vY_ h.nodm hk hj).2.2),h2,h3⟩
 ·rw[e3]
  obtain⟨vals,h1,h2,h3⟩:=h.pend j hj
  refine⟨vals,h1,h2.keep fun b o hb ho=> ?_,fun i hi=>(h3 i hi).keep fun b o ho hx=>K b o ho ?_⟩
  ·obtain⟨arr,ha⟩:=x0_ h2 hb
   rw[ho] at ha;cases ha
   exact K _ _ ho (by simp[tyO])
  ·rcases hx with⟨s,rfl⟩ | ⟨a,rfl⟩<;>simp[tyO,kV_,KV_]
def zO_ (S:DiskL) (f:FiL):DiskL:=match zD_ f.dir with
 |some k=>if qn_ f.name=true∧f.data.length≤1048576 then z4_ (kg_ S ⟨f.data,f.data.length⟩) k ⟨XY_ (S.dir k).seen (f.name,S.files.length),(S.dir k).stl,(S.dir k).pend⟩ else S
 |none=>S
def setV (S:DiskL) (vis:List Nat):DiskL:={S with dir:=fun k=>if k∈vis then⟨(S.dir k).seen,(S.dir k).seen,[]⟩ else S.dir k}
theorem alh_ (S:DiskL):setV S []=S:=by
 unfold setV
 simp
theorem aef_ (S:DiskL) (vis:List Nat) (k:Nat):jV_ (setV S vis) k=setV S (vis++ [k]):=by
 unfold jV_ z4_ setV
 simp only
 congr 1
 funext j
 by_cases e:j=k
 ·subst e
  rw[if_pos rfl,if_pos (List.mem_append_right _ (List.mem_singleton.2 rfl))]
  by_cases h:j∈vis
  ·rw[if_pos h]
  ·rw[if_neg h]
 ·rw[if_neg e]
  by_cases h:j∈vis
  ·rw[if_pos h,if_pos (List.mem_append_left _ h)]
  ·rw[if_neg h,if_neg (fun hm=>by
    rcases List.mem_append.1 hm with hm|hm
    ·exact h hm
    ·exact e (List.mem_singleton.1 hm))]
theorem ahu_ (S:DiskL) {a b:List Nat} (h: ∀k,k∈a↔k∈b):setV S a=setV S b:=by
 unfold setV
 congr 1
 funext j
 by_cases e:j∈a
 ·rw[if_pos e,if_pos ((h j).1 e)]
 ·rw[if_neg e,if_neg (fun e2=>e ((h j).2 e2))]
def ofD (quota:Int) (l:List FiL):DiskL:=setV (l.foldl zO_ (wK_ quota)) [0,1,2]
end Go.Proofs
end
section
open Go Go.Proofs Go.Sx Go.StP
namespace Go.Proofs
set_option maxRecDepth 10000
set_option maxHeartbeats 400000
set_option linter.unusedSimpArgs false
theorem aqY_ (b o:Nat):q7_ Tryz.prog .neq 61 (vp b o) (.pointer none)=some (.bool true):=by
 simp[q7_,eqX,q8_,qR_,Tryz.underlying61,vp]
theorem aoF_:q7_ Tryz.prog .neq 61 (.pointer none) (.pointer none)=some (.bool false):=by
 simp[q7_,eqX,q8_,qR_,Tryz.underlying61]
theorem ag3_ (s:List UInt8) (n:Nat):qM_ (xX_ Tryz.prog 67) (zK_ Tryz.prog 67) [(0,vs s),(1,vi (n:Int))]=some (.agg #[vs s,vi (n:Int)]):=by
 rw[show xX_ Tryz.prog 67=some [(0,1),(1,1)] from id (by kernel_rfl),show zK_ Tryz.prog 67=some (.agg #[vs [],vi 0]) from id (by kernel_rfl)];rfl
theorem xD_ {X:ze_} {c:Nat} {x:Obj} (h:jB_ X c) {b:Nat} {o:Obj} (hb:Sx.look X b=some o):Sx.look ((c,x)::X) b=some o:=by
 have:=zx_ h (zg_ hb)
 simp only[Sx.look]
 rw[if_neg (by omega)];exact hb
structure OfKG where
 i:Nat
 G:DkG
 X:ze_
structure OvKG where
 vis:List Nat
 dn:List (List UInt8×Option Nat)
 lf:List (List UInt8×Option Nat)
 it:Obj
 G:DkG
 X:ze_
def FiB (l:List FiL):Prop:= ∀f,f∈l→f.name.length<1099511627776∧f.data.length<1099511627776
set_option linter.defProp false
def z7_:=And.intro (And.intro (And.intro (And.intro (@zn_) (@zm_)) (And.intro (@qr_) (And.intro (@qL_) (@qG_)))) (And.intro (And.intro (@qH_) (@aqY_)) (And.intro (@aoF_) (And.intro (@Sx.tup2_0) (@Sx.tup2_1))))) (And.intro (And.intro (And.intro (@ZH_) (@aid_)) (And.intro (@amK_) (And.intro (@amd_) (@anj_)))) (And.intro (And.intro (@aj4_) (@QG_)) (And.intro (@Sx.tup3_0) (And.intro (@Sx.tup3_1) (@Sx.tup3_2)))))
theorem alM_ (quota:Int) (v:Value) (l:List FiL) (w:World) (hq: -9223372036854775808≤quota∧quota<9223372036854775808) (hG:QX_ w) (hv:FiSl w v l) (hl:l.length<1000000) (hb:FiB l):
  Rets Tryz.prog 7 #[vi quota,v] w (XS w [] (fun v D=> ∃G,v=vp G.bd 0∧DkP D G (ofD quota l))):=by
 have ln:=hv.len
 obtain⟨rb,off,arr,E,fz,hr⟩:=hv.row
 refine Rets.enterX Tryz.func7 rfl (rs:= [.tmp 4]) Tryz.results7 Tryz.ntmps7 (fun p hp=>by cases hp) (by simp[keys]) ?_
 refine kf ?_
 first|with_reducible refine ks [] @z7_ ?_|refine kp @z7_ ?_
 refine Ow.callC rfl rfl Tryz.call18 (fun w' hw'=>aab_ quota w' hq (by obtain⟨e,f,hg⟩:=hG;exact⟨e,f,by rw[hw'.old _ (Array.getElem?_eq_some_iff.1 hg).1 (by simp[keys])];exact hg⟩)) (fun B2 v2 D2 hA2 hB2 hN2 hS2=> ?_)
 obtain⟨G0,rfl,hP0⟩:=hS2
 rw[List.nil_append]
 have hN0:New w.heap.size D2:=hN2.mono hB2
 refine ko @z7_ ?_
 first|with_reducible refine ks [] (And.intro @z7_ @ln) ?_|refine kp (And.intro @z7_ @ln) ?_
 refine Cw.loopG (G:=OfKG) [16,17,18,7,19,20,21,22,23,24,25,8,26,27,28,29,30,31,32,33,34,35,36,37,38,39,40,41,42,43,44,45,46,47,48,49,50,51,52,15] (fun g=> [(15,vi g.i)]) (fun g=>g.X) (fun g=>g.i≤l.length∧DkP g.X g.G ((l.take g.i).foldl zO_ (wK_ quota))∧g.G.bd=G0.bd∧New w.heap.size g.X) (fun g=>l.length - g.i) ⟨0,G0,D2⟩ rfl rfl ?_ ?_
 ·exact⟨Nat.zero_le _,hP0,rfl,hN0⟩
 intro g j hg
 refine kv ?_
 clear hP0 hN0
 obtain⟨i,G,X⟩:=g
 simp only at hg ⊢
 obtain⟨hi,hP,hbd,hN⟩:=hg
 rw[←hbd]
 by_cases hlt:i<l.length
 ·have d1:decide ((i:Int)< (l.length:Int))=true:=decide_eq_true (by omega)
  have hrl:=hr.lt (by omega)
  have ixl:=hr.idx true i hlt
  have ldl:=hr.load jX_ (by omega) hlt
  have rdl:zy_ w X rb=some (.cells arr E fz):=by rw[z6_ (hN.not hrl)];exact hr.has (by omega)
  have hts: (l.take (i+1)).foldl zO_ (wK_ quota)=zO_ ((l.take i).foldl zO_ (wK_ quota)) (l.getD i fi0):=by
   rw[StP.take_snoc (z:=fi0) hlt,List.foldl_append];rfl
  have hfb:=hb (l.getD i fi0) (by rw[List.getD_eq_getElem?_getD,List.getElem?_eq_getElem hlt];exact List.getElem_mem _)
  generalize l.getD i fi0=r at*
  generalize (l.take i).foldl zO_ (wK_ quota)=S at*
  first|with_reducible refine ks [] (And.intro @z7_ (And.intro @d1 (And.intro @ixl (And.intro @rdl (@ldl))))) ?_|refine kp (And.intro @z7_ (And.intro @d1 (And.intro @ixl (And.intro @rdl (@ldl))))) ?_
  refine Ow.alloc rfl rfl zrFi fun b7 hb7 hw7=> ?_
  simp only[zh_,List.nil_append,List.cons_append]
  refine Ow.permL (M:=(b7, .cells (fiC fi0).toArray 60 (0,0))::X) (by classical exact List.perm_iff_count.2 fun a=>by simp only[List.count_append,List.count_cons,List.count_nil]<;>omega) ?_
  refine ko @z7_ ?_
  have hP1:DkP ((b7, .cells (fiC r).toArray 60 (0,0))::X) G S:=hP.mono fun b o h=>xD_ hb7 h
  have hl7:Sx.look ((b7,Obj.cells (fiC r).toArray 60 (0,0))::X) b7=some (.cells (fiC r).toArray 60 (0,0)):=by simp[Sx.look]
  have hN1:New w.heap.size ((b7,Obj.cells (fiC r).toArray 60 (0,0))::X):=⟨hw7,hN⟩
  generalize (b7,Obj.cells (fiC r).toArray 60 (0,0))::X=L1 at*
  have hr7:=za_ (w0:=w) hl7
  have hrb:=za_ (w0:=w) hP1.disk
  obtain⟨om,hom,hM⟩:=hP1.dirs
  first|with_reducible refine ks [] @z7_ ?_|refine kp @z7_ ?_
  refine Cw.regionS [G.bd,b7] [0,1,2,4,3,5,6,7] [] (by kernel_rfl) (by kernel_rfl) (by kernel_rfl) ?_
  simp only[zj_, ↓zf_, ↓zc_, ↓zw_, ↓zv_,zd_]
  refine kq (And.intro @z7_ (And.intro @hrb (@hr7))) ?_
  refine Ow.soft rfl rfl rfl ?_
  refine Ow.mapGetG (encK:=vs) (encV:=qJ_) (k:=r.dir) (z:=none) rfl rfl Tryz.underlying62 jF_ zrPd rfl rfl (za_ hom) hM ?_
  with_reducible refine Ow.nil ?_
  refine⟨by intro b hb;simp only[List.mem_cons,List.not_mem_nil,or_false] at hb;(try subst hb);rfl, ?_⟩
  rw[Zt_]
  cases hwd:zD_ r.dir with
  |none=>
   have hp0:qJ_ none= .pointer none:=rfl
   refine kq (And.intro @z7_ @hp0) ?_
   try with_reducible refine Ow.nil ?_
   first|with_reducible refine ks [] @z7_ ?_|refine kp @z7_ ?_
   exact Again.mk ⟨i+1,G,L1⟩ (by show l.length - (i+1)<l.length - i;omega) ⟨hlt,by show DkP L1 G ((l.take (i+1)).foldl zO_ (wK_ quota));rw[hts];unfold zO_;rw[hwd];exact hP1,rfl,hN1⟩ rfl rfl
  |some k=>
   have hp: ∀q:Nat,qJ_ (some q)=vp q 0:=fun _=>rfl
   have hk3:=(z3_ hwd).1
   refine kq (And.intro @z7_ @hp) ?_
   try with_reducible refine Ow.nil ?_
   first|with_reducible refine ks [] (And.intro @z7_ @hr7) ?_|refine kp (And.intro @z7_ @hr7) ?_
   refine Ow.callFV rfl Tryz.call27 (fun w' hw'=>QR_ r.name w' hfb.1) ?_
   have hno: ¬ (qn_ r.name=true∧r.data.length≤1048576)→zO_ S r=S:=fun h=>by unfold zO_;rw[hwd];simp only;rw[if_neg h]
   cases hfn:qn_ r.name with
   |false=>
    refine ko @z7_ ?_
    first|with_reducible refine ks [] @z7_ ?_|refine kp @z7_ ?_
    exact Again.mk ⟨i+1,G,L1⟩ (by show l.length - (i+1)<l.length - i;omega) ⟨hlt,by show DkP L1 G ((l.take (i+1)).foldl zO_ (wK_ quota));rw[hts,hno (fun h=>by rw[hfn] at h;cases h.1)];exact hP1,rfl,hN1⟩ rfl rfl
   |true=>
    by_cases hdl:r.data.length≤1048576
    ·have d2:decide ((r.data.length:Int)≤1048576)=true:=decide_eq_true (by omega)
     have hrd:=za_ (w0:=w) (hP1.dir k hk3)
     obtain⟨os,ms,hos,hms,hnp⟩:=hP1.seen k hk3
     refine ko (And.intro @z7_ (And.intro @hr7 (@d2))) ?_
     first|with_reducible refine ks [] @z7_ ?_|refine kp @z7_ ?_
     refine Cw.regionS [G.d k,b7] [0,1,2,4,6,8,3,5,7,9,10,11,12,13] [13] (by kernel_rfl) (by kernel_rfl) (by kernel_rfl) ?_
     simp only[zj_, ↓zf_, ↓zc_, ↓zw_, ↓zv_,zd_]
     refine kq (And.intro @z7_ (And.intro @hrd (@hr7))) ?_
     refine Ow.build (.agg #[vs r.data,vi (r.data.length:Int)]) rfl (ag3_ r.data r.data.length) ?_
     refine kq @z7_ ?_
     refine Ow.soft rfl rfl rfl ?_
     refine Ow.box rfl rfl fun b8 hb8 hw8=> ?_
     simp only[qm_,ql_,qu_,zh_]
     have hP2:=(hP1.mono (X':=L1++ [(b8,xF_ ⟨r.data,r.data.length⟩)]) fun b o h=>zi_ h).addFile (j9_ hb8) (fun hm=>by have:=zx_ hb8 (hP1.fb_key hm);omega) ⟨hdl,Nat.le_refl _⟩
     have hN2:New w.heap.size (L1++ [(b8,xF_ ⟨r.data,r.data.length⟩)]):=hN1.app (show New w.heap.size [(b8,xF_ ⟨r.data,r.data.length⟩)] from⟨hw8,trivial⟩)
     refine Ow.permL (M:=L1++ [(b8,xF_ ⟨r.data,r.data.length⟩)]) (List.Perm.refl _) ?_
     have hu1:=za_ (w0:=w) (zi_ (M:= [(b8,xF_ ⟨r.data,r.data.length⟩)]) (hP1.dir k hk3))
     have hu2:=za_ (w0:=w) (zi_ (M:= [(b8,xF_ ⟨r.data,r.data.length⟩)]) hl7)
     generalize L1++ [(b8,xF_ ⟨r.data,r.data.length⟩)]=L2 at*
     with_reducible refine Ow.nil ?_
     refine⟨fun b hb=>by
      simp only[List.mem_cons,List.not_mem_nil,or_false] at hb
      rcases hb with rfl|rfl
      ·rw[hu1,hrd]
      ·rw[hu2,hr7], ?_⟩
     obtain⟨os2,ms2,hos2,hms2,hnp2⟩:=hP2.seen k hk3
     refine kq @z7_ ?_
     refine Ow.mapUpdateG (encK:=vs) (encV:=qJ_) (k:=r.name) (v:=some b8) rfl rfl Tryz.underlying68 jF_ rfl rfl rfl hos2 hms2 (fun o3 hm3=> ?_)
     have hnp3:=hnp2.put (hP2.ok.seen k hk3).nodup r.name S.files.length
     have hfe: (addF G b8).fb.getD S.files.length 0=b8:=Z0_ _ _ hP.len
     rw[hfe] at hnp3
     have hP3:=hP2.seen1 (L:=setB L2 (G.s k) o3) hk3 (l':=XY_ (S.dir k).seen (r.name,S.files.length)) (fun b o hb h1=>(zb_ (Ne.symm h1)).trans hb) ⟨o3,_,zB_ hos2,hm3,hnp3⟩ (Q7_ _ (hP2.ok.seen k hk3)) (Jc_ (c:=⟨0,r.name,[],S.files.length⟩) (hP2.ok.seenN k hk3) (fun h=>by cases h) (fun _=>by show S.files.length< (S.files++ [_]).length;simp))
     have hN3:New w.heap.size (setB L2 (G.s k) o3):=New.of_le fun q hq=>hN2.le q (by rwa [zU_] at hq)
     refine ko @z7_ ?_
     first|with_reducible refine ks [] @z7_ ?_|refine kp @z7_ ?_
     exact Again.mk ⟨i+1,addF G b8,setB L2 (G.s k) o3⟩ (by show l.length - (i+1)<l.length - i;omega) ⟨hlt,by show DkP (setB L2 (G.s k) o3) (addF G b8) ((l.take (i+1)).foldl zO_ (wK_ quota));rw[hts];unfold zO_;rw[hwd];simp only;rw[if_pos ⟨hfn,hdl⟩];exact hP3,rfl,hN3⟩ rfl rfl
    ·have d2:decide ((r.data.length:Int)≤1048576)=false:=decide_eq_false (by omega)
     refine ko (And.intro @z7_ (And.intro @hr7 (@d2))) ?_
     first|with_reducible refine ks [] @z7_ ?_|refine kp @z7_ ?_
     exact Again.mk ⟨i+1,G,L1⟩ (by show l.length - (i+1)<l.length - i;omega) ⟨hlt,by show DkP L1 G ((l.take (i+1)).foldl zO_ (wK_ quota));rw[hts,hno (fun h=>hdl h.2)];exact hP1,rfl,hN1⟩ rfl rfl
 ·obtain rfl:i=l.length:=by omega
  have d1:decide ((l.length:Int)< (l.length:Int))=false:=decide_eq_false (by omega)
  rw[List.take_length] at hP
  unfold ofD
  generalize l.foldl zO_ (wK_ quota)=S at*
  have hrb:=za_ (w0:=w) hP.disk
  obtain⟨om,hom,hM⟩:=hP.dirs
  first|with_reducible refine ks [] (And.intro @z7_ (And.intro @d1 (@hrb))) ?_|refine kp (And.intro @z7_ (And.intro @d1 (@hrb))) ?_
  refine Ow.rangeMapG (encK:=vs) (encV:=qJ_) rfl rfl Tryz.underlying62 rfl (za_ hom) hM fun bi oi hbi hwi hI=> ?_
  refine Ow.permL (M:=(bi,oi)::X) (by classical exact List.perm_iff_count.2 fun a=>by simp only[List.count_append,List.count_cons,List.count_nil]<;>omega) ?_
  have hbX:bi∉keys X:=fun hm=>by have:=zx_ hbi hm;omega
  refine ko @z7_ ?_
  first|with_reducible refine ks [] @z7_ ?_|refine kp @z7_ ?_
  refine Cw.loopG (G:=OvKG) [58,59,60,61,10,62,63] (fun g=> []) (fun g=>(bi,g.it)::g.X) (fun g=>ItG vs qJ_ g.it G.bm om (QU_ G) g.dn g.lf∧DkP g.X g.G (setV S g.vis)∧g.dn.map Prod.fst=g.vis.map qp_∧(∀k,k∈g.vis→k<3)∧bi∉keys g.X∧g.G.d=G.d∧g.G.bm=G.bm∧g.G.bd=G.bd∧Sx.look g.X G.bm=some om∧New w.heap.size g.X) (fun g=>g.lf.length) ⟨[],[],QU_ G,oi,G,X⟩ rfl rfl ?_ ?_
  ·exact⟨hI,by rw[alh_];exact hP,rfl,fun k hk=>(by cases hk),hbX,rfl,rfl,rfl,hom,hN⟩
  intro g j hg
  refine kv ?_
  clear hI hP hN hbX hrb
  obtain⟨vis,dn,lf,it,G1,X1⟩:=g
  simp only at hg ⊢
  obtain⟨hI,hP,hvs,hv3,hbX,hgd,hgm,hgb,hom1,hN⟩:=hg
  have hoX: ∀x b o,Sx.look X1 b=some o→Sx.look ((bi,x)::X1) b=some o:=fun x b o hb=>by
   simp only[Sx.look]
   rw[if_neg (fun e=>hbX (by have e':b=bi:=(by omega);rw[←e'];exact zg_ hb))]
   exact hb
  first|with_reducible refine ks [] @z7_ ?_|refine kp @z7_ ?_
  refine Ow.nextMapG rfl rfl rfl (xj_ _ _ _) (za_ (hoX _ _ _ hom1)) hI (fun hlf=> ?_) (fun p it' lf' hl' hI'=> ?_)
  ·subst hlf
   have hp:=x3_ hI
   rw[List.append_nil] at hp
   refine ko @z7_ ?_
   first|with_reducible refine ks [] @z7_ ?_|refine kp @z7_ ?_
   refine⟨_,(ke @z7_), ?_⟩
   refine⟨Ext.of_new ⟨hwi,hN⟩,G1,by rw[hgb];rfl, ?_⟩
   rw[show setV S [0,1,2]=setV S vis from ahu_ S fun k=>⟨fun hk=> ?_,fun hk=> ?_⟩]
   ·exact hP.mono fun b o hb=>hoX _ _ _ hb
   ·have hk3:k<3:=by simp only[List.mem_cons,List.not_mem_nil,or_false] at hk;omega
    have hm:qp_ k∈dn.map Prod.fst:=by
     refine List.mem_map.2 ⟨(qp_ k,some (G.d k)),hp.mem_iff.2 ?_,rfl⟩
     have:k=0∨k=1∨k=2:=by omega
     rcases this with rfl|rfl|rfl<;>simp[QU_,qp_]
    rw[hvs] at hm
    obtain⟨j,hj,e⟩:=List.mem_map.1 hm
    have h1:=jx_ (hv3 j hj)
    rw[e,jx_ hk3] at h1
    cases h1;exact hj
   ·have:=hv3 k hk
    simp only[List.mem_cons,List.not_mem_nil,or_false];omega
  ·refine kn ?_
   refine ko @z7_ ?_
   first|with_reducible refine ks [] @z7_ ?_|refine kp @z7_ ?_
   refine Ow.entryMapG (encK:=vs) (encV:=qJ_) rfl rfl rfl (jz_ _ _ _ _) (za_ (hoX _ _ _ hom1)) hI' ?_
   have hp:=x3_ hI'
   obtain⟨k,hk3,rfl⟩:=aah_ (hp.mem_iff.1 (List.mem_append_left _ (List.mem_append_right _ List.mem_cons_self)))
   have hpp: ∀q:Nat,qJ_ (some q)=vp q 0:=fun _=>rfl
   refine ko (And.intro @z7_ @hpp) ?_
   first|with_reducible refine ks [] @z7_ ?_|refine kp @z7_ ?_
   refine Ow.permL (M:=X1++ [(bi,it')]) (by classical exact List.perm_iff_count.2 fun a=>by simp only[List.count_append,List.count_cons,List.count_nil]<;>omega) ?_
   refine Ow.callX (X:=X1) (Y:= [(bi,it')]) rfl rfl rfl Tryz.call28 (fun w' hw' hX' hn'=>by rw[show vp (G.d k) 0=vp (G1.d k) 0 by rw[hgd]];exact JH_ X1 G1 (setV S vis) k w' hX' hn' hP hk3) (fun v4 D4 hC4 hS4=> ?_)
   obtain⟨rfl,hP4,hkeep⟩:=hS4
   rw[aef_] at hP4
   have hbm2:=hP.dirs
   have hom4:Sx.look D4 G.bm=some om:=hkeep _ _ hom1 (by rw[←hgm];exact(hP.nodb k hk3).2) (fun e=>by
    have h1:=hP.dir k hk3
    rw[←e,hom1] at h1
    cases h1
    obtain⟨es,cl,h,-⟩:=hM;cases h)
   have hbD:bi∉keys D4:=fun hm=>by
    rcases hC4.new bi hm with h| ⟨h,-⟩
    ·exact hbX h
    ·have:=zx_ h (b:=bi) (by rw[zo_];simp[keys]);omega
   have hN4:New w.heap.size D4:=v4_ hC4 hN
   refine Ow.permL (M:=(bi,it')::D4) (by classical exact List.perm_iff_count.2 fun a=>by simp only[List.count_append,List.count_cons,List.count_nil]<;>omega) ?_
   refine ko @z7_ ?_
   first|with_reducible refine ks [] @z7_ ?_|refine kp @z7_ ?_
   exact Again.mk ⟨vis++ [k],dn++ [(qp_ k,some (G.d k))],lf',it',aix_ G1 k (G1.s k),D4⟩ (by show lf'.length<lf.length;omega) ⟨hI',hP4,by show(dn++ [_]).map Prod.fst=(vis++ [k]).map qp_;rw[List.map_append,List.map_append,hvs];rfl,fun j hj=>by
    rcases List.mem_append.1 hj with hj|hj
    ·exact hv3 j hj
    ·rw[List.mem_singleton.1 hj];exact hk3,hbD,hgd,hgm,hgb,hom4,hN4⟩ rfl rfl
end Go.Proofs
end
section
namespace Go.Proofs
open Go Go.Sx Go.StP Go.Shelf
set_option maxRecDepth 100000
def Tryz.keysL_ren:Go.Shelf.Ren:=⟨fun|7=>49|10=>76|n=>n,fun|23=>68|26=>9|3=>65|28=>109|0=>0|27=>108|33=>57|4=>4|n=>n,fun|n=>n⟩
theorem Tryz.keysL:Go.Proofs.SlLaysZ.n7 Tryz.prog Tryz.keysL_ren:={
 mixed:=by kernel_rfl
 f7:=⟨Tryz.f49.name,by decide,Tryz.func49.trans (congrArg some (by kernel_rfl))⟩
 f10:=⟨Tryz.f76.name,by decide,Tryz.func76.trans (congrArg some (by kernel_rfl))⟩
 t0:=Tryz.underlying0
 a0:=Tryz.isAgg0
 z0:=Tryz.sizeOf0
 v0:=Tryz.zeroValue0
 t4:=Tryz.underlying4
 a4:=Tryz.isAgg4
 z4:=Tryz.sizeOf4
 v4:=Tryz.zeroValue4
 t23:=Tryz.underlying68
 a23:=Tryz.isAgg68
 z23:=Tryz.sizeOf68
 v23:=Tryz.zeroValue68
 t26:=Tryz.underlying9
 a26:=Tryz.isAgg9
 z26:=Tryz.sizeOf9
 v26:=Tryz.zeroValue9
 t27:=Tryz.underlying108
 a27:=Tryz.isAgg108
 z27:=Tryz.sizeOf108
 v27:=Tryz.zeroValue108
 t28:=Tryz.underlying109
 a28:=Tryz.isAgg109
 z28:=Tryz.sizeOf109
 v28:=Tryz.zeroValue109
 t33:=Tryz.underlying57
 a33:=Tryz.isAgg57
 z33:=Tryz.sizeOf57
 v33:=Tryz.zeroValue57}
def Tryz.sortedL_ren:Go.Shelf.Ren:=⟨fun|6=>48|8=>74|9=>75|11=>93|13=>95|12=>94|23=>122|24=>123|14=>113|15=>114|16=>115|17=>116|18=>117|19=>118|20=>119|21=>120|22=>121|25=>134|26=>135|27=>136|28=>137|29=>138|30=>139|31=>143|n=>n,fun|26=>9|28=>109|24=>55|0=>0|3=>3|37=>158|48=>175|50=>189|4=>4|40=>181|39=>180|45=>185|5=>5|9=>9|51=>201|55=>205|57=>212|58=>213|33=>57|n=>n,fun|n=>n⟩
theorem Tryz.sortedL:Go.Proofs.SlLaysZ.n6 Tryz.prog Tryz.sortedL_ren:={
 mixed:=by kernel_rfl
 f6:=⟨Tryz.f48.name,by decide,Tryz.func48.trans (congrArg some (by kernel_rfl))⟩
 f8:=⟨Tryz.f74.name,by decide,Tryz.func74.trans (congrArg some (by kernel_rfl))⟩
 f11:=⟨Tryz.f93.name,by decide,Tryz.func93.trans (congrArg some (by kernel_rfl))⟩
 t0:=Tryz.underlying0
 a0:=Tryz.isAgg0
 z0:=Tryz.sizeOf0
 v0:=Tryz.zeroValue0
 t24:=Tryz.underlying55
 a24:=Tryz.isAgg55
 z24:=Tryz.sizeOf55
 v24:=Tryz.zeroValue55
 t26:=Tryz.underlying9
 a26:=Tryz.isAgg9
 z26:=Tryz.sizeOf9
 v26:=Tryz.zeroValue9
 t28:=Tryz.underlying109
 a28:=Tryz.isAgg109
 z28:=Tryz.sizeOf109
 v28:=Tryz.zeroValue109
 i26:=by kernel_rfl}
def Tryz.sortL_ren:Go.Shelf.Ren:=⟨fun|6=>75|8=>95|9=>94|19=>122|20=>123|21=>113|22=>114|23=>115|24=>116|25=>117|26=>118|27=>119|28=>120|29=>121|36=>134|31=>135|32=>136|37=>137|38=>138|39=>139|41=>143|n=>n,fun|27=>55|29=>9|3=>3|32=>158|26=>55|0=>0|44=>175|46=>189|4=>4|36=>181|35=>180|41=>185|5=>5|9=>9|53=>201|57=>205|63=>212|64=>213|n=>n,fun|n=>n⟩
theorem Tryz.sortL:Go.Proofs.SlLaysM.n6 Tryz.prog Tryz.sortL_ren:={
 mixed:=by kernel_rfl
 f6:=⟨Tryz.f75.name,by decide,Tryz.func75.trans (congrArg some (by kernel_rfl))⟩
 f8:=Tryz.func95.trans (congrArg some (by kernel_rfl))
 f9:=⟨Tryz.f94.name,by decide,Tryz.func94.trans (congrArg some (by kernel_rfl))⟩
 f19:=Tryz.func122.trans (congrArg some (by kernel_rfl))
 f20:=Tryz.func123.trans (congrArg some (by kernel_rfl))
 f21:=⟨Tryz.f113.name,by decide,Tryz.func113.trans (congrArg some (by kernel_rfl))⟩
 f22:=⟨Tryz.f114.name,by decide,Tryz.func114.trans (congrArg some (by kernel_rfl))⟩
 f23:=⟨Tryz.f115.name,by decide,Tryz.func115.trans (congrArg some (by kernel_rfl))⟩
 f24:=⟨Tryz.f116.name,by decide,Tryz.func116.trans (congrArg some (by kernel_rfl))⟩
 f25:=⟨Tryz.f117.name,by decide,Tryz.func117.trans (congrArg some (by kernel_rfl))⟩
 f26:=⟨Tryz.f118.name,by decide,Tryz.func118.trans (congrArg some (by kernel_rfl))⟩
 f27:=⟨Tryz.f119.name,by decide,Tryz.func119.trans (congrArg some (by kernel_rfl))⟩
 f28:=⟨Tryz.f120.name,by decide,Tryz.func120.trans (congrArg some (by kernel_rfl))⟩
 f29:=⟨Tryz.f121.name,by decide,Tryz.func121.trans (congrArg some (by kernel_rfl))⟩
 f31:=Tryz.func135.trans (congrArg some (by kernel_rfl))
 f32:=Tryz.func136.trans (congrArg some (by kernel_rfl))
 f36:=⟨Tryz.f134.name,by decide,Tryz.func134.trans (congrArg some (by kernel_rfl))⟩
 f37:=⟨Tryz.f137.name,by decide,Tryz.func137.trans (congrArg some (by kernel_rfl))⟩
 f38:=⟨Tryz.f138.name,by decide,Tryz.func138.trans (congrArg some (by kernel_rfl))⟩
 f39:=⟨Tryz.f139.name,by decide,Tryz.func139.trans (congrArg some (by kernel_rfl))⟩
 f41:=⟨Tryz.f143.name,by decide,Tryz.func143.trans (congrArg some (by kernel_rfl))⟩
 t0:=Tryz.underlying0
 a0:=Tryz.isAgg0
 z0:=Tryz.sizeOf0
 v0:=Tryz.zeroValue0
 t3:=Tryz.underlying3
 a3:=Tryz.isAgg3
 z3:=Tryz.sizeOf3
 v3:=Tryz.zeroValue3
 t4:=Tryz.underlying4
 a4:=Tryz.isAgg4
 z4:=Tryz.sizeOf4
 v4:=Tryz.zeroValue4
 t5:=Tryz.underlying5
 a5:=Tryz.isAgg5
 z5:=Tryz.sizeOf5
 v5:=Tryz.zeroValue5
 t9:=Tryz.underlying9
 a9:=Tryz.isAgg9
 z9:=Tryz.sizeOf9
 v9:=Tryz.zeroValue9
 t26:=Tryz.underlying55
 a26:=Tryz.isAgg55
 z26:=Tryz.sizeOf55
 v26:=Tryz.zeroValue55
 t27:=Tryz.underlying55
 a27:=Tryz.isAgg55
 z27:=Tryz.sizeOf55
 v27:=Tryz.zeroValue55
 t29:=Tryz.underlying9
 a29:=Tryz.isAgg9
 z29:=Tryz.sizeOf9
 v29:=Tryz.zeroValue9
 t32:=Tryz.underlying158
 a32:=Tryz.isAgg158
 z32:=Tryz.sizeOf158
 v32:=Tryz.zeroValue158
 t35:=Tryz.underlying180
 a35:=Tryz.isAgg180
 z35:=Tryz.sizeOf180
 v35:=Tryz.zeroValue180
 t36:=Tryz.underlying181
 a36:=Tryz.isAgg181
 z36:=Tryz.sizeOf181
 v36:=Tryz.zeroValue181
 t41:=Tryz.underlying185
 a41:=Tryz.isAgg185
 z41:=Tryz.sizeOf185
 v41:=Tryz.zeroValue185
 t44:=Tryz.underlying175
 a44:=Tryz.isAgg175
 z44:=Tryz.sizeOf175
 v44:=Tryz.zeroValue175
 t46:=Tryz.underlying189
 a46:=Tryz.isAgg189
 z46:=Tryz.sizeOf189
 v46:=Tryz.zeroValue189
 t53:=Tryz.underlying201
 a53:=Tryz.isAgg201
 z53:=Tryz.sizeOf201
 v53:=Tryz.zeroValue201
 t57:=Tryz.underlying205
 a57:=Tryz.isAgg205
 z57:=Tryz.sizeOf205
 v57:=Tryz.zeroValue205
 t63:=Tryz.underlying212
 a63:=Tryz.isAgg212
 z63:=Tryz.sizeOf212
 v63:=Tryz.zeroValue212
 t64:=Tryz.underlying213
 a64:=Tryz.isAgg213
 z64:=Tryz.sizeOf213
 v64:=Tryz.zeroValue213}
open Go.RowKit Go.Maps Go.Sort
theorem aqz_ (m:Nat):AnyZ.SortsIn Tryz.prog Tryz.sortedL_ren Fence.wide m:=
 ⟨fun blk off cap ss W hH hblk hsz=>callsIn_wide.2 (AnyM.slices_Sort_string Tryz.sortL blk off cap ss W hH hblk hsz),
 fun p cap W=>callsIn_wide.2 (AnyM.slices_Sort_string_none Tryz.sortL p cap W)⟩
theorem ahn_ {a b:List UInt8} (h:ltB a b=true):leB a b=true:=by
 rw[K5_,decide_eq_true_eq] at h
 simp only[leB,decide_eq_true_eq]
 exact List.le_of_lt h
theorem ajN_ {l:NmL} (h:SrtN l) {ss:List (List UInt8)} (hp:ss.Perm (l.map Prod.fst)):ss.mergeSort (fun x y=>decide (x≤y))=l.map Prod.fst:=by
 show ss.mergeSort leB=_
 rw[mergeSort_of_perm hp]
 refine List.mergeSort_of_pairwise ?_
 exact List.pairwise_map.2 (h.imp fun h=>ahn_ h)
theorem aqW_ {W:World} {base n:Nat} {T:TypeId} {v:Value} {xs:List Value} (h:W.ownsRow base T 1 v n xs): ∃D:ze_,(∀p,p∈D→W.heap[p.1]? =some p.2∧base≤p.1)∧(keys D).Nodup∧Gr D T 1 v n xs:=by
 obtain⟨hl,h⟩:=h
 rcases h with⟨rfl,rfl⟩ | ⟨g,cap,cur,rfl,hb,hg,hc,hm,hs,ht⟩
 ·obtain rfl:xs= []:=List.eq_nil_of_length_eq_zero (by simpa using hl)
  exact⟨[],fun p hp=>(by cases hp),List.nodup_nil,Gr.nl⟩
 ·refine⟨[(g, .cells cur T (0,0))], ?_,by simp[keys], ?_⟩
  ·intro p hp
   simp only[List.mem_singleton] at hp
   subst hp
   exact⟨hg,hb⟩
  ·by_cases h0:0<cap
   ·refine .inl (Buf.at_ (rest:=cur.toList.drop (n*1)) ?_ hl ?_ hc h0)
    ·rw[←ht,List.take_append_drop]
     simp[Sx.look]
    ·rw[List.length_drop,Array.length_toList,hs];omega
   ·obtain rfl:cap=0:=by omega
    obtain rfl:n=0:=by omega
    refine .inr ⟨rfl,List.eq_nil_of_length_eq_zero (by simpa using hl),g,rfl, ?_⟩
    have:cur= #[]:=Array.eq_empty_of_size_eq_zero (by simpa using hs)
    simp[Sx.look,this]
def RN (_:Value):Option (DataW Unit×List MemPlace):=some (.nil,[])
theorem an0_ {w:World} {b:Nat} {o:Obj} {m:List (List UInt8×Option Nat)} (ho:w.heap[b]? =some o) (hM:wB_ vs qJ_ o m) (hn: (m.map Prod.fst).Nodup) (hk: ∀p,p∈m→p.1.length≤1000000) (hs:m.length≤1000000):
  ∃D0:DataW Unit,w.ownsMap Tryz.prog 9 RN b m.length D0∧Maps.size D0≤1000000∧(strKeys D0).Perm (m.map Prod.fst):=by
 obtain⟨es,clock,rfl,he,hb⟩:=hM
 have hlen:es.size=m.length:=by have:=congrArg List.length he;simpa using this
 have hkey:es.toList.map (·.key)=m.map fun p=>vs p.1:=by
  have:=congrArg (List.map Prod.fst) he
  simpa [xR_,Function.comp_def] using this
 have hrd: ∀x,x∈es.toList→ ∃s:List UInt8,x.key=vs s∧s.length≤1000000:=by
  intro x hx
  have:x.key∈m.map fun p=>vs p.1:=by rw[←hkey];exact List.mem_map.2 ⟨x,hx,rfl⟩
  obtain⟨p,hp,e⟩:=List.mem_map.1 this
  exact⟨p.1,e.symm,hk p hp⟩
 have hrd2: ∀x,x∈es.toList→ ∀s:List UInt8,x.key=vs s→s.length≤1000000→WideElems.rd Tryz.prog 9 RN x=some (.string s, .nil):=by
  intro x hx s hs hl
  have hL:s.length≤maxLen:=Nat.le_trans hl (by decide)
  have hL2: (ByteArray.mk s.toArray).size≤maxLen:=hL
  simp[WideElems.rd,keyOf,Tryz.underlying9,mapKey,hs,RN,vs,hL2]
 have hbo:=List.pairwise_append.1 hb
 refine⟨_,⟨es,clock,ho,⟨?_,⟨?_, ?_, ?_⟩, ?_⟩,by omega,rfl⟩, ?_, ?_⟩
 ·rw[hlen];exact Nat.le_trans hs (by decide)
 ·intro x hx
  exact hbo.2.2 x.born (List.mem_map.2 ⟨x,hx,rfl⟩) clock (by simp)
 ·exact hbo.1.imp fun h=>Nat.ne_of_lt h
 ·rw[hkey]
  have: (m.map Prod.fst).map vs=m.map fun p=>vs p.1:=by simp[Function.comp_def]
  rw[←this]
  refine List.pairwise_map.2 (hn.imp fun h e=>h ?_)
  simpa [vs] using e
 ·intro x hx
  obtain⟨s,e,hl⟩:=hrd x hx
  exact⟨_,hrd2 x hx s e hl⟩
 ·rw[Maps.size_eq,(WideShapes.sorted_perm _).length_eq,List.length_map,Array.length_toList,hlen];exact hs
 ·show(List.map (fun p:Lit×DataW Unit=>strOf p.1) _).Perm _
  refine((WideShapes.sorted_perm _).map _).trans (List.Perm.of_eq ?_)
  rw[List.map_map]
  refine List.map_congr_left ?_|>.trans (?_:es.toList.map (fun x=>match x.key with| .string s=>s.data.toList|_=> [])=_)
  ·intro x hx
   obtain⟨s,e,hl⟩:=hrd x hx
   simp only[Function.comp]
   rw[WideElems.rg_of (hrd2 x hx s e hl),e]
   rfl
  ·have:es.toList.map (fun x=>match x.key with| .string s=>s.data.toList|_=> [])=(es.toList.map (·.key)).map (fun k=>match k with| .string s=>s.data.toList|_=> []):=by rw[List.map_map];rfl
   rw[this,hkey,List.map_map]
   rfl
theorem aaR_ (X:ze_) (G:DkG) (S:DiskL) (k c:Nat) (w:World) (hP:DkP X G S) (hX: ∀b o,Sx.look X b=some o→w.heap[b]? =some o) (hk:k<3) (hs: (S.dir k).seen.length≤1000000) (hl: ∀p,p∈ (S.dir k).seen→p.1.length≤1000000)
  (hc:w.heap[c]? =some (.cells #[vm (G.s k)] 68 (0,0))):
  Rets Tryz.prog 48 #[.func (.func 76) #[] #[vp c 0]] w (XS w [] (fun v D=>GrI D 9 1 v (S.dir k).seen.length ((S.dir k).seen.map fun p=>vs p.1))):=by
 obtain⟨o,m,h1,h2,h3⟩:=hP.seen k hk
 have ho:=hX _ _ h1
 have hlen:m.length=(S.dir k).seen.length:=by have:=h3.length_eq;simpa using this
 have hmk: ∀p,p∈m→p.1.length≤1000000:=by
  intro p hp
  have:=h3.mem_iff.1 hp
  obtain⟨q,hq,e⟩:=List.mem_map.1 this
  rw[←e];exact hl q hq
 obtain⟨D0,hown,hsz,hperm⟩:=an0_ ho h2 (h3.keys (hP.ok.seen k hk).nodup) hmk (by omega)
 have hcl:=(Array.getElem?_eq_some_iff.1 hc).1
 have hseq:SeqGives Fence.wide 2 Tryz.prog 76 #[.pointer (some ⟨c,0,none⟩)] encStr (fun ss=>ss.Perm (strKeys D0)) (Maps.size D0) w:=
  AnyZ.keys_gives (ρ:=Tryz.keysL_ren) {Tryz.keysL with} Fence.wide _ trivial rfl (by omega) c (G.s k) m.length D0 _ hcl (by simp[World.cell?,hc,vm]) hown
 have h:=AnyZ.sorted_in Tryz.sortedL Fence.wide 5 trivial trivial trivial trivial rfl (by omega) (aqz_ _) (enters_of Tryz.func75 (by kernel_rfl) rfl) 76 #[.pointer (some ⟨c,0,none⟩)] trivial (enters_of Tryz.func76 (by kernel_rfl) rfl) _ (Maps.size D0) (Nat.le_trans hsz (by decide)) (by omega) w hseq
 refine Calls.mono (callsIn_wide.1 h) ?_
 rintro e w' ⟨v,ss,rfl,hS,hrow,-,hb⟩
 obtain⟨D,hD,hDn,hG⟩:=aqW_ hrow
 have hss:ss.mergeSort (fun x y=>decide (x≤y))=(S.dir k).seen.map Prod.fst:=by
  refine ajN_ (hP.ok.seen k hk) ((hS.trans hperm).trans ?_)
  have:=h3.map Prod.fst
  refine this.trans (List.Perm.of_eq ?_)
  rw[List.map_map];rfl
 have hsl:ss.length=(S.dir k).seen.length:=by
  have:=congrArg List.length hss
  simpa using this
 refine⟨v,D,rfl,⟨fun b o hm=>(hD _ hm).1,hDn,fun b hb' _=>hb.block b hb',hb.size,hb.tape,hb.os,hb.output⟩,⟨fun b hb'=> ?_,fun b hb'=>(by cases hb')⟩,⟨D,fun _ h=>h, ?_⟩⟩
 ·obtain⟨p,hp,rfl⟩:=List.mem_map.1 hb'
  exact .inr (hD p hp).2
 rw[hss,hsl] at hG
 have: ((S.dir k).seen.map Prod.fst).map encStr=(S.dir k).seen.map fun p=>vs p.1:=by rw[List.map_map];rfl
 rw[this] at hG
 exact hG
end Go.Proofs
end
section
open Go Go.Proofs Go.Sx Go.StP
namespace Go.Proofs
set_option maxRecDepth 10000
set_option maxHeartbeats 400000
set_option linter.unusedSimpArgs false
theorem agb_ (b:Nat) (w:World):
  Rets Tryz.prog 49 #[vm b] w (XS w [] (fun v' D=> ∃b1,v'= .func (.func 76) #[] #[vp b1 0]∧D= [(b1, .cells #[vm b] 68 (0,0))])):=by
 refine Rets.enter Tryz.func49 rfl (rs:= [.tmp 2]) Tryz.results49 Tryz.ntmps49 ?_
 refine kf ?_
 first|with_reducible refine ks [] @Nat.add_zero ?_|refine kp @Nat.add_zero ?_
 refine Ow.box rfl rfl fun b1 hb1 hw1=> ?_
 simp only[qm_,ql_,vm,List.nil_append]
 refine ko @Nat.add_zero ?_
 refine⟨_,(ke @Nat.add_zero), ?_⟩
 exact⟨⟨fun c hc=>(by simp only[keys,List.map_cons,List.map_nil,List.mem_singleton] at hc;exact .inr (hc▸hw1)),fun c hc=>(by cases hc)⟩,b1,by simp[kD_,ev,ww_],rfl⟩
def DkB (S:DiskL):Prop:= ∀k,k<3→(S.dir k).seen.length≤1000000∧ ∀p,p∈ (S.dir k).seen→p.1.length≤1000000
def xy_ (S:DiskL) (dir:List UInt8):List (List UInt8):=if jd_ S dir []≠0 then [] else(S.dir ((zD_ dir).getD 0)).seen.map Prod.fst
set_option linter.defProp false
def QV_:=And.intro (And.intro (And.intro (@zn_) (@zm_)) (And.intro (@qr_) (@qL_))) (And.intro (And.intro (@qG_) (@qH_)) (And.intro (@Sx.tup2_0) (And.intro (@Sx.tup2_1) (@QG_))))
theorem wt_ (w:World) (G:DkG) (S:DiskL) (dir:List UInt8) (hD:DkW w G S) (hB:DkB S):
  Rets Tryz.prog 24 #[vp G.bd 0,vs dir] w (XS w [] (fun v D=>GrI D 9 1 v (xy_ S dir).length ((xy_ S dir).map vs))):=by
 have hD':=hD
 obtain⟨X,hX,hP⟩:=hD
 refine Rets.enter Tryz.func24 rfl (rs:= [.tmp 4]) Tryz.results24 Tryz.ntmps24 ?_
 refine kf ?_
 first|with_reducible refine ks [] @QV_ ?_|refine kp @QV_ ?_
 have hN1:New w.heap.size ([]:ze_):=trivial
 refine Ow.callC rfl rfl Tryz.call46 (fun w' hw'=>Rets.toX (jO_ w' G S dir (.slice none 0 0) [] (hD'.old hw' hN1) (SlV.nil w') (by simp) (fun s hs=>by cases hs))) (fun B2 v2 D2 hA2 hB2 hN2 hS2=> ?_)
 obtain⟨rfl,hS2⟩:=hS2
 rw[List.append_nil]
 unfold xy_
 rcases hS2 with⟨he,rfl⟩ | ⟨he,k,hk,rfl⟩
 ·rw[if_pos he]
  have e1:=ju_ he
  refine ko @QV_ ?_
  first|with_reducible refine ks [] (And.intro @QV_ @e1) ?_|refine kp (And.intro @QV_ @e1) ?_
  refine⟨_,(ke @QV_), ?_⟩
  exact⟨Ext.refl w [],Gr.nl.i fun _ h=>h⟩
 ·rw[if_neg (by rw[he];simp),hk]
  have hk3:=(z3_ hk).1
  have hdr:=hX _ _ (hP.dir k hk3)
  have e1: ((0:Int) !=0)=false:=rfl
  refine ko @QV_ ?_
  first|with_reducible refine ks [] (And.intro @QV_ (And.intro @e1 (@hdr))) ?_|refine kp (And.intro @QV_ (And.intro @e1 (@hdr))) ?_
  refine Ow.callC rfl rfl Tryz.call49 (fun w' hw'=>agb_ (G.s k) w') (fun B3 v3 D3 hA3 hB3 hN3 hS3=> ?_)
  obtain⟨b1,rfl,rfl⟩:=hS3
  rw[List.nil_append]
  have hN3':=hN3.mono hB3
  refine ko @QV_ ?_
  refine Ow.callC rfl rfl Tryz.call48 (fun w' hw'=>aaR_ X G S k b1 w' hP (fun b o h=>(hw'.old b (Array.getElem?_eq_some_iff.1 (hX b o h)).1 (hN3'.not (Array.getElem?_eq_some_iff.1 (hX b o h)).1)).trans (hX b o h)) hk3 (hB k hk3).1 (hB k hk3).2 (hw'.has _ _ List.mem_cons_self)) (fun B4 v4 D4 hA4 hB4 hN4 hS4=> ?_)
  refine ko @QV_ ?_
  refine⟨_,(ke @QV_), ?_⟩
  refine⟨Ext.of_new (hN3'.app (hN4.mono hB4)), ?_⟩
  rw[List.length_map,List.map_map]
  exact hS4.mono fun p hp=>List.mem_cons_of_mem _ hp
end Go.Proofs
end
section
open Go Go.Proofs Go.Sx Go.StP
namespace Go.Proofs
set_option maxRecDepth 10000
set_option maxHeartbeats 400000
set_option linter.unusedSimpArgs false
def zV_ (S:DiskL) (k:Nat):List FiL:=(if S.off=true then [] else(S.dir k).seen).map fun p=>⟨qp_ k,p.1,(S.files.getD p.2 qO_).data⟩
def q9_ (S:DiskL):Nat→List FiL
 |0=> []
 |k+1=>q9_ S k++zV_ S k
def ZT_ (S:DiskL):List FiL:=q9_ S 3
theorem aau_ {S:DiskL} {k:Nat} (hk:k<3):xy_ S (qp_ k)=(if S.off=true then [] else(S.dir k).seen).map Prod.fst:=by
 unfold xy_ jd_
 rw[jx_ hk]
 cases S.off<;>simp
theorem JE_ (l:List (List UInt8)): (l.map strC).flatten=l.map vs:=by
 induction l with
 |nil=>rfl
 |cons x l ih=>simp[strC,ih]
theorem v2_ {S:DiskL} (hB:DkB S) {k:Nat} (hk:k<3): (zV_ S k).length≤1000000:=by
 unfold zV_
 rw[List.length_map]
 split
 ·simp
 ·exact(hB k hk).1
theorem wz_ {S:DiskL} (hB:DkB S): ∀k,k≤3→(q9_ S k).length≤k*1000000
 |0,_=>Nat.zero_le _
 |k+1,hk=>by
  have h1:=wz_ hB k (by omega)
  have h2:=v2_ hB (k:=k) (by omega)
  show(q9_ S k++zV_ S k).length≤_
  rw[List.length_append];omega
structure FlG where
 k:Nat
 v:Value
 D1:ze_
 DG:ze_
structure FjG where
 j:Nat
 v:Value
 D1:ze_
 DG:ze_
set_option linter.defProp false
def kj_:=And.intro (And.intro (And.intro (@zn_) (And.intro (@zm_) (@qr_))) (And.intro (@qL_) (And.intro (@qG_) (@qH_)))) (And.intro (And.intro (@xU_) (And.intro (@xW_) (@Sx.tup2_0))) (And.intro (@Sx.tup2_1) (And.intro (@QG_) (@ZH_))))
theorem adN_ (w:World) (G:DkG) (S:DiskL) (hD:DkW w G S) (hGl:QX_ w) (hB:DkB S):
  Rets Tryz.prog 38 #[vp G.bd 0] w (XS w [] (fun v D=>GrI D 60 3 v (ZT_ S).length ((ZT_ S).map fiC).flatten)):=by
 have hD':=hD
 obtain⟨X,hX,hP⟩:=hD
 obtain⟨eg,fzg,hgl⟩:=hGl
 have hd:=hX _ _ hP.disk
 obtain⟨om,hom,hM⟩:=hP.dirs
 have hbm:=hX _ _ hom
 have old: ∀b o,w.heap[b]? =some o→ ∀Y,New w.heap.size Y→zy_ w Y b=some o:=fun b o hb Y hY=>by
  rw[z6_ (hY.not (Array.getElem?_eq_some_iff.1 hb).1)];exact hb
 refine Rets.enterX Tryz.func38 rfl (rs:= [.tmp 2]) Tryz.results38 Tryz.ntmps38 (fun p hp=>by cases hp) (by simp[keys]) ?_
 refine kf ?_
 first|with_reducible refine ks [] (And.intro @kj_ (And.intro @hgl (@kd_))) ?_|refine kp (And.intro @kj_ (And.intro @hgl (@kd_))) ?_
 refine Cw.permL (M:= []++ []) (List.Perm.refl _) ?_
 refine Cw.loopG (G:=FlG) [10,11,5,12,13,14,15,16,17,18,19,7,20,21,22,23,24,25,26,27,28,29,30,31,32,33,34,35,36,37,38,39,3,40,41,9] (fun g=> [(3,g.v),(9,vi g.k)]) (fun g=>g.D1++g.DG) (fun g=>g.k≤3∧New w.heap.size g.D1∧New w.heap.size g.DG∧Gr g.D1 60 3 g.v (q9_ S g.k).length ((q9_ S g.k).map fiC).flatten) (fun g=>3 - g.k) ⟨0, .slice none 0 0,[],[]⟩ rfl rfl ?_ ?_
 ·exact⟨Nat.zero_le _,trivial,trivial,Gr.nl⟩
 intro g j hg
 refine kv ?_
 obtain⟨k,v,D1,DG⟩:=g
 simp only at hg ⊢
 obtain⟨hk,hN1,hN2,hGr⟩:=hg
 by_cases hlt:k<3
 ·have d1:decide ((k:Int)<3)=true:=decide_eq_true (by omega)
  have ixk:=vQ_ hlt
  have hfl:=wz_ hB k hk
  have hdl:=v2_ hB hlt
  first|with_reducible refine ks [10] (And.intro @kj_ (And.intro @d1 (@ixk))) ?_|refine kp (And.intro @kj_ (And.intro @d1 (@ixk))) ?_
  refine Ow.callC rfl rfl Tryz.call24 (fun w' hw'=>wt_ w' G S (qp_ k) (hD'.old hw' (hN1.app hN2)) hB) (fun B3 v3 D3 hA3 hB3 hN3 hS3=> ?_)
  rw[aau_ hlt,←JE_] at hS3
  obtain⟨sn,hsn⟩: ∃sn,(if S.off=true then [] else(S.dir k).seen)=sn:=⟨_,rfl⟩
  have hdf:zV_ S k=sn.map fun p=>⟨qp_ k,p.1,(S.files.getD p.2 qO_).data⟩:=by unfold zV_;rw[hsn]
  have hsm: ∀p,p∈sn→p∈ (S.dir k).seen:=by
   intro p hp
   rw[←hsn] at hp
   split at hp
   ·cases hp
   ·exact hp
  rw[hsn] at hS3
  rw[hdf,List.length_map] at hdl
  have hN3':New w.heap.size D3:=hN3.mono hB3
  have ln3:=kr_ hS3
  rw[List.length_map] at ln3
  refine ko (And.intro @kj_ @ln3) ?_
  refine Cw.world fun w1 hw1=> ?_
  obtain⟨rb,off,arr,E,fz,hr3,hlk⟩:=hS3.rowL (z:= []) (by rw[List.length_map]) ((hw1.perm (M:=D3++ (D1++DG)) List.perm_append_comm).part) Wh_
  have hlk': ∀ (G:ze_),0<sn.length→zy_ w (D3++G) rb=some (.cells arr E fz):=by
   intro G h0
   exact za_ (zi_ (hlk (by rw[List.length_map];exact h0)))
  clear hw1 hlk
  refine Cw.permL (M:=D3++ (D1++DG)) List.perm_append_comm ?_
  refine Cw.loopG (G:=FjG) [17,18,19,7,20,21,22,23,24,25,26,27,28,29,30,31,32,33,34,35,36,37,38,39,3,40,16] (fun g=> [(3,g.v),(16,vi g.j)]) (fun g=>D3++ (g.D1++g.DG)) (fun g=>g.j≤sn.length∧New w.heap.size g.D1∧New w.heap.size g.DG∧Gr g.D1 60 3 g.v ((q9_ S k).length+g.j) ((q9_ S k++ (zV_ S k).take g.j).map fiC).flatten) (fun g=>sn.length - g.j) ⟨0,v,D1,DG⟩ rfl rfl ?_ ?_
  ·exact⟨Nat.zero_le _,hN1,hN2,by simpa using hGr⟩
  intro g j hg
  refine kv ?_
  clear hGr hN1 hN2
  obtain⟨j,v,D1,DG⟩:=g
  simp only at hg ⊢
  obtain⟨hj,hN1,hN2,hGr⟩:=hg
  by_cases hjt:j<sn.length
  ·have d2:decide ((j:Int)< (sn.length:Int))=true:=decide_eq_true (by omega)
   have hjm:j< (sn.map Prod.fst).length:=by rw[List.length_map];exact hjt
   have ix3:=hr3.idx false j hjm
   have ld3:=fun n=>VL_ hr3 hjm n
   have rd3:=hlk' (D1++DG) (by omega)
   have hp:sn[j]'hjt∈ (S.dir k).seen:=hsm _ (List.getElem_mem _)
   have hse: (sn.map Prod.fst).getD j []=(sn[j]'hjt).1:=by simp[List.getD_eq_getElem?_getD,hjt]
   have hts: (zV_ S k).take (j+1)=(zV_ S k).take j++ [⟨qp_ k,(sn[j]'hjt).1,(S.files.getD (sn[j]'hjt).2 qO_).data⟩]:=by
    rw[hdf,List.take_add_one]
    simp[hjt]
   rw[hse] at ld3
   generalize sn[j]'hjt=p at*
   obtain⟨x,n⟩:=p
   simp only at hp hts ld3
   have hfn:zC_ (S.dir k).seen x=some n:=Jq_ (hP.ok.seen k hlt).nodup hp
   have hnl:n<S.files.length:=hP.ok.seenN k hlt _ hp
   have hNN:New w.heap.size (D3++ (D1++DG)):=hN3'.app (hN1.app hN2)
   have rdd:=old _ _ hd _ hNN
   have rdm:=old _ _ hbm _ hNN
   have rdr:=old _ _ (hX _ _ (hP.dir k hlt)) _ hNN
   obtain⟨os,ms,hos,hms,hnp⟩:=hP.seen k hlt
   have rds:=old _ _ (hX _ _ hos) _ hNN
   have rdf:=old _ _ (hX _ _ (hP.file n hnl)) _ hNN
   first|with_reducible refine ks [] (And.intro @kj_ (And.intro @d2 (And.intro @ix3 (And.intro @ld3 (And.intro @rd3 (@rdd)))))) ?_|refine kp (And.intro @kj_ (And.intro @d2 (And.intro @ix3 (And.intro @ld3 (And.intro @rd3 (@rdd)))))) ?_
   refine kq (And.intro @kj_ @rdd) ?_
   refine Ow.mapGetG (encK:=vs) (encV:=qJ_) (k:=qp_ k) (z:=none) rfl rfl Tryz.underlying62 jF_ zrPd rfl rfl rdm hM ?_
   rw[Zt_,jx_ hlt]
   show Ow _ _ _ _ _ _ _ _
   have hpd:qJ_ (some (G.d k))=vp (G.d k) 0:=rfl
   refine ko (And.intro @kj_ (And.intro @hpd (@rdr))) ?_
   refine Ow.mapGetG (encK:=vs) (encV:=qJ_) (k:=x) (z:=none) rfl rfl Tryz.underlying68 jF_ zrPf rfl rfl rds hms ?_
   rw[hnp.get (hP.ok.seen k hlt).nodup,hfn]
   show Ow _ _ _ _ _ _ _ _
   have hpf:qJ_ (some (G.fb.getD n 0))=vp (G.fb.getD n 0) 0:=rfl
   refine ko (And.intro @kj_ (And.intro @hpf (@rdf))) ?_
   refine Ow.build (.agg (fiC ⟨qp_ k,x,(S.files.getD n qO_).data⟩).toArray) rfl (afx_ ⟨qp_ k,x,(S.files.getD n qO_).data⟩) ?_
   refine ko @kj_ ?_
   refine Ow.buildSlice (e:=60) (fiC ⟨qp_ k,x,(S.files.getD n qO_).data⟩).toArray rfl rfl (zT_ Tryz.underlying22 anf_ zrFi (by decide) (jX_ _)) fun ba hba hwa=> ?_
   refine Ow.permL (M:=D1++ (D3++ (DG++ [(ba, .cells (fiC ⟨qp_ k,x,(S.files.getD n qO_).data⟩).toArray 60 (0,0))]))) (by classical exact List.perm_iff_count.2 fun a=>by simp only[List.count_append,List.count_cons,List.count_nil]<;>omega) ?_
   refine Ow.appendXG (e:=60) (k:=1) (new:=fiC ⟨qp_ k,x,(S.files.getD n qO_).data⟩) (X:=D1) v rfl rfl rfl rfl Tryz.underlying22 anf_ (by kernel_rfl) zrFi (by rw[ZH_,List.size_toArray,jX_]) Tryz.underlying22 (by intro k h;cases h) hGr (fun w' hw'=>AppX.one1 (hw'.has ba (.cells (fiC ⟨qp_ k,x,(S.files.getD n qO_).data⟩).toArray 60 (0,0)) (by simp)) (jX_ _) (add_ _)) (by omega) (fun B4 v4 D4 hA4 hB4 hG4 hk41 hk42 hlk4=> ?_)
   have hN4:New w.heap.size D4:=New.of_le fun q hq=>by
    rcases hk42 q hq with h|h
    ·exact hN1.le q h
    ·omega
   refine Ow.permL (M:=D3++ (D4++ (DG++ [(ba, .cells (fiC ⟨qp_ k,x,(S.files.getD n qO_).data⟩).toArray 60 (0,0))]))) (by classical exact List.perm_iff_count.2 fun a=>by simp only[List.count_append,List.count_cons,List.count_nil]<;>omega) ?_
   refine ko @kj_ ?_
   first|with_reducible refine ks [] @kj_ ?_|refine kp @kj_ ?_
   refine Again.mk ⟨j+1,v4,D4,DG++ [(ba, .cells (fiC ⟨qp_ k,x,(S.files.getD n qO_).data⟩).toArray 60 (0,0))]⟩ (by show sn.length - (j+1)<sn.length - j;omega) ⟨hjt,hN4,hN2.app ⟨hwa,trivial⟩, ?_⟩ rfl rfl
   show Gr D4 60 3 v4 ((q9_ S k).length+j+1) ((q9_ S k++ (zV_ S k).take (j+1)).map fiC).flatten
   rw[hts]
   simpa only[List.map_append,List.map_cons,List.map_nil,List.flatten_append,List.flatten_cons,List.flatten_nil,List.append_nil,List.append_assoc] using hG4
  ·obtain rfl:j=sn.length:=by omega
   have d2:decide ((sn.length:Int)< (sn.length:Int))=false:=decide_eq_false (by omega)
   have hdl2: (zV_ S k).length=sn.length:=by rw[hdf,List.length_map]
   rw[←hdl2,List.take_length] at hGr
   first|with_reducible refine ks [10] (And.intro @kj_ @d2) ?_|refine kp (And.intro @kj_ @d2) ?_
   refine Cw.permL (M:=D1++ (D3++DG)) (by classical exact List.perm_iff_count.2 fun a=>by simp only[List.count_append,List.count_cons,List.count_nil]<;>omega) ?_
   first|with_reducible refine ks [] @kj_ ?_|refine kp @kj_ ?_
   refine Again.mk ⟨k+1,v,D1,D3++DG⟩ (by show 3 - (k+1)<3 - k;omega) ⟨hlt,hN1,hN3'.app hN2, ?_⟩ rfl rfl
   show Gr D1 60 3 v (q9_ S k++zV_ S k).length ((q9_ S k++zV_ S k).map fiC).flatten
   rw[List.length_append];exact hGr
 ·obtain rfl:k=3:=by omega
  have d1:decide (((3:Nat):Int)<3)=false:=rfl
  first|with_reducible refine ks [] (And.intro @kj_ @d1) ?_|refine kp (And.intro @kj_ @d1) ?_
  refine⟨_,(ke @kj_), ?_⟩
  exact⟨Ext.of_new (hN1.app hN2),hGr.i fun p hp=>List.mem_append_left _ hp⟩
end Go.Proofs
end
section
open Go Go.Proofs Go.Sx Go.StP
namespace Go.Proofs
set_option maxRecDepth 10000
set_option maxHeartbeats 400000
set_option linter.unusedSimpArgs false
theorem ar2_ (b:Nat):q7_ Tryz.prog .eql 68 (vm b) (.map none)=some (.bool false):=by
 simp[q7_,eqX,q8_,qR_,Tryz.underlying68,vm]
theorem aei_ (b:Nat) (o:Obj) (m:List (List UInt8×Option Nat)) (w:World) (ho:w.heap[b]? =some o) (hm:wB_ vs qJ_ o m):
  Rets Tryz.prog 45 #[vm b] w (XS w [] (fun v D=> ∃c o',v=vm c∧D= [(c,o')]∧wB_ vs qJ_ o' m)):=by
 refine Rets.enterX Tryz.func45 rfl (rs:= [.tmp 2]) Tryz.results45 Tryz.ntmps45 (fun p hp=>by cases hp) (by simp[keys]) ?_
 refine kf ?_
 have e1:=ar2_ b
 first|with_reducible refine ks [] @e1 ?_|refine kp @e1 ?_
 refine Ow.ifaceMap rfl Tryz.underlying68 rfl ?_
 refine Ow.cloneMap (encK:=vs) (encV:=qJ_) rfl rfl (fun a w=>run_callFunc_extern Tryz.func70 (by kernel_rfl) (by kernel_rfl) (by kernel_rfl) (e:=Extern.MapsClone.clone) (by kernel_rfl) #[a] w) rfl (by rw[z6_ (by simp[keys])];exact ho) hm fun c o' hc hwc hm'=> ?_
 refine Ow.assertMap rfl Tryz.underlying68 rfl ?_
 refine ko @Nat.add_zero ?_
 refine⟨_,(ke @Nat.add_zero), ?_⟩
 exact⟨(Ext.refl w []).app hwc,c,o',rfl,rfl,hm'⟩
def u16C (x:UInt16):List Value:= [v16 x]
abbrev apo_ (w:World) (v:Value) (l:List UInt16):Prop:=SlV 1 u16C 0 w v l
def PkS (w:World) (v:Value) (l:List UInt16):Prop:=apo_ w v l∨(l= []∧ ∃a c,v= .slice (some a) 0 c)
theorem PkS.len {w:World} {v:Value} {l:List UInt16} (h:PkS w v l) (x:Bool×Nat):Zz_ (.sl x) v=some (vi l.length):=by
 rcases h with h| ⟨rfl,a,c,rfl⟩
 ·exact SlV.len h x
 ·rfl
theorem PkS.cell {w:World} {v:Value} {l:List UInt16} (h:PkS w v l):Value.oneCell' v=true∧v.cells= #[v]:=by
 rcases h with⟨b,off,c,arr,E,fz,hr,hc,⟨rfl,-,-⟩ | ⟨rfl,-,-⟩⟩ | ⟨rfl,a,c,rfl⟩
 ·exact⟨rfl,rfl⟩
 ·exact⟨rfl,rfl⟩
 ·exact⟨rfl,rfl⟩
theorem PkS.old {w w':World} {L:ze_} {v:Value} {l:List UInt16} (h:PkS w v l) (hw:Hp w L w') (hb:l≠ []→ ∀b,slB v=some b→b∉keys L):PkS w' v l:=by
 by_cases hl:l= []
 ·subst hl
  rcases h with⟨b,off,c,arr,E,fz,hr,hc,⟨rfl,-,-⟩ | ⟨rfl,-,-⟩⟩ |h
  ·exact .inl (SlV.nil w')
  ·exact .inr ⟨rfl,_,_,rfl⟩
  ·exact .inr h
 ·exact .inl ((h.resolve_right fun e=>hl e.1).old hw fun b h1 _=>hb hl b h1)
def PkB (w:World) (X:ze_) (l:List UInt16) (v:Value):Prop:=l≠ []→ ∀b,slB v=some b→b<w.heap.size∧b∉keys X
theorem aoE_ {w:World} {v:Value} {l:List UInt16} {b off:Nat} {arr:Array Value} {E:TypeId} {fz:Nat×Nat} (h:RowS 1 u16C 0 w v l b off arr E fz) {k:Nat} (hk:k<l.length) (n:Nat):
  zk_ (some (false,n)) (some (.cells arr E fz)) (off+k)=some (v16 (l.getD k 0)):=by
 have:=h.cell (j:=0) (n:=n) hk (by omega)
 rwa [Nat.mul_one,Nat.add_zero] at this
def vv_ (l:List UInt16) (n:Nat):Nat:=match l with
 | []=>0
 |x::_=>x.toNat% (n+1)
def x9_ (v:Value):Obj:= .cells #[v] 99 (0,0)
theorem afl_ (v:Value) (n:Nat):zk_ (some (false,n)) (some (x9_ v)) 0=some v:=(rfl)
theorem akS_ (v x:Value) (a:Bool) (hx:Value.oneCell' x=true∧x.cells= #[x]):zu_ (some (a,1)) (some (x9_ v)) 0 x=some (x9_ x):=
 zt_ [] [v] [x] [] a _ 99 rfl rfl hx.2 rfl (by simp[hx.1])
theorem apf_ {m:Nat} {α:Type} {enc:α→List Value} {z:α} {w:World} {v:Value} {l:List α} (h:SlV m enc z w v l):Value.oneCell' v=true∧v.cells= #[v]:=by
 obtain⟨b,off,c,arr,E,fz,hr,hc,⟨rfl,-,-⟩ | ⟨rfl,-,-⟩⟩:=h
 ·exact⟨rfl,rfl⟩
 ·exact⟨rfl,rfl⟩
set_option linter.defProp false
def ag1_:=And.intro (@zn_) (And.intro (@zm_) (@afl_))
theorem Vm_ (n:Nat) (b:Nat) (v:Value) (l:List UInt16) (w:World) (hn:n<4611686018427387904) (hv:PkS w v l) (hl:l.length<1000000) (hnb:l≠ []→slB v≠some b) (ho:w.heap[b]? =some (x9_ v)):
  Rets Tryz.prog 44 #[vi n,vp b 0] w (fun r D=> ∃o,D= [(b,o)]∧r=vi (vv_ l n:Nat)∧ ∃v',o=x9_ v'∧(l= []→v'=v)∧(l≠ []→qY_ (.sl (false,1)) v (some (some 1)) none=some v')):=by
 refine Rets.enterM Tryz.func44 rfl (rs:= [.tmp 3]) Tryz.results44 Tryz.ntmps44 ho ?_
 refine kf ?_
 have ln:=hv.len
 cases l with
 |nil=>
  first|with_reducible refine ks [] (And.intro @ag1_ @ln) ?_|refine kp (And.intro @ag1_ @ln) ?_
  refine⟨_,_,_,(ke @ag1_),rfl,trivial, ?_⟩
  exact⟨rfl,v,rfl,fun _=>rfl,fun h=>absurd rfl h⟩
 |cons x l=>
  have hv:apo_ w v (x::l):=hv.resolve_right fun e=>by cases e.1
  obtain⟨v1,h1,h2,-⟩:=hv.dropE (k:=1) (by simp) false
  have hc1:=apf_ h2
  have st:=fun a=>akS_ v v1 a hc1
  obtain⟨rb,off,c,arr,E,fz,hr,hc,⟨q1,q2,q3⟩ | ⟨rfl,hb,-⟩⟩:=hv
  ·exact absurd q2 (by simp)
  have hne:rb≠b:=fun e=>hnb (by simp) (by rw[e];rfl)
  have ix:=hr.idx false 0 (by simp)
  have ld:=fun n=>aoE_ hr (k:=0) (by simp) n
  have e0: ((((x::l).length:Nat):Int)==0)=false:=beq_eq_false_iff_ne.2 (by simp;omega)
  have rd:zy_ w [(b,x9_ (vsl rb off (x::l).length c))] rb=some (.cells arr E fz):=by rw[z6_ (by simpa [keys] using hne)];exact hb
  rw[Nat.zero_mul,Nat.add_zero] at ix
  rw[show((1:Nat):Int)=1 from rfl] at h1
  simp only[Nat.add_zero] at ld
  first|with_reducible refine ks [] (And.intro @ag1_ (And.intro @ln (And.intro @e0 (And.intro @ix (And.intro @ld (And.intro @rd (And.intro @h1 (@st)))))))) ?_|refine kp (And.intro @ag1_ (And.intro @ln (And.intro @e0 (And.intro @ix (And.intro @ld (And.intro @rd (And.intro @h1 (@st)))))))) ?_
  refine⟨_,_,_,(ke @ag1_),rfl,trivial, ?_⟩
  refine⟨?_,v1,rfl,fun h=>absurd h (by simp),fun _=>h1⟩
  show vi _=vi _
  congr 1
end Go.Proofs
end
section
open Go Go.Proofs Go.Sx Go.StP
namespace Go.Proofs
set_option maxRecDepth 10000
set_option maxHeartbeats 400000
set_option linter.unusedSimpArgs false
theorem DkP.stl1 {X L:ze_} {G:DkG} {S:DiskL} (h:DkP X G S) {k:Nat} (hk:k<3) {l':NmL} (keep: ∀b o,Sx.look X b=some o→b≠G.t k→Sx.look L b=some o) (hs:NmM L G.fb (G.t k) l') (h1:SrtN l') (h3: ∀p,p∈l'→p.2<S.files.length):
  DkP L G (z4_ S k ⟨(S.dir k).seen,l',(S.dir k).pend⟩):=by
 obtain⟨osk,msk,hosk,hmsk,-⟩:=h.stl k hk
 have hns: ∀b o,Sx.look X b=some o→tyO o≠none→b≠G.t k:=by
  rintro b o hb ht rfl
  rw[hosk] at hb;cases hb;exact ht (qK_ hmsk)
 have K: ∀b o,Sx.look X b=some o→tyO o≠none→Sx.look L b=some o:=fun b o hb h1=>keep b o hb (hns b o hb h1)
 have es: ∀j,(z4_ S k ⟨(S.dir k).seen,l',(S.dir k).pend⟩).dir j=if j=k then⟨(S.dir k).seen,l',(S.dir k).pend⟩ else S.dir j:=fun _=>rfl
 have e2: ∀j,((z4_ S k ⟨(S.dir k).seen,l',(S.dir k).pend⟩).dir j).seen=(S.dir j).seen:=fun j=>by
  rw[es];by_cases e:j=k
  ·subst e;rw[if_pos rfl]
  ·rw[if_neg e]
 have e3: ∀j,((z4_ S k ⟨(S.dir k).seen,l',(S.dir k).pend⟩).dir j).pend=(S.dir j).pend:=fun j=>by
  rw[es];by_cases e:j=k
  ·subst e;rw[if_pos rfl]
  ·rw[if_neg e]
 refine⟨K _ _ h.disk (by simp[tyO,jr_]), ?_,fun j hj=>K _ _ (h.dir j hj) (by simp[tyO,xv_]),fun j hj=> ?_,fun j hj=> ?_,fun j hj=> ?_,fun n hn=>K _ _ (h.file n hn) (by simp[tyO,xF_]),h.len,h.nodf,h.nodm,h.nodd,h.nodb,h.nodp,kJ_ h.ok _ (h.ok.seen k hk) h1 (h.ok.seenN k hk) h3 (h.ok.pendN k hk)⟩
 ·obtain⟨o,h1,h2⟩:=h.dirs
  exact⟨o,keep _ _ h1 (h.nodb k hk).2,h2⟩
 ·rw[e2]
  obtain⟨o,m,h1,h2,h3⟩:=h.seen j hj
  exact⟨o,m,keep _ _ h1 (vY_ h.nodm hj hk).2.2,h2,h3⟩
 ·rw[es]
  by_cases e:j=k
  ·subst e;rw[if_pos rfl];exact hs
  ·rw[if_neg e]
   obtain⟨o,m,h1,h2,h3⟩:=h.stl j hj
   exact⟨o,m,keep _ _ h1 ((vY_ h.nodm hj hk).2.1 e),h2,h3⟩
 ·rw[e3]
  obtain⟨vals,h1,h2,h3⟩:=h.pend j hj
  refine⟨vals,h1,h2.keep fun b o hb ho=> ?_,fun i hi=>(h3 i hi).keep fun b o ho hx=>K b o ho ?_⟩
  ·obtain⟨arr,ha⟩:=x0_ h2 hb
   rw[ho] at ha;cases ha
   exact K _ _ ho (by simp[tyO])
  ·rcases hx with⟨s,rfl⟩ | ⟨a,rfl⟩<;>simp[tyO,kV_,KV_]
theorem zY_ (S:DiskL) (k:Nat) (d:DirL): (z4_ S k d).dir k=d:=by
 unfold z4_;simp
theorem qv_ (S:DiskL) {k j:Nat} (d:DirL) (h:j≠k): (z4_ S k d).dir j=S.dir j:=by
 unfold z4_;simp[h]
theorem Vw_ (S:DiskL) (k:Nat) (d d':DirL):z4_ (z4_ S k d) k d'=z4_ S k d':=by
 unfold z4_
 simp only
 congr 1
 funext j
 by_cases e:j=k
 ·rw[if_pos e,if_pos e]
 ·rw[if_neg e,if_neg e,if_neg e]
def aq1_ (d:DirL):Prop:= ∀i,i<d.pend.length→okC ((d.pend.take i).foldl qo_ d.stl) (d.pend.getD i vK_)
def wD_ (S:DiskL) (k i:Nat):NmL:=((S.dir k).pend.take i).foldl qo_ (S.dir k).stl
def afH_ (q:DiskL×List UInt16) (k:Nat):DiskL×List UInt16:=
 (z4_ q.1 k ⟨wD_ q.1 k (vv_ q.2 (q.1.dir k).pend.length),wD_ q.1 k (vv_ q.2 (q.1.dir k).pend.length),[]⟩,q.2.drop 1)
def qy_ (q:DiskL×List UInt16):Nat→DiskL×List UInt16
 |0=>q
 |k+1=>afH_ (qy_ q k) k
theorem afi_ (l:List UInt16) (n:Nat):vv_ l n≤n:=by
 unfold vv_
 split
 ·exact Nat.zero_le _
 ·have:=Nat.mod_lt ‹UInt16›.toNat (show 0<n+1 by omega)
  omega
theorem agx_ {S:DiskL} {k i:Nat} (h:i< (S.dir k).pend.length):wD_ S k (i+1)=qo_ (wD_ S k i) ((S.dir k).pend.getD i vK_):=by
 unfold wD_
 rw[StP.take_snoc (z:=vK_) h,List.foldl_append];rfl
end Go.Proofs
end
