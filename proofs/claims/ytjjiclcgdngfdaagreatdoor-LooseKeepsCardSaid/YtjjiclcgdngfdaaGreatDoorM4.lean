/-
  Part 4 of the walk: contracts of the functions that the law reaches, and the calculus they stand on.
  No conditions.
-/
import Derived.Test.YtjjiclcgdngfdaaGreatDoorM3
section
open Go Go.Proofs Go.Sx Go.StP Go.Flo
namespace Go.Proofs
set_option maxRecDepth 10000
set_option maxHeartbeats 400000
set_option linter.unusedSimpArgs false
theorem KU_ {p:PcL} {b:Int} (h:xf_ p b≠0):xf_ p b=(match cpV p b with|some q=>q.2|none=>p.x.length):=by
 unfold xf_ at h ⊢
 split
 ·rename_i hz
  rw[WM_ (fun hc=>by omega)]
 ·rename_i hz
  rw[if_neg hz] at h
  cases hc:cpV p b with
  |none=>rw[hc] at h;exact absurd rfl h
  |some q=>rfl
theorem aqe_ {p:PcL} {b:Int} {q:Nat×Nat} (h:cpV p b=some q):q=(p.a,p.n)∧1≤p.n:=by
 unfold cpV at h
 split at h
 ·rename_i hc;cases h;exact⟨rfl,hc.1⟩
 ·cases h
set_option linter.defProp false
def jX_:=And.intro (And.intro (And.intro (And.intro (@zp_) (@zo_)) (And.intro (@Zj_) (@Za_))) (And.intro (And.intro (@JC_) (@vV_)) (And.intro (@ad5_) (@cxz)))) (And.intro (And.intro (And.intro (@ahY_) (@ahr_)) (And.intro (@Qb_) (@Sx.tup2_0))) (And.intro (And.intro (@Sx.tup2_1) (@Sx.tup3_0)) (And.intro (@Sx.tup3_1) (@Sx.tup3_2))))
theorem af5_ (p:PcL) (b:Int) (w:World) (hp:PcB p) (h0:0≤b) (h1:b≤4099):
  Rets Tryz.prog 252 #[.agg (pcC p).toArray,vi b] w (fun v D=>v= .bool (decide (xf_ p b≠0))∧D= []):=by
 have hp':=hp
 obtain⟨hpa,hpn⟩:=hp'
 have hcall: ¬ (p.a=0∧p.n=0)→(cpV p b).isSome=decide (xf_ p b≠0):=by
  intro hz
  unfold xf_
  rw[if_neg (fun h=>hz ⟨h.1,h.2.1⟩)]
  cases hc:cpV p b with
  |none=>rfl
  |some q=>
   obtain⟨rfl,hn⟩:=aqe_ hc
   rw[decide_eq_true (show p.n≠0 by omega)]
   rfl
 refine Rets.enterV Tryz.func252 rfl (rs:= [.tmp 4]) Tryz.results252 Tryz.ntmps252 ?_
 refine kf ?_
 first|with_reducible refine ks [3] @jX_ ?_|refine kp @jX_ ?_
 refine Ow.box rfl rfl fun b2 hb2 hw2=> ?_
 simp only[zY_,zV_,zX_,za_,List.nil_append,List.cons_append]
 refine Ow.go rfl ?_
 simp(disch:=(first|assumption|omega| (simp only[kK_,kw_,UInt64.reduceToNat];try omega))) only[↓Sx.S0,Sx.S1,Tryz.fx,jX_,Nat.reduceAdd,Nat.reducePow,Int.reducePow,Nat.reduceBEq, ↓reduceIte,UInt8.reduceToNat,UInt16.reduceToNat,UInt32.reduceToNat,UInt64.reduceToNat,Int.reduceToNat]
 first|with_reducible refine ks [] @jX_ ?_|refine kp @jX_ ?_
 refine Ow.real rfl rfl ?_
 refine Ow.feql (b:=0) rfl rfl rfl (by omega) (by omega) ?_
 have fin: ∀v,v=cpR p b→ ∃x y,v= .tuple #[x,y, .bool (cpV p b).isSome]:=by
  rintro v rfl
  unfold cpR
  cases cpV p b with
  |some q=>exact⟨_,_,rfl⟩
  |none=>
   simp only
   split
   ·exact⟨_,_,rfl⟩
   ·exact⟨_,_,rfl⟩
 obtain⟨x,y,hxy⟩:=fin _ rfl
 by_cases ha:p.a=0
 ·have e1: (((p.a:Nat):Int)==0)=true:=by rw[ha];rfl
  rw[e1]
  refine ko @jX_ ?_
  refine Ow.imag rfl rfl ?_
  refine Ow.feql (b:=0) rfl rfl rfl (by omega) (by omega) ?_
  by_cases hn:p.n=0
  ·have e2: (((p.n:Nat):Int)==0)=true:=by rw[hn];rfl
   rw[e2]
   have hc:cpV p b=none:=WM_ (fun h=>by omega)
   by_cases hl:1≤p.x.length
   ·have d1:decide ((1:Int)≤ (p.x.length:Int))=true:=decide_eq_true (by omega)
    by_cases hm:p.x.length≤4099
    ·have d2:decide ((p.x.length:Int)≤4099)=true:=decide_eq_true (by omega)
     have hr:decide (xf_ p b≠0)=true:=decide_eq_true (by unfold xf_;rw[if_pos ⟨ha,hn,hm⟩];omega)
     rw[hr]
     refine ko (And.intro @jX_ (And.intro @d1 (@d2))) ?_
     first|with_reducible refine ks [] (And.intro @jX_ (And.intro @d1 (@d2))) ?_|refine kp (And.intro @jX_ (And.intro @d1 (@d2))) ?_
     refine⟨_,(ke @jX_),⟨hw2,trivial⟩, ?_⟩
     rfl
    ·have d2:decide ((p.x.length:Int)≤4099)=false:=decide_eq_false (by omega)
     have hr:decide (xf_ p b≠0)=false:=decide_eq_false (by unfold xf_;rw[if_neg (fun h=>hm h.2.2),hc];simp)
     rw[hr]
     refine ko (And.intro @jX_ (And.intro @d1 (@d2))) ?_
     first|with_reducible refine ks [] (And.intro @jX_ (And.intro @d1 (@d2))) ?_|refine kp (And.intro @jX_ (And.intro @d1 (@d2))) ?_
     refine⟨_,(ke @jX_),⟨hw2,trivial⟩, ?_⟩
     rfl
   ·have d1:decide ((1:Int)≤ (p.x.length:Int))=false:=decide_eq_false (by omega)
    have hr:decide (xf_ p b≠0)=false:=decide_eq_false (by unfold xf_;rw[if_pos ⟨ha,hn,by omega⟩];omega)
    rw[hr]
    refine ko (And.intro @jX_ @d1) ?_
    first|with_reducible refine ks [] (And.intro @jX_ @d1) ?_|refine kp (And.intro @jX_ @d1) ?_
    refine⟨_,(ke @jX_),⟨hw2,trivial⟩, ?_⟩
    rfl
  ·have e2: (((p.n:Nat):Int)==0)=false:=beq_eq_false_iff_ne.2 (by omega)
   rw[e2,←hcall (fun h=>hn h.2)]
   refine ko @jX_ ?_
   first|with_reducible refine ks [] @jX_ ?_|refine kp @jX_ ?_
   refine Ow.callFV rfl Tryz.call247 (fun w' hw'=>Zc_ p b w' hp h0 h1) ?_
   rw[hxy]
   refine ko @jX_ ?_
   first|with_reducible refine ks [] @jX_ ?_|refine kp @jX_ ?_
   refine⟨_,(ke @jX_),⟨hw2,trivial⟩, ?_⟩
   rfl
 ·have e1: (((p.a:Nat):Int)==0)=false:=beq_eq_false_iff_ne.2 (by omega)
  rw[e1,←hcall (fun h=>ha h.1)]
  refine ko @jX_ ?_
  first|with_reducible refine ks [] @jX_ ?_|refine kp @jX_ ?_
  refine Ow.callFV rfl Tryz.call247 (fun w' hw'=>Zc_ p b w' hp h0 h1) ?_
  rw[hxy]
  refine ko @jX_ ?_
  first|with_reducible refine ks [] @jX_ ?_|refine kp @jX_ ?_
  refine⟨_,(ke @jX_),⟨hw2,trivial⟩, ?_⟩
  rfl
end Go.Proofs
end
section
open Go Go.Proofs Go.Sx Go.StP Go.Flo
namespace Go.Proofs
set_option maxRecDepth 10000
set_option maxHeartbeats 400000
set_option linter.unusedSimpArgs false
theorem ahG_ {p:PcL} {b:Int} {q:Nat×Nat} (h:cpV p b=some q):cpR p b= .tuple #[vi q.1,vi q.2, .bool true]:=by unfold cpR;rw[h]
theorem ahP_ {p:PcL} {b:Int} (h:cpV p b=none): ∃y:Int,cpR p b= .tuple #[vi 0,vi y, .bool false]:=by
 unfold cpR
 rw[h]
 simp only
 split
 ·exact⟨_,rfl⟩
 ·exact⟨_,rfl⟩
set_option linter.defProp false
def ju_:=And.intro (And.intro (And.intro (@zp_) (@zo_)) (And.intro (@Zj_) (And.intro (@Za_) (@JC_)))) (And.intro (And.intro (@vV_) (And.intro (@Sx.tup2_0) (@Sx.tup2_1))) (And.intro (@Sx.tup3_0) (And.intro (@Sx.tup3_1) (@Sx.tup3_2))))
theorem Kw_ (b:Int) (v:Value) (l:List PcL) (w:World) (hv:PcSl w v l) (hl:BndP l) (hn:l.length<1000000000):
  Rets Tryz.prog 246 #[vi b,v] w (fun v D=>v= .tuple #[vi (chkV b l).1,vi (chkV b l).2]∧D= []):=by
 obtain⟨bb,off,arr,E,fz,hr⟩:=hv.row
 have ln:=hv.len
 refine Rets.enterV Tryz.func246 rfl (rs:= [.tmp 4, .tmp 5]) Tryz.results246 Tryz.ntmps246 ?_
 refine kf ?_
 unfold chkV
 by_cases hb0:b<0
 ·have d1:decide (b<0)=true:=decide_eq_true hb0
  rw[if_pos (.inl hb0)]
  first|with_reducible refine ks [] (And.intro @ju_ @d1) ?_|refine kp (And.intro @ju_ @d1) ?_
  refine⟨_,(ke @ju_),trivial, ?_⟩
  rfl
 have d1:decide (b<0)=false:=decide_eq_false hb0
 by_cases hb4:4099<b
 ·have d2:decide (4099<b)=true:=decide_eq_true hb4
  rw[if_pos (.inr hb4)]
  first|with_reducible refine ks [] (And.intro @ju_ (And.intro @d1 (@d2))) ?_|refine kp (And.intro @ju_ (And.intro @d1 (@d2))) ?_
  refine⟨_,(ke @ju_),trivial, ?_⟩
  rfl
 have d2:decide (4099<b)=false:=decide_eq_false hb4
 rw[if_neg (by omega)]
 first|with_reducible refine ks [] (And.intro @ju_ (And.intro @d1 (@d2))) ?_|refine kp (And.intro @ju_ (And.intro @d1 (@d2))) ?_
 refine Cw.loopG (G:=Nat) [18,19,20,21,24,25,26,27,28,29,30,4,5,22,23,6] (fun g=> [(6,vi g)]) (fun g=> []) (fun g=>g≤l.length∧anyZ b (l.take g)=false) (fun g=>l.length - g) 0 rfl rfl ?_ ?_
 ·exact⟨Nat.zero_le _,rfl⟩
 intro k jk hk
 refine kv ?_
 obtain⟨hk,hz⟩:=hk
 by_cases hlt:k<l.length
 ·have d3:decide ((k:Int)< (l.length:Int))=true:=decide_eq_true (by omega)
  have rd:=hr.has (by omega)
  have ix:=hr.idx true k hlt
  have ld:=hr.load Qa_ (by omega) hlt
  obtain⟨hpb,hpx⟩:=hl k hlt
  have htk:=alg_ (b:=b) hlt
  have hmz:=aal_ (b:=b) hlt
  generalize l.getD k pc0=p at*
  first|with_reducible refine ks [] (And.intro @ju_ (And.intro @ln (And.intro @d3 (And.intro @ix (And.intro @rd (@ld)))))) ?_|refine kp (And.intro @ju_ (And.intro @ln (And.intro @d3 (And.intro @ix (And.intro @rd (@ld)))))) ?_
  refine Ow.callFV rfl Tryz.call252 (fun w' hw'=>af5_ p b w' hpb (by omega) (by omega)) ?_
  by_cases hp0:xf_ p b=0
  ·rw[decide_eq_false (show¬ (xf_ p b≠0) by omega),if_pos (hmz hp0)]
   refine ko @ju_ ?_
   first|with_reducible refine ks [] @ju_ ?_|refine kp @ju_ ?_
   refine⟨_,(ke @ju_),trivial, ?_⟩
   rfl
  ·rw[decide_eq_true (show xf_ p b≠0 from hp0)]
   refine ko @ju_ ?_
   first|with_reducible refine ks [] @ju_ ?_|refine kp @ju_ ?_
   refine Again.mk (k+1) (by omega) ⟨hlt, ?_⟩ rfl rfl
   rw[htk,hz,Bool.false_or]
   exact beq_eq_false_iff_ne.2 hp0
 ·obtain rfl:k=l.length:=by omega
  have d3:decide ((l.length:Int)< (l.length:Int))=false:=decide_eq_false (by omega)
  rw[List.take_length] at hz
  rw[if_neg (by rw[hz];decide)]
  first|with_reducible refine ks [] (And.intro @ju_ (And.intro @ln (@d3))) ?_|refine kp (And.intro @ju_ (And.intro @ln (@d3))) ?_
  refine Cw.loopG (G:=Nat) [31,32,33,34,38,39,40,41,42,43,37,44,45,46,9,10,11,47,48,49,50,51,52,53,54,55,56,57,7,58,59,4,5,35,36,8] (fun g=> [(7,vi (wT_ b (l.take g):Nat)),(8,vi g)]) (fun g=> []) (fun g=>g≤l.length∧wT_ b (l.take g)≤4099) (fun g=>l.length - g) 0 rfl rfl ?_ ?_
  ·exact⟨Nat.zero_le _,by simp[wT_]⟩
  intro m jm hm
  refine kv ?_
  obtain⟨hm,hs⟩:=hm
  by_cases hlt:m<l.length
  ·have d4:decide ((m:Int)< (l.length:Int))=true:=decide_eq_true (by omega)
   have rd:=hr.has (by omega)
   have ix:=hr.idx true m hlt
   have ld:=hr.load Qa_ (by omega) hlt
   have ld1:zt_ (some (false,1)) (some (.cells arr E fz)) (off+m*2+1)=some (vs (l.getD m pc0).x):=hr.cell (j:=1) (n:=1) hlt (by omega)
   obtain⟨hpb,hpx⟩:=hl m hlt
   have hst:=ak0_ (b:=b) hlt
   have hle:=Xg_ (b:=b) (l:=l) (g:=m+1)
   have hp0:xf_ (l.getD m pc0) b≠0:=fun h=>by rw[aal_ hlt h] at hz;cases hz
   have hpr:=KU_ hp0
   have hpl:=ahj_ (l.getD m pc0) b
   generalize l.getD m pc0=p at*
   first|with_reducible refine ks [15] (And.intro @ju_ (And.intro @ln (And.intro @d4 (And.intro @ix (And.intro @rd (@ld)))))) ?_|refine kp (And.intro @ju_ (And.intro @ln (And.intro @d4 (And.intro @ix (And.intro @rd (@ld)))))) ?_
   refine Ow.callFV rfl Tryz.call247 (fun w' hw'=>Zc_ p b w' hpb (by omega) (by omega)) ?_
   have fin: ∀N:Nat,wT_ b (l.take (m+1))=wT_ b (l.take m)+N→((wT_ b (l.take m):Nat):Int)+ (N:Int)=((wT_ b (l.take (m+1)):Nat):Int):=fun N h=>by omega
   cases hc:cpV p b with
   |some q=>
    rw[hc] at hpr
    simp only at hpr
    rw[ahG_ hc,←hpr]
    generalize xf_ p b=N at*
    have hf:=fin N hst
    refine ko @ju_ ?_
    by_cases h4:4099<wT_ b (l.take (m+1))
    ·have d5:decide ((4099:Int)< ((wT_ b (l.take (m+1)):Nat):Int))=true:=decide_eq_true (by omega)
     rw[if_pos (show 4099<wT_ b l by omega)]
     first|with_reducible refine ks [] (And.intro @ju_ (And.intro @hf (@d5))) ?_|refine kp (And.intro @ju_ (And.intro @hf (@d5))) ?_
     refine⟨_,(ke @ju_),trivial, ?_⟩
     rfl
    ·have d5:decide ((4099:Int)< ((wT_ b (l.take (m+1)):Nat):Int))=false:=decide_eq_false (by omega)
     first|with_reducible refine ks [] (And.intro @ju_ (And.intro @hf (@d5))) ?_|refine kp (And.intro @ju_ (And.intro @hf (@d5))) ?_
     exact Again.mk (m+1) (by omega) ⟨hlt,by omega⟩ rfl rfl
   |none=>
    rw[hc] at hpr
    simp only at hpr
    obtain⟨y,hy⟩:=ahP_ hc
    rw[hy]
    have hf:=fin p.x.length (by omega)
    refine ko (And.intro @ju_ (And.intro @ix (And.intro @rd (@ld1)))) ?_
    by_cases h4:4099<wT_ b (l.take (m+1))
    ·have d5:decide ((4099:Int)< ((wT_ b (l.take (m+1)):Nat):Int))=true:=decide_eq_true (by omega)
     rw[if_pos (show 4099<wT_ b l by omega)]
     first|with_reducible refine ks [] (And.intro @ju_ (And.intro @hf (@d5))) ?_|refine kp (And.intro @ju_ (And.intro @hf (@d5))) ?_
     refine⟨_,(ke @ju_),trivial, ?_⟩
     rfl
    ·have d5:decide ((4099:Int)< ((wT_ b (l.take (m+1)):Nat):Int))=false:=decide_eq_false (by omega)
     first|with_reducible refine ks [] (And.intro @ju_ (And.intro @hf (@d5))) ?_|refine kp (And.intro @ju_ (And.intro @hf (@d5))) ?_
     exact Again.mk (m+1) (by omega) ⟨hlt,by omega⟩ rfl rfl
  ·obtain rfl:m=l.length:=by omega
   have d4:decide ((l.length:Int)< (l.length:Int))=false:=decide_eq_false (by omega)
   rw[List.take_length] at hs
   rw[if_neg (by omega),List.take_length]
   first|with_reducible refine ks [] (And.intro @ju_ (And.intro @ln (@d4))) ?_|refine kp (And.intro @ju_ (And.intro @ln (@d4))) ?_
   refine⟨_,(ke @ju_),trivial, ?_⟩
   rfl
end Go.Proofs
end
section
open Go Go.Proofs Go.Sx Go.StP Go.Flo
namespace Go.Proofs
set_option maxRecDepth 10000
set_option maxHeartbeats 400000
set_option linter.unusedSimpArgs false
theorem atb_ {p:PcL} {b:Int} {q:Nat×Nat} (h:cpV p b=some q):q=(p.a,p.n)∧1≤p.n∧p.n≤4099∧p.x= []∧(p.a:Int)≤b - p.n:=by
 unfold cpV at h
 split at h
 ·rename_i hc;cases h;exact⟨rfl,hc⟩
 ·cases h
set_option linter.defProp false
def vx_:=And.intro (And.intro (And.intro (@zp_) (@zo_)) (And.intro (@Zj_) (And.intro (@Za_) (@JC_)))) (And.intro (And.intro (@vV_) (And.intro (@Sx.tup2_0) (@Sx.tup2_1))) (And.intro (@Sx.tup3_0) (And.intro (@Sx.tup3_1) (@Sx.tup3_2))))
theorem afX_ (base:List UInt8) (v:Value) (l:List PcL) (w:World) (hv:PcSl w v l) (hl:BndP l) (hn:l.length<1000000000):
  Rets Tryz.prog 235 #[vs base,v] w (fun v' D=>v'= .tuple #[vs (if(chkV base.length l).2=0 then txtP base l else []),vi (chkV base.length l).2]∧D= []):=by
 obtain⟨bb,off,arr,E,fz,hr⟩:=hv.row
 have ln:=hv.len
 refine Rets.enterV Tryz.func235 rfl (rs:= [.tmp 4, .tmp 5]) Tryz.results235 Tryz.ntmps235 ?_
 refine kf ?_
 first|with_reducible refine ks [] @vx_ ?_|refine kp @vx_ ?_
 refine Ow.callFV rfl Tryz.call246 (fun w' hw'=>Kw_ (base.length:Int) v l w' (hv.oldN hw' trivial) hl hn) ?_
 by_cases he: (chkV base.length l).2=0
 ·obtain⟨m,hm⟩: ∃m,chkV base.length l=(m,0):=⟨(chkV base.length l).1,by rw[←he]⟩
  obtain⟨-,hb4,hz,hs4,-,hl4⟩:=afN_ hm
  rw[if_pos he,hm]
  have e0: ((0:Int) !=0)=false:=rfl
  refine ko @vx_ ?_
  first|with_reducible refine ks [] (And.intro @vx_ @e0) ?_|refine kp (And.intro @vx_ @e0) ?_
  refine Cw.loopG (G:=Nat) [23,24,25,26,30,31,32,33,34,35,36,29,37,38,39,10,11,12,40,41,42,43,44,45,46,47,48,8,49,50,51,52,53,54,55,27,28,9] (fun g=> [(8,vs (txtP base (l.take g))),(9,vi g)]) (fun g=> []) (fun g=>g≤l.length) (fun g=>l.length - g) 0 rfl rfl ?_ ?_
  ·exact Nat.zero_le _
  intro k jk hk
  refine kv ?_
  by_cases hlt:k<l.length
  ·have d3:decide ((k:Int)< (l.length:Int))=true:=decide_eq_true (by omega)
   have rd:=hr.has (by omega)
   have ix:=hr.idx true k hlt
   have ld:=hr.load Qa_ (by omega) hlt
   have ld1:zt_ (some (false,1)) (some (.cells arr E fz)) (off+k*2+1)=some (vs (l.getD k pc0).x):=hr.cell (j:=1) (n:=1) hlt (by omega)
   obtain⟨hpb,hpx⟩:=hl k hlt
   have htk:=akp_ (base:=base) hlt
   have hpt:pcT base (l.getD k pc0)=(match cpV (l.getD k pc0) base.length with|some q=>(base.drop q.1).take q.2++ (l.getD k pc0).x|none=>(l.getD k pc0).x):=rfl
   have htl: (txtP base (l.take k)).length≤4099:=by
    rw[abs_ (base:=base) (arF_ (g:=k) hz)]
    have:=Xg_ (b:=(base.length:Int)) (l:=l) (g:=k)
    omega
   have hxl:cpV (l.getD k pc0) base.length=none→(l.getD k pc0).x.length≤4099:=fun hc=>by
    have hp0:xf_ (l.getD k pc0) base.length≠0:=fun h=>by rw[aal_ hlt h] at hz;cases hz
    have h1:=KU_ hp0
    have h2:=ahj_ (l.getD k pc0) base.length
    rw[hc] at h1
    simp only at h1
    omega
   generalize l.getD k pc0=p at*
   first|with_reducible refine ks [] (And.intro @vx_ (And.intro @ln (And.intro @d3 (And.intro @ix (And.intro @rd (@ld)))))) ?_|refine kp (And.intro @vx_ (And.intro @ln (And.intro @d3 (And.intro @ix (And.intro @rd (@ld)))))) ?_
   refine Ow.callFV rfl Tryz.call247 (fun w' hw'=>Zc_ p (base.length:Int) w' hpb (by omega) (by omega)) ?_
   cases hc:cpV p base.length with
   |some q=>
    rw[hc] at hpt
    simp only at hpt
    obtain⟨rfl,h1,h2,h3,h4⟩:=atb_ hc
    rw[ahG_ hc]
    rw[h3,List.append_nil] at hpt
    simp only at hpt ⊢
    refine ko @vx_ ?_
    first|with_reducible refine ks [] @vx_ ?_|refine kp @vx_ ?_
    refine Again.mk (k+1) (by omega) (by omega) rfl ?_
    rw[htk,hpt,←show(base.take (p.a+p.n)).drop p.a=(base.drop p.a).take p.n by rw[List.drop_take,Nat.add_sub_cancel_left]]
    rfl
   |none=>
    rw[hc] at hpt
    simp only at hpt
    obtain⟨y,hy⟩:=ahP_ hc
    have hx4:=hxl hc
    rw[hy]
    refine ko @vx_ ?_
    first|with_reducible refine ks [] (And.intro @vx_ (And.intro @ix (And.intro @rd (@ld1)))) ?_|refine kp (And.intro @vx_ (And.intro @ix (And.intro @rd (@ld1)))) ?_
    refine Again.mk (k+1) (by omega) (by omega) rfl ?_
    rw[htk,hpt]
    rfl
  ·obtain rfl:k=l.length:=by omega
   have d3:decide ((l.length:Int)< (l.length:Int))=false:=decide_eq_false (by omega)
   rw[List.take_length]
   first|with_reducible refine ks [] (And.intro @vx_ (And.intro @ln (@d3))) ?_|refine kp (And.intro @vx_ (And.intro @ln (@d3))) ?_
   refine⟨_,(ke @vx_),trivial, ?_⟩
   rfl
 ·rw[if_neg he]
  have e0: ((chkV base.length l).2 !=0)=true:=bne_iff_ne.2 he
  refine ko @vx_ ?_
  first|with_reducible refine ks [] (And.intro @vx_ @e0) ?_|refine kp (And.intro @vx_ @e0) ?_
  refine⟨_,(ke @vx_),trivial, ?_⟩
  rfl
end Go.Proofs
end
section
open Go Go.Proofs Go.Sx Go.StP Go.Flo
namespace Go.Proofs
set_option maxRecDepth 10000
set_option maxHeartbeats 400000
set_option linter.unusedSimpArgs false
def rrO (s:List UInt8) (a:Nat) (e:Int):Obj:= .cells #[vs s,vi a,vi e] 217 (0,0)
theorem ahv_ (s:List UInt8) (a:Nat) (e:Int) (n:Nat):zt_ (some (false,n)) (some (rrO s a e)) 0=some (vs s):=(rfl)
theorem aic_ (s:List UInt8) (a:Nat) (e:Int) (n:Nat):zt_ (some (false,n)) (some (rrO s a e)) 1=some (vi a):=(rfl)
theorem ag4_ (s:List UInt8) (a:Nat) (e:Int) (n:Nat):zt_ (some (false,n)) (some (rrO s a e)) 2=some (vi e):=(rfl)
theorem abV_ (b:Nat) (s:List UInt8) (a:Nat) (e n:Int) (w:World) (ha:a≤s.length) (hs:s.length<1099511627776) (ho:w.heap[b]? =some (rrO s a e)):
  Rets Tryz.prog 182 #[vp b 0,vi n] w (fun v D=> ∃o,D= [(b,o)]∧v=vs (jw_ s a e n).1∧o=rrO s (jw_ s a e n).2.1 (jw_ s a e n).2.2):=ZZ_ b s a e n w ha hs ho
theorem q1_ (b:Nat) (s:List UInt8) (a:Nat) (e most:Int) (w:World) (ha:a≤s.length) (hs:s.length<1099511627776) (ho:w.heap[b]? =some (rrO s a e)):
  Rets Tryz.prog 146 #[vp b 0,vi most] w (fun v D=> ∃o,D= [(b,o)]∧v=vi (zD_ s a e most).1∧o=rrO s (zD_ s a e most).2.1 (zD_ s a e most).2.2):=xP_ b s a e most w ha hs ho
theorem JX_ (b:Nat) (s:List UInt8) (a:Nat) (e:Int) (w:World) (ho:w.heap[b]? =some (rrO s a e)):
  Rets Tryz.prog 145 #[vp b 0] w (fun v D=>v=vi (xA_ s a e)∧D= []):=v5_ b s a e w ho
theorem zrRR:zM_ Tryz.prog 217=some (.agg #[vs [],vi 0,vi 0]):=id (by kernel_rfl)
theorem an3_ (s:List UInt8):q5_ (vc_ Tryz.prog 217) (zM_ Tryz.prog 217) [(0,vs s)]=some (.agg #[vs s,vi 0,vi 0]):=by
 rw[show vc_ Tryz.prog 217=some [(0,1),(1,1),(2,1)] from id (by kernel_rfl),zrRR];rfl
theorem alO_:q5_ (vc_ Tryz.prog 311) (zM_ Tryz.prog 311) []=some (.agg (pcC pc0).toArray):=by
 rw[show vc_ Tryz.prog 311=some [(0,1),(1,1)] from id (by kernel_rfl),zrPc];rfl
theorem alm_ (x n:Nat) (E:TypeId) (a:Bool):zv_ (some (a,1)) (some (.cells (pcC pc0).toArray E (0,0))) 0 (cx x n)=some (.cells (pcC ⟨x,n,[]⟩).toArray E (0,0)):=(rfl)
theorem al9_ (x:List UInt8) (E:TypeId) (a:Bool):zv_ (some (a,1)) (some (.cells (pcC pc0).toArray E (0,0))) 1 (vs x)=some (.cells (pcC ⟨0,0,x⟩).toArray E (0,0)):=(rfl)
structure RrG where
 a:Nat
 e:Int
 out:List PcL
 v:Value
 D:zb_
 DG:zb_
def RrJ (d:List UInt8) (a0:Nat) (e0:Int) (sz:Nat) (g:RrG):Prop:=
 New sz g.D∧New sz g.DG∧Gr g.D 311 2 g.v g.out.length (g.out.map pcC).flatten∧g.a≤d.length∧BndP g.out∧g.out.length≤g.a+1∧(g.e=0→g.out.length≤g.a)∧
  ((e0≠0∧g.e≠0)∨(e0=0∧((g.e=0∧pcs d a0=(g.out++ (pcs d g.a).1,(pcs d g.a).2))∨(g.e≠0∧pcs d a0=(g.out,g.a,g.e)))))
def ah7_ (d:List UInt8) (v:Value) (D:zb_):Prop:=match Wx_ d with
 |some p=> ∃x,v= .tuple #[vi p.1,x, .bool true]∧BndP p.2∧p.2.length≤4099∧p.1≤4099∧GrI D 311 2 x p.2.length (p.2.map pcC).flatten
 |none=>v= .tuple #[vi 0, .slice none 0 0, .bool false]
theorem anh_ {out:List PcL} {p:PcL} (h:BndP out) (hp:PcB p∧p.x.length<9223372036854775808):BndP (out++ [p]):=by
 intro g hg
 by_cases hlt:g<out.length
 ·rw[W3_ hlt];exact h g hlt
 ·rw[List.length_append] at hg
  rw[WG_ (by omega),show g - out.length=0 by simp at hg;omega]
  exact hp
set_option linter.defProp false
def qg_:=And.intro (And.intro (And.intro (@zp_) (And.intro (@zo_) (@ahv_))) (And.intro (And.intro (@aic_) (@ag4_)) (And.intro (@Zj_) (@Za_)))) (And.intro (And.intro (And.intro (@JC_) (@vV_)) (And.intro (@Sx.tup2_0) (@Sx.tup2_1))) (And.intro (And.intro (@Sx.tup3_0) (@Sx.tup3_1)) (And.intro (@Sx.tup3_2) (@Qb_))))
theorem agb_ (d:List UInt8) (w:World) (hd:d.length<100000000):Rets Tryz.prog 234 #[vs d] w (XS w [] (ah7_ d)):=by
 refine Rets.enterX Tryz.func234 rfl (rs:= [.tmp 2, .tmp 3, .tmp 4]) Tryz.results234 Tryz.ntmps234 (fun p hp=>by cases hp) (by simp[keys]) ?_
 refine kf ?_
 first|with_reducible refine ks [] @qg_ ?_|refine kp @qg_ ?_
 refine Ow.build (.agg #[vs d,vi 0,vi 0]) rfl (an3_ d) ?_
 refine ko @qg_ ?_
 refine Ow.box rfl rfl fun br hbr hwr=> ?_
 simp only[zY_,zV_,zX_,za_,List.nil_append]
 refine Ow.permL (M:= [(br,rrO d 0 0)]) (List.Perm.refl _) ?_
 refine ko @qg_ ?_
 first|with_reducible refine ks [] @qg_ ?_|refine kp @qg_ ?_
 have l1:=qO_ (s:=d) (a:=0) (e:=0) (most:=4099) (Nat.zero_le _)
 have m1:=jj_ (s:=d) (a:=0) (e:=0) (most:=4099) (by omega)
 refine Ow.callM rfl rfl Tryz.call146 (by simp[keys]) (fun w' hw'=>q1_ br d 0 0 4099 w' (Nat.zero_le _) (by omega) (hw'.has _ _ List.mem_cons_self)) ?_
 refine kn ?_
 refine ko @qg_ ?_
 first|with_reducible refine ks [] @qg_ ?_|refine kp @qg_ ?_
 have l2:=qO_ (s:=d) (a:=(zD_ d 0 0 4099).2.1) (e:=(zD_ d 0 0 4099).2.2) (most:=4099) l1.2
 refine Ow.callM rfl rfl Tryz.call146 (by simp[keys]) (fun w' hw'=>q1_ br d (zD_ d 0 0 4099).2.1 (zD_ d 0 0 4099).2.2 4099 w' l1.2 (by omega) (hw'.has _ _ List.mem_cons_self)) ?_
 have hdR:=ad4_ d
 rw[show zD_ d 0 0 4099=dB d from rfl] at l2 m1 ⊢
 rw[show zD_ d (dB d).2.1 (dB d).2.2 4099=dM d from rfl] at l2 ⊢
 refine kn ?_
 refine ko @qg_ ?_
 first|with_reducible refine ks [] @qg_ ?_|refine kp @qg_ ?_
 refine Cw.permL (M:=(br,rrO d (dM d).2.1 (dM d).2.2):: ([]++ [])) (List.Perm.refl _) ?_
 refine Cw.loopG (G:=RrG) [20,21,22,23,24,25,26,27,28,29,30,31,32,33,34,35,9,36,10,37,38,39,40,41,42,43,44,45,46,47,48,49,50,51,52,53,54,55,56,8] (fun g=> [(8,g.v)]) (fun g=>(br,rrO d g.a g.e):: (g.D++g.DG)) (fun g=>RrJ d (dM d).2.1 (dM d).2.2 w.heap.size g) (fun g=>(if g.e=0 then d.length - g.a+1 else 0)) ⟨(dM d).2.1,(dM d).2.2,[], .slice none 0 0,[],[]⟩ rfl rfl ?_ ?_
 ·refine⟨trivial,trivial,Gr.nl,l2.2,fun g hg=>by simp at hg,by simp,fun _=>Nat.zero_le _, ?_⟩
  by_cases he: (dM d).2.2=0
  ·exact .inr ⟨he, .inl ⟨he,rfl⟩⟩
  ·exact .inl ⟨he,he⟩
 intro g j hg
 refine kv ?_
 obtain⟨a,e,out,v,D,DG⟩:=g
 obtain⟨hN,hNG,hG,hal,hB,hol,hol0,hrel⟩:=hg
 simp only at hN hNG hG hal hB hol hol0 hrel ⊢
 by_cases hc:e=0∧a<d.length
 ·obtain⟨rfl,hlt⟩:=hc
  have e0: ((0:Int)==0)=true:=rfl
  have d1:decide ((a:Int)< (d.length:Int))=true:=decide_eq_true (by omega)
  have hle1:=qO_ (s:=d) (a:=a) (e:=0) (most:=8199) hal
  have hm1:=jj_ (s:=d) (a:=a) (e:=0) (most:=8199) (by omega)
  have hpR:pcR d a=pcR d a:=rfl
  conv at hpR=>rhs;unfold pcR
  first|with_reducible refine ks [1000008] (And.intro @qg_ (And.intro @e0 (@d1))) ?_|refine kp (And.intro @qg_ (And.intro @e0 (@d1))) ?_
  refine Ow.callM rfl rfl Tryz.call146 (by simp[keys]) (fun w' hw'=>q1_ br d a 0 8199 w' hal (by omega) (hw'.has _ _ List.mem_cons_self)) ?_
  generalize zD_ d a 0 8199=q at*
  obtain⟨q1,a1,e1⟩:=q
  simp only at hle1 hm1 hpR ⊢
  obtain⟨Q,rfl⟩: ∃Q:Nat,q1=(Q:Int):=⟨q1.toNat,by omega⟩
  have hQ:Q≤8199:=by omega
  refine kn ?_
  refine ko @qg_ ?_
  first|with_reducible refine ks [] @qg_ ?_|refine kp @qg_ ?_
  refine Ow.build (.agg (pcC pc0).toArray) rfl alO_ ?_
  refine ko @qg_ ?_
  refine Ow.alloc rfl rfl zrPc fun b10 hb10 hw10=> ?_
  simp only[za_,List.nil_append,List.cons_append]
  have h10:br<b10:=zi_ hb10 (by simp[keys])
  have hst:=aob_ pc0 pc0 311
  refine Ow.permL (M:=(b10, .cells (pcC pc0).toArray 311 (0,0)):: (br,rrO d a1 e1):: (D++DG)) (by classical exact List.perm_iff_count.2 fun a=>by simp only[List.count_append,List.count_cons,List.count_nil]<;>omega) ?_
  refine ko (And.intro @qg_ @hst) ?_
  refine Cw.cutO (G:=(PcL×Nat×Int)) [37,38,39,40,41,42,43,44,45,46,47,48,49,50,51,52] (fun g=> []) (fun g=>(b10, .cells (pcC g.1).toArray 311 (0,0)):: (br,rrO d g.2.1 g.2.2):: (D++DG)) (fun g=>pcR d a=g∧(PcB g.1∧g.1.x.length<9223372036854775808)) ?_ ?_
  ·by_cases hodd: (Q:Int)%2=1
   ·have d2: (((Q:Nat):Int)%2==1)=true:=by rw[beq_iff_eq];exact hodd
    rw[if_pos hodd] at hpR
    have hm2:=jj_ (s:=d) (a:=a1) (e:=e1) (most:=4099) (by omega)
    first|with_reducible refine ks [] (And.intro @qg_ @d2) ?_|refine kp (And.intro @qg_ @d2) ?_
    refine Ow.callM rfl rfl Tryz.call146 (by simp[keys]) (fun w' hw'=>q1_ br d a1 e1 4099 w' hle1.2 (by omega) (hw'.has _ _ (List.mem_cons_of_mem _ List.mem_cons_self))) ?_
    generalize zD_ d a1 e1 4099=x at*
    obtain⟨x1,a2,e2⟩:=x
    simp only at hm2 hpR ⊢
    obtain⟨X,rfl⟩: ∃X:Nat,x1=(X:Int):=⟨x1.toNat,by omega⟩
    rw[Int.toNat_natCast,show((Q:Int) / 2).toNat=Q / 2 by omega] at hpR
    refine kn ?_
    refine Ow.convIF rfl rfl cvIF Tryz.underlying3 Tryz.underlying312 rfl ?_
    refine ko @qg_ ?_
    rw[show(Q:Int) / 2=((Q / 2:Nat):Int) by omega]
    refine Ow.convIF rfl rfl cvIF Tryz.underlying3 Tryz.underlying312 rfl ?_
    refine Ow.complexB (a:=(X:Nat)) (b:=(Q / 2:Nat)) rfl rfl rfl ?_
    have hs2:=fun a=>alm_ X (Q / 2) 311 a
    refine ko (And.intro @qg_ @hs2) ?_
    refine CutO.mk (⟨X,Q / 2,[]⟩,a2,e2) ⟨hpR,⟨by show X≤4099;omega,by show Q / 2≤4099;omega⟩,by show 0<9223372036854775808;omega⟩ rfl rfl
   ·have d2: (((Q:Nat):Int)%2==1)=false:=by rw[beq_eq_false_iff_ne];exact hodd
    rw[if_neg hodd] at hpR
    first|with_reducible refine ks [] (And.intro @qg_ @d2) ?_|refine kp (And.intro @qg_ @d2) ?_
    refine Ow.callM rfl rfl Tryz.call182 (by simp[keys]) (fun w' hw'=>abV_ br d a1 e1 ((Q:Int) / 2) w' hle1.2 (by omega) (hw'.has _ _ (List.mem_cons_of_mem _ List.mem_cons_self))) ?_
    have hxl: (jw_ d a1 e1 ((Q:Int) / 2)).1.length≤d.length:=by
     unfold jw_
     split
     ·simp
     ·split
      ·simp
      ·split
       ·simp
       ·simp only[List.length_take,List.length_drop];omega
    generalize jw_ d a1 e1 ((Q:Int) / 2)=x at*
    obtain⟨x1,a2,e2⟩:=x
    simp only at hxl hpR ⊢
    refine kn ?_
    have hs2:=fun a=>al9_ x1 311 a
    refine ko (And.intro @qg_ @hs2) ?_
    refine CutO.mk (⟨0,0,x1⟩,a2,e2) ⟨hpR,⟨Nat.zero_le _,Nat.zero_le _⟩,by show x1.length<9223372036854775808;omega⟩ rfl rfl
  ·intro g j hg
   refine kv ?_
   obtain⟨p,a2,e2⟩:=g
   obtain⟨hpq,hpB⟩:=hg
   simp only at hpB ⊢
   have hle:=al7_ hal
   have hup:=alb_ hal
   have hok:=as6_ hlt
   have her:=aqG_ hlt
   rw[hpq] at hle hup hok her
   simp only at hle hup hok her
   first|with_reducible refine ks [] @qg_ ?_|refine kp @qg_ ?_
   refine Ow.buildSlice (e:=311) (pcC p).toArray rfl rfl (aqI_ p) fun b11 hb11 hw11=> ?_
   refine ko @qg_ ?_
   refine Ow.permL (M:=D++ ((b10, .cells (pcC p).toArray 311 (0,0)):: (br,rrO d a2 e2):: (DG++ [(b11, .cells (pcC p).toArray 311 (0,0))]))) (by classical exact List.perm_iff_count.2 fun a=>by simp only[List.count_append,List.count_cons,List.count_nil]<;>omega) ?_
   refine Ow.appendXG (e:=311) (k:=1) (new:=pcC p) (X:=D) v rfl rfl rfl rfl Tryz.underlying297 (id (by kernel_rfl):z0_ Tryz.prog 311=some (true,2)) (by kernel_rfl) zrPc (by rw[vV_];rfl) Tryz.underlying297 (by intro k h;cases h) hG (fun w' hw'=>AppX.one1 (hw'.has b11 (.cells (pcC p).toArray 311 (0,0)) (by simp)) (Qa_ p) (amE_ p)) (by omega) (fun B3 v3 D3 hA3 hB3 hG3 hk13 hk23 hlk3=> ?_)
   have hN3:New w.heap.size D3:=New.of_le fun q hq=>by
    rcases hk23 q hq with h|h
    ·exact hN.le q h
    ·omega
   refine Ow.permL (M:=(br,rrO d a2 e2):: (D3++ ((b10, .cells (pcC p).toArray 311 (0,0)):: (DG++ [(b11, .cells (pcC p).toArray 311 (0,0))])))) (by classical exact List.perm_iff_count.2 fun a=>by simp only[List.count_append,List.count_cons,List.count_nil]<;>omega) ?_
   refine ko @qg_ ?_
   refine Again.mk ⟨a2,e2,out++ [p],v3,D3,(b10, .cells (pcC p).toArray 311 (0,0)):: (DG++ [(b11, .cells (pcC p).toArray 311 (0,0))])⟩ ?_ ⟨hN3,⟨hw10,hNG.app ⟨hw11,trivial⟩⟩,by simpa using hG3,hle.2,anh_ hB hpB, ?_, ?_, ?_⟩ rfl rfl
   ·show(if e2=0 then d.length - a2+1 else 0)< (if(0:Int)=0 then d.length - a+1 else 0)
    rw[if_pos rfl]
    split
    ·rename_i he;have:=hup he;omega
    ·omega
   ·show(out++ [p]).length≤a2+1
    have:=hol0 rfl
    rw[List.length_append];simp;omega
   ·intro he
    show(out++ [p]).length≤a2
    have:=hol0 rfl
    have:=hup he
    rw[List.length_append];simp;omega
   ·rcases hrel with⟨h1,h2⟩ | ⟨h1,h2|h2⟩
    ·exact absurd rfl h2
    ·refine .inr ⟨h1, ?_⟩
     by_cases he:e2=0
     ·refine .inl ⟨he, ?_⟩
      rw[h2.2,hok he]
      simp
     ·refine .inr ⟨he, ?_⟩
      rw[h2.2,her he]
    ·exact absurd rfl h2.1
 ·have hdone: (e==0&&decide ((a:Int)< (d.length:Int)))=false:=by
   rw[Bool.and_eq_false_iff]
   by_cases he:e=0
   ·right;exact decide_eq_false (fun h=>hc ⟨he,by omega⟩)
   ·left;exact beq_eq_false_iff_ne.2 he
  have hNr:New w.heap.size ((br,rrO d a e):: (D++DG)):=⟨hwr,hN.app hNG⟩
  by_cases he:e=0
  ·subst he
   have hal2: ¬a<d.length:=fun h=>hc ⟨rfl,h⟩
   have e0: ((0:Int)==0)=true:=rfl
   have d1:decide ((a:Int)< (d.length:Int))=false:=decide_eq_false (by omega)
   have hE:xA_ d a 0=0:=by unfold xA_;rw[if_neg (by simp),if_neg (by omega)]
   have n0: ((0:Int) !=0)=false:=rfl
   obtain⟨h1,h2⟩: (dM d).2.2=0∧pcs d (dM d).2.1=(out,a,0):=by
    rcases hrel with⟨h1,h2⟩ | ⟨h1,h2|h2⟩
    ·exact absurd rfl h2
    ·rw[asi_ hal2] at h2
     exact⟨h1,by rw[h2.2,List.append_nil]⟩
    ·exact absurd rfl h2.1
   rw[h2] at hdR
   rw[if_neg (by rw[h1];simp),if_neg (by simp)] at hdR
   simp only at hdR
   first|with_reducible refine ks [] (And.intro @qg_ (And.intro @e0 (@d1))) ?_|refine kp (And.intro @qg_ (And.intro @e0 (@d1))) ?_
   refine Ow.callFV rfl Tryz.call145 (fun w' hw'=>JX_ br d a 0 w' (hw'.has _ _ List.mem_cons_self)) ?_
   rw[hE]
   refine ko (And.intro @qg_ @n0) ?_
   first|with_reducible refine ks [] (And.intro @qg_ @n0) ?_|refine kp (And.intro @qg_ @n0) ?_
   refine Ow.callFV rfl Tryz.call246 (fun w' hw'=>Kw_ (dB d).1 v out w' (hG.slM (fun b o hm=>hw'.has b o (by simp[hm])) rfl rfl Qa_) hB (by omega)) ?_
   unfold ah7_
   by_cases hk:chkV (dB d).1 out=((dM d).1,0)
   ·rw[if_pos hk] at hdR
    rw[hdR,hk]
    obtain⟨-,-,-,-,-,hc4⟩:=afN_ hk
    have n1: ((dM d).1 !=(dM d).1)=false:=bne_self_eq_false _
    refine ko @qg_ ?_
    first|with_reducible refine ks [] (And.intro @qg_ (And.intro @n0 (@n1))) ?_|refine kp (And.intro @qg_ (And.intro @n0 (@n1))) ?_
    refine⟨_,(ke @qg_), ?_⟩
    refine⟨Ext.of_new hNr,v, ?_,hB,hc4,by show(dB d).1.toNat≤4099;omega,Gr.i hG fun q hq=>by simp[hq]⟩
    show Value.tuple #[vi (dB d).1,v, .bool true]= .tuple #[vi ((dB d).1.toNat:Nat),v, .bool true]
    rw[show(((dB d).1.toNat:Nat):Int)=(dB d).1 by omega]
   ·rw[if_neg hk] at hdR
    rw[hdR]
    obtain⟨N,E,hNE⟩: ∃N E,chkV (dB d).1 out=(N,E):=⟨_,_,rfl⟩
    rw[hNE] at hk ⊢
    by_cases hE0:E=0
    ·subst hE0
     have n1: (N !=(dM d).1)=true:=bne_iff_ne.2 (fun h=>hk (by rw[h]))
     refine ko @qg_ ?_
     first|with_reducible refine ks [] (And.intro @qg_ (And.intro @n0 (@n1))) ?_|refine kp (And.intro @qg_ (And.intro @n0 (@n1))) ?_
     refine⟨_,(ke @qg_), ?_⟩
     exact⟨Ext.of_new hNr,rfl⟩
    ·have n1: (E !=0)=true:=bne_iff_ne.2 hE0
     refine ko @qg_ ?_
     first|with_reducible refine ks [] (And.intro @qg_ @n1) ?_|refine kp (And.intro @qg_ @n1) ?_
     refine⟨_,(ke @qg_), ?_⟩
     exact⟨Ext.of_new hNr,rfl⟩
  ·have e0: (e==0)=false:=beq_eq_false_iff_ne.2 he
   have hE:xA_ d a e=e:=by unfold xA_;rw[if_pos he]
   have n0: (e !=0)=true:=bne_iff_ne.2 he
   have hno:Wx_ d=none:=by
    rw[hdR]
    rcases hrel with⟨h1,h2⟩ | ⟨h1,h2|h2⟩
    ·rw[if_pos h1]
    ·exact absurd h2.1 he
    ·rw[h2.2,if_neg (by rw[h1];simp),if_pos he]
   first|with_reducible refine ks [] (And.intro @qg_ @e0) ?_|refine kp (And.intro @qg_ @e0) ?_
   refine Ow.callFV rfl Tryz.call145 (fun w' hw'=>JX_ br d a e w' (hw'.has _ _ List.mem_cons_self)) ?_
   rw[hE]
   refine ko (And.intro @qg_ @n0) ?_
   first|with_reducible refine ks [] (And.intro @qg_ @n0) ?_|refine kp (And.intro @qg_ @n0) ?_
   refine⟨_,(ke @qg_), ?_⟩
   refine⟨Ext.of_new hNr, ?_⟩
   unfold ah7_
   rw[hno]
   rfl
end Go.Proofs
end
section
open Go Go.Proofs Go.Sx Go.StP Go.Flo
namespace Go.Proofs
set_option maxRecDepth 10000
set_option maxHeartbeats 400000
set_option linter.unusedSimpArgs false
set_option linter.defProp false
def wC_:=And.intro (And.intro (And.intro (@zp_) (@zo_)) (And.intro (@Zj_) (And.intro (@Za_) (@JC_)))) (And.intro (And.intro (@vV_) (And.intro (@Sx.tup2_0) (@Sx.tup2_1))) (And.intro (@Sx.tup3_0) (And.intro (@Sx.tup3_1) (@Sx.tup3_2))))
theorem agD_ (base d:List UInt8) (w:World) (hd:d.length<100000000):
  Rets Tryz.prog 215 #[vs base,vs d] w (fun v D=>v= .tuple #[vs (xZ_ base d).1,vi (xZ_ base d).2]∧D= []):=by
 refine Rets.enterV Tryz.func215 rfl (rs:= [.tmp 4, .tmp 5]) Tryz.results215 Tryz.ntmps215 ?_
 refine kf ?_
 first|with_reducible refine ks [] @wC_ ?_|refine kp @wC_ ?_
 refine Ow.callC rfl rfl Tryz.call234 (fun w' hw'=>agb_ d w' hd) (fun B1 v1 D1 hA1 hB1 hN1 hS1=> ?_)
 have hN1':=hN1.mono hB1
 unfold ah7_ at hS1
 cases hr:Wx_ d with
 |none=>
  rw[hr] at hS1
  have hS1':v1= .tuple #[vi 0, .slice none 0 0, .bool false]:=hS1
  subst hS1'
  have hap:xZ_ base d=([],2):=by unfold xZ_;rw[hr]
  refine ko @wC_ ?_
  first|with_reducible refine ks [] @wC_ ?_|refine kp @wC_ ?_
  refine⟨_,(ke @wC_),hN1', ?_⟩
  rw[hap];rfl
 |some p=>
  rw[hr] at hS1
  obtain⟨x,rfl,hB,hl4,hp4,hg⟩:=hS1
  by_cases hb:p.1=base.length
  ·have e1: (((p.1:Nat):Int) !=((base.length:Nat):Int))=false:=by rw[hb];exact bne_self_eq_false _
   obtain⟨m,hm⟩:=W4_ hr
   rw[hb] at hm
   have hap:xZ_ base d=(txtP base p.2,0):=by unfold xZ_;rw[hr];simp only;rw[if_neg (by simp[hb])]
   refine ko @wC_ ?_
   first|with_reducible refine ks [] (And.intro @wC_ @e1) ?_|refine kp (And.intro @wC_ @e1) ?_
   refine Ow.callFV rfl Tryz.call235 (fun w' hw'=>afX_ base x p.2 w' (GrI.slV (hg.mono fun q hq=>by simp[hq]) hw' rfl rfl Qa_) hB (by omega)) ?_
   rw[hm,if_pos rfl]
   refine ko @wC_ ?_
   first|with_reducible refine ks [] @wC_ ?_|refine kp @wC_ ?_
   refine⟨_,(ke @wC_),hN1', ?_⟩
   rw[hap];rfl
  ·have e1: (((p.1:Nat):Int) !=((base.length:Nat):Int))=true:=by rw[bne_iff_ne];omega
   have hap:xZ_ base d=([],19):=by unfold xZ_;rw[hr];simp only;rw[if_pos hb]
   refine ko @wC_ ?_
   first|with_reducible refine ks [] (And.intro @wC_ @e1) ?_|refine kp (And.intro @wC_ @e1) ?_
   refine⟨_,(ke @wC_),hN1', ?_⟩
   rw[hap];rfl
structure PrG where
 at_:Nat
 out:List Nat
 v:Value
 D:zb_
 DG:zb_
set_option linter.defProp false
def jt_:=And.intro (And.intro (And.intro (@zp_) (@zo_)) (And.intro (@WC_) (@Wl_))) (And.intro (And.intro (@Wm_) (@w9_)) (And.intro (@Sx.tup2_0) (@Sx.tup2_1)))
theorem ajF_ (v0:Value) (l:List PartL) (a0:Int) (w:World) (hv:ap6_ w v0 l):
  Rets Tryz.prog 214 #[v0,vi a0] w (XS w [] (ac3_ l a0)):=by
 obtain⟨bb,off,arr,E,fz,hr⟩:=hv.row
 have ln:=hv.len
 refine Rets.enterX Tryz.func214 rfl (rs:= [.tmp 4, .tmp 5]) Tryz.results214 Tryz.ntmps214 (fun p hp=>by cases hp) (by simp[keys]) ?_
 refine kf ?_
 by_cases hc:200<l.length∨a0<0∨(l.length:Int)≤a0
 ·have hpv:wi_ l a0= .error 1:=by unfold wi_;rw[if_pos hc]
  unfold ac3_
  rw[hpv]
  by_cases h1:200<l.length
  ·have d1:decide ((200:Int)< (l.length:Int))=true:=decide_eq_true (by omega)
   first|with_reducible refine ks [] (And.intro @jt_ (And.intro @ln (@d1))) ?_|refine kp (And.intro @jt_ (And.intro @ln (@d1))) ?_
   refine⟨_,(ke @jt_), ?_⟩
   exact⟨Ext.refl _ _,rfl⟩
  ·have d1:decide ((200:Int)< (l.length:Int))=false:=decide_eq_false (by omega)
   by_cases h2:a0<0
   ·have d2:decide (a0<0)=true:=decide_eq_true h2
    first|with_reducible refine ks [] (And.intro @jt_ (And.intro @ln (And.intro @d1 (@d2)))) ?_|refine kp (And.intro @jt_ (And.intro @ln (And.intro @d1 (@d2)))) ?_
    refine⟨_,(ke @jt_), ?_⟩
    exact⟨Ext.refl _ _,rfl⟩
   ·have d2:decide (a0<0)=false:=decide_eq_false h2
    have d3:decide ((l.length:Int)≤a0)=true:=decide_eq_true (by omega)
    first|with_reducible refine ks [] (And.intro @jt_ (And.intro @ln (And.intro @d1 (And.intro @d2 (@d3))))) ?_|refine kp (And.intro @jt_ (And.intro @ln (And.intro @d1 (And.intro @d2 (@d3))))) ?_
    refine⟨_,(ke @jt_), ?_⟩
    exact⟨Ext.refl _ _,rfl⟩
 ·have d1:decide ((200:Int)< (l.length:Int))=false:=decide_eq_false (by omega)
  have d2:decide (a0<0)=false:=decide_eq_false (by omega)
  have d3:decide ((l.length:Int)≤a0)=false:=decide_eq_false (by omega)
  obtain⟨A,rfl⟩: ∃A:Nat,a0=(A:Int):=⟨a0.toNat,by omega⟩
  have hpv:wi_ l (A:Int)=(x7_ l 5 A).map ([]++ ·):=by
   unfold wi_
   rw[if_neg hc,Int.toNat_natCast]
   cases x7_ l 5 A<;>rfl
  first|with_reducible refine ks [] (And.intro @jt_ (And.intro @ln (And.intro @d1 (And.intro @d2 (@d3))))) ?_|refine kp (And.intro @jt_ (And.intro @ln (And.intro @d1 (And.intro @d2 (@d3))))) ?_
  refine Cw.loopG (G:=PrG) [21,22,25,26,4,5,27,28,29,30,6,31,32,33,34,35,36,37,38,39,40,41,42,43,44,45,46,47,48,49,50,51,52,53,54,55,56,57,58,59,60,61,62,63,1,23,24,7] (fun g=> [(1,vi g.at_),(6,g.v),(7,vi g.out.length)]) (fun g=>g.D++g.DG) (fun g=>New w.heap.size g.D∧New w.heap.size g.DG∧Gr g.D 3 1 g.v g.out.length (g.out.map natC).flatten∧g.at_<l.length∧g.out.length≤5∧wi_ l (A:Int)=(x7_ l (5 - g.out.length) g.at_).map (g.out++ ·)) (fun g=>6 - g.out.length) ⟨A,[], .slice none 0 0,[],[]⟩ rfl rfl ?_ ?_
  ·exact⟨trivial,trivial,Gr.nl,by show A<l.length;omega,by simp,hpv⟩
  intro g j hg
  refine kv ?_
  obtain⟨a,out,v,D,DG⟩:=g
  obtain⟨hN,hNG,hG,hal,hol,hrel⟩:=hg
  simp only at hN hNG hG hal hol hrel ⊢
  have d4:decide ((out.length:Int)<6)=true:=decide_eq_true (by omega)
  by_cases h5:out.length=5
  ·have d5: ((out.length:Int)==5)=true:=by rw[h5];rfl
   rw[h5] at hrel
   have hpe:wi_ l (A:Int)= .error 11:=hrel
   first|with_reducible refine ks [] (And.intro @jt_ (And.intro @d4 (@d5))) ?_|refine kp (And.intro @jt_ (And.intro @d4 (@d5))) ?_
   refine⟨_,(ke @jt_), ?_⟩
   refine⟨Ext.of_new (hN.app hNG), ?_⟩
   unfold ac3_
   rw[hpe]
   rfl
  ·have d5: ((out.length:Int)==5)=false:=beq_eq_false_iff_ne.2 (by omega)
   have hk5:x7_ l (5 - out.length) a=x7_ l (4 - out.length+1) a:=by congr 1;omega
   rw[hk5,x7_] at hrel
   first|with_reducible refine ks [] (And.intro @jt_ (And.intro @d4 (@d5))) ?_|refine kp (And.intro @jt_ (And.intro @d4 (@d5))) ?_
   refine Ow.buildSlice (e:=3) #[vi a] rfl rfl (by kernel_rfl) fun b9 hb9 hw9=> ?_
   refine ko @jt_ ?_
   refine Ow.permL (M:=D++ (DG++ [(b9, .cells #[vi a] 3 (0,0))])) (by classical exact List.perm_iff_count.2 fun a=>by simp only[List.count_append,List.count_cons,List.count_nil]<;>omega) ?_
   refine Ow.appendXG (e:=3) (k:=1) (new:=natC a) (X:=D) v rfl rfl rfl rfl Tryz.underlying196 (id (by kernel_rfl):z0_ Tryz.prog 3=some (false,1)) (by kernel_rfl) (id (by kernel_rfl):zM_ Tryz.prog 3=some (vi 0)) rfl Tryz.underlying196 (by intro k h;cases h) hG (fun w' hw'=>AppX.one1 (hw'.has b9 (.cells #[vi a] 3 (0,0)) (by simp)) (aib_ a) rfl) (by omega) (fun B3 v3 D3 hA3 hB3 hG3 hk13 hk23 hlk3=> ?_)
   have hN3:New w.heap.size D3:=New.of_le fun c hc=>by
    rcases hk23 c hc with h|h
    ·exact hN.le c h
    ·omega
   have hG4:Gr D3 3 1 v3 (out++ [a]).length ((out++ [a]).map natC).flatten:=by simpa using hG3
   have hol2: (out++ [a]).length=out.length+1:=by simp
   have hNG9:New w.heap.size (DG++ [(b9, .cells #[vi a] 3 (0,0))]):=hNG.app ⟨hw9,trivial⟩
   generalize DG++ [(b9,Obj.cells #[vi a] 3 (0,0))]=DG' at*
   have hNr:New w.heap.size (D3++DG'):=hN3.app hNG9
   have hb0:0<l.length:=by omega
   have hbl:=hr.lt hb0
   have rd:zz_ w (D3++DG') bb=some (.cells arr E fz):=by rw[qN_ (hNr.not hbl)];exact hr.has hb0
   have i2:=hr.idx true a hal
   have ld0:zt_ (some (false,1)) (some (.cells arr E fz)) (off+a*3)=some (.bool (l.getD a xD_).d):=hr.cell (j:=0) (n:=1) hal (by omega)
   have ld1:zt_ (some (false,1)) (some (.cells arr E fz)) (off+a*3+1)=some (vi (l.getD a xD_).b):=hr.cell (j:=1) (n:=1) hal (by omega)
   generalize l.getD a xD_=p at*
   cases hd:p.d with
   |false=>
    rw[hd,if_neg (by simp)] at hrel
    rw[hd] at ld0
    by_cases hb:p.b=0
    ·have e1: (p.b !=0)=false:=by rw[hb];rfl
     rw[if_neg (by simp[hb])] at hrel
     refine ko (And.intro @jt_ (And.intro @i2 (And.intro @rd (And.intro @ld0 (And.intro @ld1 (@e1)))))) ?_
     first|with_reducible refine ks [] (And.intro @jt_ (And.intro @i2 (And.intro @rd (And.intro @ld0 (And.intro @ld1 (@e1)))))) ?_|refine kp (And.intro @jt_ (And.intro @i2 (And.intro @rd (And.intro @ld0 (And.intro @ld1 (@e1)))))) ?_
     refine⟨_,(ke @jt_), ?_⟩
     refine⟨Ext.of_new hNr, ?_⟩
     unfold ac3_
     rw[hrel]
     exact⟨v3,rfl,by show(out++ [a]).length≤5;omega,Gr.i hG4 fun c hc=>by simp[hc]⟩
    ·have e1: (p.b !=0)=true:=by rw[bne_iff_ne];exact hb
     rw[if_pos hb] at hrel
     have hpe:wi_ l (A:Int)= .error 2:=hrel
     refine ko (And.intro @jt_ (And.intro @i2 (And.intro @rd (And.intro @ld0 (And.intro @ld1 (@e1)))))) ?_
     first|with_reducible refine ks [] (And.intro @jt_ (And.intro @i2 (And.intro @rd (And.intro @ld0 (And.intro @ld1 (@e1)))))) ?_|refine kp (And.intro @jt_ (And.intro @i2 (And.intro @rd (And.intro @ld0 (And.intro @ld1 (@e1)))))) ?_
     refine⟨_,(ke @jt_), ?_⟩
     refine⟨Ext.of_new hNr, ?_⟩
     unfold ac3_
     rw[hpe];rfl
   |true=>
    rw[hd,if_pos rfl] at hrel
    rw[hd] at ld0
    by_cases hb:p.b<0
    ·have e1:decide (p.b<0)=true:=decide_eq_true hb
     rw[if_pos (.inl hb)] at hrel
     have hpe:wi_ l (A:Int)= .error 2:=hrel
     refine ko (And.intro @jt_ (And.intro @i2 (And.intro @rd (And.intro @ld0 (And.intro @ld1 (@e1)))))) ?_
     first|with_reducible refine ks [] (And.intro @jt_ (And.intro @i2 (And.intro @rd (And.intro @ld0 (And.intro @ld1 (@e1)))))) ?_|refine kp (And.intro @jt_ (And.intro @i2 (And.intro @rd (And.intro @ld0 (And.intro @ld1 (@e1)))))) ?_
     refine⟨_,(ke @jt_), ?_⟩
     refine⟨Ext.of_new hNr, ?_⟩
     unfold ac3_
     rw[hpe];rfl
    ·have e1:decide (p.b<0)=false:=decide_eq_false hb
     by_cases hb2: (a:Int)≤p.b
     ·have e2:decide ((a:Int)≤p.b)=true:=decide_eq_true hb2
      rw[if_pos (.inr hb2)] at hrel
      have hpe:wi_ l (A:Int)= .error 2:=hrel
      refine ko (And.intro @jt_ (And.intro @i2 (And.intro @rd (And.intro @ld0 (And.intro @ld1 (And.intro @e1 (@e2))))))) ?_
      first|with_reducible refine ks [] (And.intro @jt_ (And.intro @i2 (And.intro @rd (And.intro @ld0 (And.intro @ld1 (And.intro @e1 (@e2))))))) ?_|refine kp (And.intro @jt_ (And.intro @i2 (And.intro @rd (And.intro @ld0 (And.intro @ld1 (And.intro @e1 (@e2))))))) ?_
      refine⟨_,(ke @jt_), ?_⟩
      refine⟨Ext.of_new hNr, ?_⟩
      unfold ac3_
      rw[hpe];rfl
     ·have e2:decide ((a:Int)≤p.b)=false:=decide_eq_false hb2
      rw[if_neg (by omega)] at hrel
      obtain⟨Bn,hBn⟩: ∃Bn:Nat,p.b=(Bn:Int):=⟨p.b.toNat,by omega⟩
      rw[hBn] at ld1 e1 e2 hrel
      rw[Int.toNat_natCast] at hrel
      refine ko (And.intro @jt_ (And.intro @i2 (And.intro @rd (And.intro @ld0 (And.intro @ld1 (And.intro @e1 (@e2))))))) ?_
      first|with_reducible refine ks [] (And.intro @jt_ (And.intro @i2 (And.intro @rd (And.intro @ld0 (And.intro @ld1 (And.intro @e1 (@e2))))))) ?_|refine kp (And.intro @jt_ (And.intro @i2 (And.intro @rd (And.intro @ld0 (And.intro @ld1 (And.intro @e1 (@e2))))))) ?_
      refine Again.mk ⟨Bn,out++ [a],v3,D3,DG'⟩ (by show 6 - (out++ [a]).length<6 - out.length;omega) ⟨hN3,hNG9,hG4,by show Bn<l.length;omega,by show(out++ [a]).length≤5;omega, ?_⟩ rfl (by simp only[hol2];rfl)
      show wi_ l (A:Int)=(x7_ l (5 - (out++ [a]).length) Bn).map ((out++ [a])++ ·)
      rw[hrel,show 5 - (out++ [a]).length=4 - out.length by omega]
      split
      ·rename_i h4
       rw[h4];rfl
      ·cases x7_ l (4 - out.length) Bn with
       |error x=>rfl
       |ok x=>show Except.ok _=Except.ok _;simp
end Go.Proofs
end
section
open Go Go.Proofs Go.Sx Go.StP Go.Flo
namespace Go.Proofs
set_option maxRecDepth 10000
set_option maxHeartbeats 400000
set_option linter.unusedSimpArgs false
def BndD (l:List PartL):Prop:= ∀g,g<l.length→(l.getD g xD_).x.length<100000000
theorem Q2_ {α:Type} {enc:α→List Value} {m:Nat} {D:zb_} {E:TypeId} {v:Value} {l:List α} (h:GrI D E m v l.length (l.map enc).flatten) (hn: (keys D).Nodup):l.length=0∨ ∃b c rest,v=vsl b 0 l.length c∧b∈keys D∧Sx.look D b=some (rowO enc E rest l):=by
 obtain⟨X,hX,h| ⟨h0,-⟩⟩:=h
 ·rcases h.inv with⟨-,h0,-⟩ | ⟨b,c,rest,rfl,hl,h1,h2,h3,h4⟩
  ·exact .inl h0
  ·exact .inr ⟨b,c,rest,rfl,List.mem_map_of_mem (f:=Prod.fst) (hX _ (zy_ hl)),wb_ hn (hX _ (zy_ hl))⟩
 ·exact .inl h0
structure TrG where
 n:Nat
 s:List UInt8
 DG:zb_
set_option linter.defProp false
def xa_:=And.intro (And.intro (And.intro (@zp_) (@zo_)) (And.intro (@WC_) (@Wl_))) (And.intro (And.intro (@Wm_) (@w9_)) (And.intro (@Sx.tup2_0) (@Sx.tup2_1)))
theorem agM_ (v0:Value) (l:List PartL) (a0:Int) (w:World) (hv:ap6_ w v0 l) (hb:BndD l):
  Rets Tryz.prog 190 #[v0,vi a0] w (fun v D=>v=aj1_ (partV l a0)∧D= []):=by
 obtain⟨bb,off,arr,E,fz,hr⟩:=hv.row
 refine Rets.enterV Tryz.func190 rfl (rs:= [.tmp 4, .tmp 5]) Tryz.results190 Tryz.ntmps190 ?_
 refine kf ?_
 first|with_reducible refine ks [] @xa_ ?_|refine kp @xa_ ?_
 refine Ow.callC rfl rfl Tryz.call214 (fun w' hw'=>ajF_ v0 l a0 w' (hv.oldN hw' trivial)) (fun B1 v1 D1 hA1 hB1 hN1 hS1=> ?_)
 have hN1':=hN1.mono hB1
 unfold ac3_ at hS1
 unfold partV
 cases hp:wi_ l a0 with
 |error e=>
  rw[hp] at hS1
  have hS1':v1= .tuple #[.slice none 0 0,vi e]:=hS1
  subst hS1'
  have e0: (e !=0)=true:=by rw[bne_iff_ne];exact ab8_ hp
  refine ko @xa_ ?_
  first|with_reducible refine ks [] (And.intro @xa_ @e0) ?_|refine kp (And.intro @xa_ @e0) ?_
  refine⟨_,(ke @xa_),hN1', ?_⟩
  rfl
 |ok p=>
  rw[hp] at hS1
  obtain⟨x,rfl,hp5,hgp⟩:=hS1
  have hlt:=aoG_ hp
  have e0: ((0:Int) !=0)=false:=rfl
  have hlen: ∀m,KK_ (.sl m) x=some (vi p.length):=fun m=>we_ hgp m
  rw[List.nil_append]
  refine ko (And.intro @xa_ (And.intro @e0 (@hlen))) ?_
  first|with_reducible refine ks [] @xa_ ?_|refine kp @xa_ ?_
  refine Cw.world fun wz hwz=> ?_
  have hnd:=hwz.nodup
  clear hwz wz
  refine Cw.permL (M:=D1++ []) (by rw[List.append_nil]) ?_
  refine Cw.loopG (G:=TrG) [25,26,29,30,31,32,33,34,35,10,36,37,38,39,40,41,42,4,5,43,44,8,46,47,48,49,45,50,51,11,12,52,53,54,55,27,28,9] (fun g=> [(8,vs g.s),(9,vi ((g.n:Int) - 1))]) (fun g=>D1++g.DG) (fun g=>g.n≤p.length∧wc_ l (p.drop g.n)= .ok g.s∧New w.heap.size g.DG) (fun g=>g.n) ⟨p.length,[],[]⟩ rfl rfl ?_ ?_
  ·exact⟨Nat.le_refl _,by rw[List.drop_length];rfl,trivial⟩
  intro g j hg
  refine kv ?_
  obtain⟨n,s,DG⟩:=g
  simp only at hg ⊢
  obtain⟨hn1,hfn,hNG⟩:=hg
  have hNr:New w.heap.size (D1++DG):=hN1'.app hNG
  cases n with
  |zero=>
   have d1:decide ((0:Int)≤ ((0:Nat):Int) - 1)=false:=rfl
   first|with_reducible refine ks [] (And.intro @xa_ @d1) ?_|refine kp (And.intro @xa_ @d1) ?_
   refine⟨_,(ke @xa_),hNr, ?_⟩
   rw[List.drop_zero] at hfn;show _=aj1_ ((Except.ok p).bind (wc_ l));rw[show(Except.ok p).bind (wc_ l)=wc_ l p from rfl,hfn];rfl
  |succ n=>
   have en: ((n+1:Nat):Int) - 1=(n:Int):=by omega
   rw[en]
   have d1:decide ((0:Int)≤ (n:Int))=true:=decide_eq_true (by omega)
   obtain h0| ⟨bp,cp,rp,rfl,hkp,hlk⟩:=Q2_ hgp hnd
   ·omega
   have hnl:n<p.length:=by omega
   have rdp:zz_ w (D1++DG) bp=some (rowO natC 3 rp p):=ze_ (zk_ hlk)
   have lp:=ao6_ (E:=3) (rest:=rp) 1 n hnl
   have hmem:p.getD n 0<l.length:=hlt _ (xQ_ hnl)
   have hdr:p.drop n=p.getD n 0::p.drop (n+1):=Kq_ (z:=0) hnl
   have hfo:wc_ l (p.drop n)=if(kA_ (l.getD (p.getD n 0) xD_) s).2=0 then .ok (kA_ (l.getD (p.getD n 0) xD_) s).1 else .error (kA_ (l.getD (p.getD n 0) xD_) s).2:=by
    rw[hdr,wc_,hfn];rfl
   generalize p.getD n 0=a at*
   have hb0:0<l.length:=by omega
   have hbl:=hr.lt hb0
   have rd:zz_ w (D1++DG) bb=some (.cells arr E fz):=by rw[qN_ (hNr.not hbl)];exact hr.has hb0
   have i2:=hr.idx true a hmem
   have ld:=hr.load KM_ (by omega) hmem
   have hpx:=hb a hmem
   generalize l.getD a xD_=pt at*
   have hst:=Ws_ pt xD_ 279
   first|with_reducible refine ks [7] (And.intro @xa_ (And.intro @d1 (And.intro @lp (And.intro @rdp (And.intro @rd (And.intro @i2 (@ld))))))) ?_|refine kp (And.intro @xa_ (And.intro @d1 (And.intro @lp (And.intro @rdp (And.intro @rd (And.intro @i2 (@ld))))))) ?_
   refine Ow.alloc rfl rfl acF_ fun b10 hb10 hw10=> ?_
   simp only[za_,List.nil_append,List.cons_append]
   refine Ow.permL (M:=(b10, .cells (qH_ xD_).toArray 279 (0,0)):: (D1++DG)) (by classical exact List.perm_iff_count.2 fun a=>by simp only[List.count_append,List.count_cons,List.count_nil]<;>omega) ?_
   cases hd:pt.d with
   |false=>
    by_cases hl4:4099<pt.x.length
    ·have d2:decide ((4099:Int)< (pt.x.length:Int))=true:=decide_eq_true (by omega)
     have ht:kA_ pt s=([],19):=by unfold kA_;rw[if_neg (by rw[hd];decide),if_pos hl4]
     rw[ht,if_neg (by decide)] at hfo
     refine ko (And.intro @xa_ (And.intro @hst (And.intro @hd (@d2)))) ?_
     first|with_reducible refine ks [] (And.intro @xa_ (And.intro @hd (@d2))) ?_|refine kp (And.intro @xa_ (And.intro @hd (@d2))) ?_
     refine⟨_,(ke @xa_),(show New w.heap.size ((b10,_):: (D1++DG)) from⟨hw10,hNr⟩), ?_⟩
     show _=aj1_ (wc_ l p);rw[Jy_ p n hfo];rfl
    ·have d2:decide ((4099:Int)< (pt.x.length:Int))=false:=decide_eq_false (by omega)
     have ht:kA_ pt s=(pt.x,0):=by unfold kA_;rw[if_neg (by rw[hd];decide),if_neg hl4]
     rw[ht,if_pos rfl] at hfo
     refine ko (And.intro @xa_ (And.intro @hst (And.intro @hd (@d2)))) ?_
     refine Cw.permL (M:=D1++ ((b10, .cells (qH_ pt).toArray 279 (0,0))::DG)) (by classical exact List.perm_iff_count.2 fun a=>by simp only[List.count_append,List.count_cons,List.count_nil]<;>omega) ?_
     first|with_reducible refine ks [] @xa_ ?_|refine kp @xa_ ?_
     exact Again.mk ⟨n,pt.x,(b10, .cells (qH_ pt).toArray 279 (0,0))::DG⟩ (by show n<n+1;omega) ⟨by show n≤p.length;omega,hfo,⟨hw10,hNG⟩⟩ rfl rfl
   |true=>
    have ht:kA_ pt s=xZ_ s pt.x:=by unfold kA_;rw[if_pos hd]
    rw[ht] at hfo
    refine ko (And.intro @xa_ (And.intro @hst (@hd))) ?_
    first|with_reducible refine ks [] (And.intro @xa_ @hd) ?_|refine kp (And.intro @xa_ @hd) ?_
    refine Ow.callFV rfl Tryz.call215 (fun w' hw'=>agD_ s pt.x w' hpx) ?_
    by_cases he: (xZ_ s pt.x).2=0
    ·have e1: ((xZ_ s pt.x).2 !=0)=false:=by rw[he];rfl
     rw[if_pos he] at hfo
     refine ko (And.intro @xa_ @e1) ?_
     refine Cw.permL (M:=D1++ ((b10, .cells (qH_ pt).toArray 279 (0,0))::DG)) (by classical exact List.perm_iff_count.2 fun a=>by simp only[List.count_append,List.count_cons,List.count_nil]<;>omega) ?_
     first|with_reducible refine ks [] @xa_ ?_|refine kp @xa_ ?_
     exact Again.mk ⟨n,(xZ_ s pt.x).1,(b10, .cells (qH_ pt).toArray 279 (0,0))::DG⟩ (by show n<n+1;omega) ⟨by show n≤p.length;omega,hfo,⟨hw10,hNG⟩⟩ rfl rfl
    ·have e1: ((xZ_ s pt.x).2 !=0)=true:=by rw[bne_iff_ne];exact he
     rw[if_neg he] at hfo
     refine ko @xa_ ?_
     first|with_reducible refine ks [] (And.intro @xa_ @e1) ?_|refine kp (And.intro @xa_ @e1) ?_
     refine⟨_,(ke @xa_),(show New w.heap.size ((b10,_):: (D1++DG)) from⟨hw10,hNr⟩), ?_⟩
     show _=aj1_ (wc_ l p);rw[Jy_ p n hfo];rfl
end Go.Proofs
end
section
open Go Go.Proofs Go.Sx Go.StP Go.Flo
namespace Go.Proofs
set_option maxRecDepth 10000
set_option maxHeartbeats 400000
set_option linter.unusedSimpArgs false
set_option linter.defProp false
end Go.Proofs
end
section
open Go Go.Proofs Go.Sx Go.StP Go.Flo
namespace Go.Proofs
set_option maxRecDepth 10000
set_option maxHeartbeats 400000
set_option linter.unusedSimpArgs false
theorem afO_ (s:List UInt8) (a:Nat) (e most:Int):zD_ s (a+1) e most=((zD_ (s.drop 1) a e most).1,(zD_ (s.drop 1) a e most).2.1+1,(zD_ (s.drop 1) a e most).2.2):=by
 unfold zD_
 rw[List.drop_drop,Nat.add_comm 1 a]
 by_cases he:e≠0
 ·rw[if_pos he,if_pos he]
 ·rw[if_neg he,if_neg he]
  cases z5_ most (List.drop (a+1) s) 0 0 with
  |error x=>rfl
  |ok p=>simp only[Prod.mk.injEq,true_and];exact⟨by omega,trivial⟩
theorem agz_ (s:List UInt8) (a:Nat) (e n:Int) (hs:1≤s.length):jw_ s (a+1) e n=((jw_ (s.drop 1) a e n).1,(jw_ (s.drop 1) a e n).2.1+1,(jw_ (s.drop 1) a e n).2.2):=by
 unfold jw_
 rw[List.length_drop,List.drop_drop,Nat.add_comm 1 a]
 have hq: ((s.length:Int) - ((a+1:Nat):Int)<n)=(((s.length - 1:Nat):Int) - (a:Int)<n):=by rw[eq_iff_iff];omega
 simp only[hq]
 by_cases he:e≠0
 ·simp only[if_pos he]
 ·simp only[if_neg he]
  by_cases hn:n<0
  ·simp only[if_pos hn]
  ·simp only[if_neg hn]
   by_cases hl: ((s.length - 1:Nat):Int) - (a:Int)<n
   ·simp only[if_pos hl]
   ·simp only[if_neg hl,Prod.mk.injEq,true_and]
    exact⟨by omega,trivial⟩
theorem acZ_ (s:List UInt8) (a:Nat) (e most:Int) (hs:1≤s.length):zL_ s (a+1) e most=((zL_ (s.drop 1) a e most).1,(zL_ (s.drop 1) a e most).2.1+1,(zL_ (s.drop 1) a e most).2.2):=by
 unfold zL_
 simp only[afO_]
 rw[agz_ _ _ _ _ hs]
 simp only
 split<;>rfl
theorem aaP_ (c:UInt8) (r:List UInt8):frR (c::r)=([c],1,0):=by
 unfold frR jw_
 rw[if_neg (by simp),if_neg (by decide),if_neg (by simp only[List.length_cons];omega)]
 rfl
theorem Xx_ (c:UInt8) (r:List UInt8):frT (c::r)=((lfT r).1,(lfT r).2.1+1,(lfT r).2.2):=by
 unfold frT
 rw[aaP_]
 exact acZ_ (c::r) 0 0 4096 (by simp)
theorem adE_ (c:UInt8) (r:List UInt8) (a:Nat) (e:Int):xA_ (c::r) (a+1) e=xA_ r a e:=by
 unfold xA_
 rw[List.length_cons]
 have: ((((a+1:Nat):Int)< ((r.length+1:Nat):Int))=((a:Int)< (r.length:Int))):=by rw[eq_iff_iff];omega
 simp only[this]
theorem anP_ (c:UInt8) (r:List UInt8): (fkC c=0∧ ¬ (1≤frK (c::r)∧frK (c::r)≤3))∨(fkC c≠0∧frK (c::r)=fkC c∧wW_ (fkC c)= [c]):=by
 have e:frK (c::r)=Lib.indexByte letL c:=by unfold frK;rw[aaP_];rfl
 rw[e]
 by_cases h1:c=98
 ·subst h1;exact .inr ⟨by decide,rfl,rfl⟩
 by_cases h2:c=116
 ·subst h2;exact .inr ⟨by decide,rfl,rfl⟩
 by_cases h3:c=99
 ·subst h3;exact .inr ⟨by decide,rfl,rfl⟩
 refine .inl ⟨by unfold fkC;rw[if_neg h1,if_neg h2,if_neg h3], ?_⟩
 have b1: ((98:UInt8)==c)=false:=beq_eq_false_iff_ne.2 (Ne.symm h1)
 have b2: ((116:UInt8)==c)=false:=beq_eq_false_iff_ne.2 (Ne.symm h2)
 have b3: ((99:UInt8)==c)=false:=beq_eq_false_iff_ne.2 (Ne.symm h3)
 simp only[Lib.indexByte,b1,b2,b3,Bool.false_eq_true, ↓reduceIte]
 split<;>simp
theorem alw_ {k:Int} {t:List UInt8} (h: ¬ (1≤k∧k≤3)):xH_ k t=false:=by
 unfold xH_;rw[if_neg (fun h'=>h ⟨h'.1,h'.2.1⟩)]
theorem aqf_ (s:List UInt8):Jd_ s=lfOk s∧(Jd_ s=true→frK s=lfK s∧(frT s).1=(lfT (s.drop 1)).1):=by
 cases s with
 |nil=>
  have h:Jd_ []=false:=by
   unfold Jd_
   rw[alw_ (k:=frK []) (by decide),Bool.and_false]
  exact⟨by rw[h];rfl,fun h'=>by rw[h] at h';cases h'⟩
 |cons c r=>
  have e1:Jd_ (c::r)=(xA_ r (lfT r).2.1 (lfT r).2.2==0&&xH_ (frK (c::r)) (lfT r).1):=by
   unfold Jd_;rw[Xx_,adE_]
  have e2:lfOk (c::r)=(fkC c !=0&&xA_ r (lfT r).2.1 (lfT r).2.2==0&&x8_ (fkC c) (lfT r).1):=rfl
  rcases anP_ c r with⟨h1,h2⟩ | ⟨h1,h2,-⟩
  ·rw[e1,e2,alw_ h2,h1,Bool.and_false]
   exact⟨rfl,fun h=>by cases h⟩
  ·have h3: (fkC c !=0)=true:=by simpa using h1
   rw[e1,e2,h2,h3,Ze_,Bool.true_and]
   refine⟨rfl,fun _=>⟨rfl, ?_⟩⟩
   rw[Xx_];rfl
set_option linter.defProp false
end Go.Proofs
end
section
open Go Go.Proofs Go.Sx Go.StP Go.Flo
namespace Go.Proofs
set_option maxRecDepth 10000
set_option maxHeartbeats 1000000
set_option linter.unusedSimpArgs false
theorem XC_ (s:List UInt8):wu_ s=⟨if lfOk s then lfK s else 0,if lfOk s then(lfT (s.drop 1)).1 else []⟩:=by
 unfold wu_
 have h:=aqf_ s
 rw[←h.1]
 cases hf:Jd_ s
 ·rfl
 ·rw[(h.2 hf).1,(h.2 hf).2]
theorem aat_ {k:Int} {t:List UInt8} (h:xH_ k t=true):t.length≤4096:=by
 unfold xH_ at h
 split at h
 ·rename_i h1;exact h1.2.2
 ·cases h
set_option linter.defProp false
end Go.Proofs
end
section
open Go Go.Proofs Go.Sx Go.StP Go.Flo
namespace Go.Proofs
set_option maxRecDepth 10000
set_option maxHeartbeats 400000
set_option linter.unusedSimpArgs false
theorem Jr_ (l:List PartL): ∀k,(vi_ l k).length≤k
 |0=>Nat.le_refl _
 |k+1=>by
  have:=Jr_ l k
  unfold vi_
  split
  ·split
   ·simp;omega
   ·omega
  ·omega
set_option linter.defProp false
end Go.Proofs
end
section
open Go Go.Proofs Go.Sx Go.StP Go.Flo
namespace Go.Proofs
set_option maxRecDepth 10000
set_option maxHeartbeats 400000
set_option linter.unusedSimpArgs false
end Go.Proofs
end
section
open Go Go.Proofs Go.Sx Go.StP Go.Flo
namespace Go.Proofs
set_option maxRecDepth 10000
set_option maxHeartbeats 400000
set_option linter.unusedSimpArgs false
set_option linter.defProp false
end Go.Proofs
end
section
open Go Go.Proofs Go.Sx Go.StP Go.Flo
namespace Go.Proofs
set_option maxRecDepth 10000
set_option maxHeartbeats 400000
set_option linter.unusedSimpArgs false
theorem atB_ (k k':Int) (t t':List UInt8):qI_ Tryz.prog .eql 82 (obV k t) (obV k' t')=some (.bool (decide ((⟨k,t⟩:ObL)=⟨k',t'⟩))):=aum_ ⟨k,t⟩ ⟨k',t'⟩
set_option linter.defProp false
end Go.Proofs
end
section
open Go Go.Proofs Go.Sx Go.StP Go.Flo
namespace Go.Proofs
set_option maxRecDepth 10000
set_option maxHeartbeats 400000
set_option linter.unusedSimpArgs false
set_option linter.defProp false
end Go.Proofs
end
namespace Go.Sx
def kB (c:Bool):BitVec 32:=bif c then 3988292384#32 else 0#32
def stB (x:BitVec 32):BitVec 32:=(x>>>1)^^^kB (x.getLsbD 0)
theorem asC_ (c:Bool) (j:Nat) (h:j<5): (kB c).getLsbD j=false:=by
 have:j=0∨j=1∨j=2∨j=3∨j=4:=by omega
 rcases this with rfl|rfl|rfl|rfl|rfl<;>cases c<;>decide
theorem JT_ (x:BitVec 32) (j:Nat) (h:j<5): (stB x).getLsbD j=x.getLsbD (j+1):=by
 unfold stB
 rw[BitVec.getLsbD_xor,asC_ _ _ h,BitVec.getLsbD_ushiftRight,Bool.xor_false,Nat.add_comm]
theorem stB4 (x:BitVec 32):stB (stB (stB (stB x)))=(x>>>4)^^^ (kB (x.getLsbD 0)>>>3^^^kB (x.getLsbD 1)>>>2^^^kB (x.getLsbD 2)>>>1^^^kB (x.getLsbD 3)):=by
 have h1: (stB x).getLsbD 0=x.getLsbD 1:=JT_ x 0 (by omega)
 have h2: (stB (stB x)).getLsbD 0=x.getLsbD 2:=by rw[JT_ _ 0 (by omega),JT_ _ 1 (by omega)]
 have h3: (stB (stB (stB x))).getLsbD 0=x.getLsbD 3:=by rw[JT_ _ 0 (by omega),JT_ _ 1 (by omega),JT_ _ 2 (by omega)]
 have e4:stB (stB (stB (stB x)))=(stB (stB (stB x))>>>1)^^^kB (x.getLsbD 3):=by rw[←h3];rfl
 have e3:stB (stB (stB x))=(stB (stB x)>>>1)^^^kB (x.getLsbD 2):=by rw[←h2];rfl
 have e2:stB (stB x)=(stB x>>>1)^^^kB (x.getLsbD 1):=by rw[←h1];rfl
 have e1:stB x=(x>>>1)^^^kB (x.getLsbD 0):=rfl
 rw[e4,e3,e2,e1]
 simp only[BitVec.ushiftRight_xor_distrib,←BitVec.shiftRight_add,BitVec.xor_assoc]
def hvB:List (BitVec 32):= [0x00000000,0x1db71064,0x3b6e20c8,0x26d930ac,0x76dc4190,0x6b6b51f4,0x4db26158,0x5005713c,0xedb88320,0xf00f9344,0xd6d6a3e8,0xcb61b38c,0x9b64c2b0,0x86d3d2d4,0xa00ae278,0xbdbdf21c]
theorem tabB: ∀a b c d:Bool,(kB a>>>3^^^kB b>>>2^^^kB c>>>1^^^kB d)=hvB.getD (a.toNat+2*b.toNat+4*c.toNat+8*d.toNat) 0:=by decide
theorem lowB (x:BitVec 32):x.toNat%16=(x.getLsbD 0).toNat+2* (x.getLsbD 1).toNat+4* (x.getLsbD 2).toNat+8* (x.getLsbD 3).toNat:=by
 have e: ∀i,(x.getLsbD i).toNat=x.toNat / 2^i%2:=by
  intro i
  rw[BitVec.getLsbD,Nat.testBit_eq_decide_div_mod_eq]
  have:=Nat.mod_lt (x.toNat / 2^i) (show 0<2 by omega)
  by_cases h:x.toNat / 2^i%2=1
  ·simp[h]
  ·have h0:x.toNat / 2^i%2=0:=by omega
   simp[h0]
 rw[e 0,e 1,e 2,e 3]
 omega
theorem aub_ (x:BitVec 32):stB (stB (stB (stB x)))=(x>>>4)^^^hvB.getD (x.toNat%16) 0:=by
 rw[stB4,tabB,lowB]
end Go.Sx
section
open Go Go.Proofs Go.Sx
namespace Go.Proofs
set_option maxRecDepth 10000
set_option maxHeartbeats 4000000
set_option linter.unusedSimpArgs false
def wM_ (n:UInt32):UInt32:=if n%2==1 then n / 2^^^3988292384 else n / 2
theorem aaG_ (n:UInt32): (wM_ n).toBitVec=stB n.toBitVec:=by
 have hd: (n / 2).toBitVec=n.toBitVec>>>1:=by
  apply BitVec.eq_of_toNat_eq
  rw[UInt32.toBitVec_div,BitVec.toNat_udiv,BitVec.toNat_ushiftRight]
  rfl
 have hm: (n%2==1)=n.toBitVec.getLsbD 0:=by
  rw[BitVec.getLsbD,Nat.testBit_eq_decide_div_mod_eq,Nat.pow_zero,Nat.div_one,Bool.eq_iff_iff,beq_iff_eq,decide_eq_true_eq,←UInt32.toNat_inj,UInt32.toNat_mod]
  rfl
 unfold wM_ stB
 rw[hm]
 cases n.toBitVec.getLsbD 0
 ·rw[if_neg (by decide),hd];simp[kB]
 ·rw[if_pos rfl,UInt32.toBitVec_xor,hd];rfl
theorem acl_ (n:UInt32):abZ_ n=wM_ (wM_ (wM_ (wM_ n))):=by
 apply UInt32.toBitVec_inj.1
 rw[aaG_,aaG_,aaG_,aaG_,aub_]
 unfold abZ_
 rw[UInt32.toBitVec_xor]
 congr 1
 ·apply BitVec.eq_of_toNat_eq
  unfold zS_
  rw[BitVec.toNat_ushiftRight,Nat.shiftRight_eq_div_pow]
  have:=n.toNat_lt
  simp only[UInt32.toNat_toBitVec,UInt32.toNat_ofNat']
  omega
 ·have e: (n&&&15).toNat=n.toBitVec.toNat%16:=by
   rw[UInt32.toNat_and,show(15:UInt32).toNat=2^4 - 1 from rfl,Nat.and_two_pow_sub_one_eq_mod]
   rfl
  rw[e]
  have hlt:n.toBitVec.toNat%16<16:=Nat.mod_lt _ (by omega)
  generalize n.toBitVec.toNat%16=m at hlt
  have: ∀m,m<16→(hvL.getD m 0).toBitVec=hvB.getD m 0:=by decide
  exact this m hlt
def aoW_ (n:UInt32):Nat→UInt32
 |0=>n
 |k+1=>wM_ (aoW_ n k)
theorem ajc_ (n:UInt32):aoW_ n 8=aiP_ n 2:=by
 show wM_ (wM_ (wM_ (wM_ (wM_ (wM_ (wM_ (wM_ n)))))))=abZ_ (abZ_ n)
 rw[acl_,acl_]
set_option linter.defProp false
def ql_:=And.intro (And.intro (@zp_) (@wd_)) (And.intro (@v4_) (And.intro (@vP_) (@zo_)))
theorem amb_ (n:UInt32) (w:World):Rets Tryz.prog 213 #[v32 n] w (fun v D=>v=v32 (wM_ n)∧D= []):=by
 have hrem:zr_ .rem (v32 n) (v32 2)=some (v32 (n%2)):=kt_ _ _ (by decide)
 have hquo:zr_ .quo (v32 n) (v32 2)=some (v32 (n / 2)):=kG_ _ _ (by decide)
 refine Rets.enterV Tryz.func213 rfl (rs:= [.tmp 2]) Tryz.results213 Tryz.ntmps213 ?_
 refine kf ?_
 unfold wM_
 first|with_reducible refine ks [] (And.intro @ql_ (And.intro @hrem (@hquo))) ?_|refine kp (And.intro @ql_ (And.intro @hrem (@hquo))) ?_
 cases h: (n%2==1)
 ·first|with_reducible refine ks [] (And.intro @ql_ @hquo) ?_|refine kp (And.intro @ql_ @hquo) ?_
  refine⟨_,(ke @ql_),trivial, ?_⟩
  rfl
 ·first|with_reducible refine ks [] (And.intro @ql_ @hquo) ?_|refine kp (And.intro @ql_ @hquo) ?_
  refine⟨_,(ke @ql_),trivial, ?_⟩
  rfl
theorem amJ_ (n:UInt32) (b:UInt8) (w:World):Rets Tryz.prog 188 #[v32 n,v8 b] w (fun v D=>v=v32 (ail_ n b)∧D= []):=by
 refine Rets.enterV Tryz.func188 rfl (rs:= [.tmp 4]) Tryz.results188 Tryz.ntmps188 ?_
 refine kf ?_
 first|with_reducible refine ks [] @ql_ ?_|refine kp @ql_ ?_
 unfold ail_
 generalize n^^^UInt32.ofNat b.toNat=m
 rw[←ajc_,show v32 m=v32 (aoW_ m 0) from rfl]
 refine Cw.loopG (G:=Nat) [10,11,14,15,0,12,13,5] (fun g=> [(0,v32 (aoW_ m g)),(5,vi g)]) (fun g=> []) (fun g=>g≤8) (fun g=>8 - g) 0 rfl rfl ?_ ?_
 ·omega
 intro g j hg
 refine kv ?_
 by_cases hlt:g<8
 ·first|with_reducible refine ks [] @ql_ ?_|refine kp @ql_ ?_
  refine Ow.callFV rfl Tryz.call213 (fun w' hw'=>amb_ _ w') ?_
  refine ko @ql_ ?_
  first|with_reducible refine ks [] @ql_ ?_|refine kp @ql_ ?_
  refine Again.mk (g+1) (by omega) (by omega) rfl rfl
 ·obtain rfl:g=8:=by omega
  first|with_reducible refine ks [] @ql_ ?_|refine kp @ql_ ?_
  refine⟨_,(ke @ql_),trivial, ?_⟩
  rfl
theorem are_ (n:UInt32):4294967295 - n= ~~~ n:=by
 apply UInt32.toBitVec_inj.1
 rw[UInt32.toBitVec_sub,UInt32.toBitVec_not,←BitVec.allOnes_sub_eq_not]
 rfl
theorem afz_ (s:List UInt8) (w:World) (hs:s.length<1099511627776):Rets Tryz.prog 155 #[vs s] w (fun v D=>v=v32 (crcV s)∧D= []):=by
 refine Rets.enterV Tryz.func155 rfl (rs:= [.tmp 2]) Tryz.results155 Tryz.ntmps155 ?_
 refine kf ?_
 first|with_reducible refine ks [] @ql_ ?_|refine kp @ql_ ?_
 rw[show v32 4294967295=v32 (abA_ (~~~ (0:UInt32)) (s.take 0)) from rfl]
 refine Cw.loopG (G:=Nat) [5,6,7,8,11,12,13,14,15,3,9,10,4] (fun g=> [(3,v32 (abA_ (~~~ (0:UInt32)) (s.take g))),(4,vi g)]) (fun g=> []) (fun g=>g≤s.length) (fun g=>s.length - g) 0 rfl rfl ?_ ?_
 ·omega
 intro g j hg
 refine kv ?_
 by_cases hlt:g<s.length
 ·first|with_reducible refine ks [] @ql_ ?_|refine kp @ql_ ?_
  refine Ow.callFV rfl Tryz.call188 (fun w' hw'=>amJ_ _ _ w') ?_
  refine ko @ql_ ?_
  first|with_reducible refine ks [] @ql_ ?_|refine kp @ql_ ?_
  refine Again.mk (g+1) (by omega) (by omega) rfl ?_
  rw[W1_ _ _ _ hlt]
  rfl
 ·obtain rfl:g=s.length:=by omega
  first|with_reducible refine ks [] @ql_ ?_|refine kp @ql_ ?_
  rw[List.take_length]
  rw[are_]
  refine⟨_,(ke @ql_),trivial, ?_⟩
  rfl
theorem aqD_ (n:UInt32):sum4 n= [UInt8.ofNat (n%256).toNat,UInt8.ofNat (n / 256%256).toNat,UInt8.ofNat (n / 65536%256).toNat,UInt8.ofNat (n / 16777216).toNat]:=by
 show [UInt8.ofNat (zS_ n 0).toNat,UInt8.ofNat (zS_ n 8).toNat,UInt8.ofNat (zS_ n 16).toNat,UInt8.ofNat (zS_ n 24).toNat]=_
 have hn:=n.toNat_lt
 congr 1
 ·apply UInt8.toNat_inj.1
  simp[zS_]
 ·congr 1
  ·apply UInt8.toNat_inj.1
   simp[zS_]
  ·congr 1
   ·apply UInt8.toNat_inj.1
    simp[zS_]
   ·congr 1
    apply UInt8.toNat_inj.1
    simp[zS_]
theorem abU_ (s:List UInt8) (w:World) (hs:s.length<1099511627776):
  Rets Tryz.prog 112 #[vs s] w (fun v D=>v=vs (Qr_ s)∧D= []):=by
 refine Rets.enterV Tryz.func112 rfl (rs:= [.tmp 2]) Tryz.results112 Tryz.ntmps112 ?_
 refine kf ?_
 first|with_reducible refine ks [] @ql_ ?_|refine kp @ql_ ?_
 refine Ow.callFV rfl Tryz.call155 (fun w' hw'=>afz_ s w' hs) ?_
 refine ko @ql_ ?_
 unfold Qr_
 rw[aqD_]
 generalize crcV s=n
 have h1:zr_ .rem (v32 n) (v32 256)=some (v32 (n%256)):=kt_ _ _ (by decide)
 have h2:zr_ .quo (v32 n) (v32 256)=some (v32 (n / 256)):=kG_ _ _ (by decide)
 have h3:zr_ .rem (v32 (n / 256)) (v32 256)=some (v32 (n / 256%256)):=kt_ _ _ (by decide)
 have h4:zr_ .quo (v32 n) (v32 65536)=some (v32 (n / 65536)):=kG_ _ _ (by decide)
 have h5:zr_ .rem (v32 (n / 65536)) (v32 256)=some (v32 (n / 65536%256)):=kt_ _ _ (by decide)
 have h6:zr_ .quo (v32 n) (v32 16777216)=some (v32 (n / 16777216)):=kG_ _ _ (by decide)
 first|with_reducible refine ks [] (And.intro @ql_ (And.intro @h1 (And.intro @h2 (And.intro @h3 (And.intro @h4 (And.intro @h5 (@h6))))))) ?_|refine kp (And.intro @ql_ (And.intro @h1 (And.intro @h2 (And.intro @h3 (And.intro @h4 (And.intro @h5 (@h6))))))) ?_
 generalize UInt8.ofNat (n%256).toNat=q0
 generalize UInt8.ofNat (n / 256%256).toNat=q1
 generalize UInt8.ofNat (n / 65536%256).toNat=q2
 generalize UInt8.ofNat (n / 16777216).toNat=q3
 refine Ow.buildSlice (e:=5) #[v8 q0,v8 q1,v8 q2,v8 q3] rfl rfl (by kernel_rfl) fun b1 hb1 hw1=> ?_
 rw[show(#[v8 q0,v8 q1,v8 q2,v8 q3]:Array Value)=a8 [q0,q1,q2,q3] from rfl]
 have hl4: [q0,q1,q2,q3].length=4:=rfl
 have e4:List.take 4 (List.drop 0 [q0,q1,q2,q3])= [q0,q1,q2,q3]:=rfl
 generalize [q0,q1,q2,q3]=q at*
 refine ko (And.intro @ql_ @e4) ?_
 first|with_reducible refine ks [] @ql_ ?_|refine kp @ql_ ?_
 refine⟨_,(ke @ql_),⟨hw1,trivial⟩, ?_⟩
 rfl
theorem Vt_ (s:List UInt8) (w:World) (hs:s.length<1099511627776):
  Rets Tryz.prog 105 #[vs s] w (fun v D=>v= .tuple #[vs (z1_ s).1, .bool (z1_ s).2]∧D= []):=by
 refine Rets.enterV Tryz.func105 rfl (rs:= [.tmp 2, .tmp 3]) Tryz.results105 Tryz.ntmps105 ?_
 refine kf ?_
 first|with_reducible refine ks [] @ql_ ?_|refine kp @ql_ ?_
 unfold z1_
 by_cases h4:s.length<4
 ·have e1:decide ((s.length:Int)<4)=true:=decide_eq_true (by omega)
  rw[if_pos h4]
  first|with_reducible refine ks [] (And.intro @ql_ @e1) ?_|refine kp (And.intro @ql_ @e1) ?_
  refine⟨_,(ke @ql_),trivial, ?_⟩
  rfl
 ·have e1:decide ((s.length:Int)<4)=false:=decide_eq_false (by omega)
  have e2: ((s.length:Int) - 4).toNat=s.length - 4:=by omega
  rw[if_neg h4]
  first|with_reducible refine ks [] (And.intro @ql_ (And.intro @e1 (@e2))) ?_|refine kp (And.intro @ql_ (And.intro @e1 (@e2))) ?_
  refine Ow.callFV rfl Tryz.call112 (fun w' hw'=>abU_ (s.take (s.length - 4)) w' (by rw[List.length_take];omega)) ?_
  refine ko @ql_ ?_
  cases hq: (Qr_ (s.take (s.length - 4)) !=s)
  ·rw[if_pos (by simpa using hq)]
   first|with_reducible refine ks [] (And.intro @ql_ (And.intro @hq (@e2))) ?_|refine kp (And.intro @ql_ (And.intro @hq (@e2))) ?_
   refine⟨_,(ke @ql_),trivial, ?_⟩
   rfl
  ·rw[if_neg (by simpa using hq)]
   first|with_reducible refine ks [] (And.intro @ql_ @hq) ?_|refine kp (And.intro @ql_ @hq) ?_
   refine⟨_,(ke @ql_),trivial, ?_⟩
   rfl
end Go.Proofs
end
section
open Go Go.Proofs Go.Sx Go.StP Go.Flo
namespace Go.Proofs
set_option maxRecDepth 10000
set_option maxHeartbeats 1000000
set_option linter.unusedSimpArgs false
set_option linter.defProp false
end Go.Proofs
end
section
open Go Go.Proofs Go.Sx Go.StP Go.Flo
namespace Go.Proofs
set_option maxRecDepth 10000
set_option maxHeartbeats 1000000
set_option linter.unusedSimpArgs false
theorem Vm_ {s:List UInt8} (h:s.length<4∨s.take 4≠magB):kN_ s=(0,false,(jw_ s 0 0 4).2):=by
 unfold kN_
 rw[if_neg]
 unfold jw_
 rw[if_neg (by decide),if_neg (by decide)]
 split
 ·decide
 ·rename_i h1
  rcases h with h|h
  ·omega
  ·exact h
theorem amZ_ {s:List UInt8} (h4:4≤s.length) (h:s.take 4=magB):kN_ s=((zD_ s 4 0 200).1,(zD_ s 4 0 200).2.2==0,(zD_ s 4 0 200).2):=by
 have e:jw_ s 0 0 4=(s.take 4,4,0):=by
  unfold jw_
  rw[if_neg (by decide),if_neg (by decide),if_neg (by omega)]
  rfl
 unfold kN_
 rw[e]
 simp only
 rw[if_pos h]
def KY_ (s:List UInt8) (v:Value) (D:zb_):Prop:=
 if(kN_ s).2.1=true then∃x y n A,v= .tuple #[x,y,vi n,vi A, .bool true]∧n=(kN_ s).1∧0≤n∧n≤200∧GrI D 279 3 x (vD_ s).1.length ((vD_ s).1.map qH_).flatten∧GrI D 3 1 y (vD_ s).2.1.length ((vD_ s).2.1.map natC).flatten∧
  (((vD_ s).2.2.2=0∧A=(vD_ s).2.2.1∧((vD_ s).1.length:Int)=n)∨((vD_ s).2.2.2≠0∧((vD_ s).1.length:Int)<n))
 else v= .tuple #[.slice none 0 0, .slice none 0 0,vi 0,vi 0, .bool false]
structure RdDG where
 l:List PartL
 sp:List Nat
 a:Nat
 v1:Value
 v2:Value
 D1:zb_
 D2:zb_
 DG:zb_
theorem akW_ (s:List UInt8):q5_ (vc_ Tryz.prog 217) (zM_ Tryz.prog 217) [(0,vs s),(1,vi 4)]=some (.agg #[vs s,vi 4,vi 0]):=by
 rw[show vc_ Tryz.prog 217=some [(0,1),(1,1),(2,1)] from id (by kernel_rfl),zrRR];rfl
theorem abb_ (b:Nat) (s:List UInt8) (a:Nat) (e most:Int) (w:World) (ha:a≤s.length) (hs:s.length<1099511627776) (ho:w.heap[b]? =some (rrO s a e)):
  Rets Tryz.prog 144 #[vp b 0,vi most] w (fun v D=> ∃o,D= [(b,o)]∧v=vs (zL_ s a e most).1∧o=rrO s (zL_ s a e most).2.1 (zL_ s a e most).2.2):=kZ_ b s a e most w ha hs ho
set_option linter.defProp false
def qm_:=And.intro (And.intro (@zp_) (And.intro (@zo_) (@ahv_))) (And.intro (And.intro (@aic_) (@ag4_)) (And.intro (@w9_) (@ai2_)))
theorem abR_ (s:List UInt8) (w:World) (hs:s.length<1099511627776):Rets Tryz.prog 189 #[vs s] w (XS w [] (KY_ s)):=by
 refine Rets.enterX Tryz.func189 rfl (rs:= [.tmp 2, .tmp 3, .tmp 4, .tmp 5, .tmp 6]) Tryz.results189 Tryz.ntmps189 (fun p hp=>by cases hp) (by simp[keys]) ?_
 refine kf ?_
 by_cases h4:s.length<4
 ·have d1:decide ((s.length:Int)<4)=true:=decide_eq_true (by omega)
  first|with_reducible refine ks [] (And.intro @qm_ @d1) ?_|refine kp (And.intro @qm_ @d1) ?_
  refine⟨_,(ke @qm_), ?_⟩
  refine⟨Ext.of_new trivial, ?_⟩
  unfold KY_
  rw[Vm_ (.inl h4)]
  rfl
 have d1:decide ((s.length:Int)<4)=false:=decide_eq_false (by omega)
 have d1':decide ((0:Int)≤4∧(4:Int)≤ (s.length:Int))=true:=decide_eq_true (by omega)
 by_cases hm:s.take 4=magB
 ·have d2: (s.take 4 != [83,80,75,49])=false:=bne_eq_false_iff_eq.2 hm
  have hhd:=amZ_ (by omega) hm
  first|with_reducible refine ks [] (And.intro @qm_ (And.intro @d1 (@d2))) ?_|refine kp (And.intro @qm_ (And.intro @d1 (@d2))) ?_
  refine Ow.build (.agg #[vs s,vi 4,vi 0]) rfl (akW_ s) ?_
  refine ko @qm_ ?_
  refine Ow.box rfl rfl fun br hbr hwr=> ?_
  simp only[zY_,zV_,zX_,za_,List.nil_append]
  refine Ow.permL (M:= [(br,rrO s 4 0)]) (List.Perm.refl _) ?_
  refine ko @qm_ ?_
  first|with_reducible refine ks [] @qm_ ?_|refine kp @qm_ ?_
  have l1:=qO_ (s:=s) (a:=4) (e:=0) (most:=200) (by omega)
  have m1:=jj_ (s:=s) (a:=4) (e:=0) (most:=200) (by omega)
  refine Ow.callM rfl rfl Tryz.call146 (by simp[keys]) (fun w' hw'=>q1_ br s 4 0 200 w' (by omega) (by omega) (hw'.has _ _ List.mem_cons_self)) ?_
  have hrp:vD_ s=jR_ s (kN_ s).1.toNat 0 (kN_ s).2.2.1 (kN_ s).2.2.2:=rfl
  rw[hhd] at hrp
  generalize zD_ s 4 0 200=q at*
  obtain⟨n0,a0,e0⟩:=q
  simp only at l1 m1 hhd hrp ⊢
  obtain⟨n,rfl⟩: ∃n:Nat,n0=(n:Int):=⟨n0.toNat,by omega⟩
  rw[Int.toNat_natCast] at hrp
  refine kn ?_
  refine ko @qm_ ?_
  by_cases he:e0=0
  ·subst he
   have hd0: ((0:Int) !=0)=false:=rfl
   have hE: (kN_ s).2.1=true:=by rw[hhd];rfl
   have hn1: (kN_ s).1=(n:Int):=by rw[hhd]
   clear hhd
   first|with_reducible refine ks [11] (And.intro @qm_ @hd0) ?_|refine kp (And.intro @qm_ @hd0) ?_
   refine Cw.permL (M:=(br,rrO s a0 0):: ([]++ ([]++ []))) (List.Perm.refl _) ?_
   refine Cw.loopG (G:=RdDG) [34,35,36,39,40,41,42,12,43,44,13,45,46,14,47,48,49,50,51,52,53,54,55,2,3,4,5,6,56,57,15,58,59,60,61,62,63,64,65,66,67,68,9,69,70,71,72,10,37,38,11] (fun g=> [(9,g.v1),(10,g.v2),(11,vi g.l.length)]) (fun g=>(br,rrO s g.a 0):: (g.D1++ (g.D2++g.DG))) (fun g=>g.l.length≤n∧g.sp.length=g.l.length∧g.a≤s.length∧New w.heap.size g.D1∧New w.heap.size g.D2∧New w.heap.size g.DG∧Gr g.D1 279 3 g.v1 g.l.length (g.l.map qH_).flatten∧Gr g.D2 3 1 g.v2 g.sp.length (g.sp.map natC).flatten∧vD_ s=(g.l++ (jR_ s (n - g.l.length) g.l.length g.a 0).1,g.sp++ (jR_ s (n - g.l.length) g.l.length g.a 0).2.1,(jR_ s (n - g.l.length) g.l.length g.a 0).2.2)) (fun g=>n - g.l.length) ⟨[],[],a0, .slice none 0 0, .slice none 0 0,[],[],[]⟩ rfl rfl ?_ ?_
   ·exact⟨Nat.zero_le _,rfl,l1.2,trivial,trivial,trivial,Gr.nl,Gr.nl,by rw[hrp];rfl⟩
   intro g j hg
   refine kv ?_
   obtain⟨l,sp,a,v1,v2,D1,D2,DG⟩:=g
   simp only at hg ⊢
   obtain⟨hln,hsl,hal,hN1,hN2,hNG,hG1,hG2,hpr⟩:=hg
   have hNr:New w.heap.size (D1++ (D2++DG)):=hN1.app (hN2.app hNG)
   by_cases hlt:l.length<n
   ·have d3:decide ((l.length:Int)< (n:Int))=true:=decide_eq_true (by omega)
    have hk:n - l.length=(n - (l.length+1))+1:=by omega
    rw[hk] at hpr
    have hle1:=qO_ (s:=s) (a:=a) (e:=0) (most:=200) hal
    have hm1:=jj_ (s:=s) (a:=a) (e:=0) (most:=200) (by omega)
    have hpc:Xc_ s l.length a 0=(⟨decide (0< (zD_ s a 0 200).1),if 0< (zD_ s a 0 200).1 then((l.length:Nat):Int) - (zD_ s a 0 200).1 else 0,(zL_ s (zD_ s a 0 200).2.1 (zD_ s a 0 200).2.2 65536).1⟩,(zL_ s (zD_ s a 0 200).2.1 (zD_ s a 0 200).2.2 65536).2):=rfl
    first|with_reducible refine ks [1000018] (And.intro @qm_ @d3) ?_|refine kp (And.intro @qm_ @d3) ?_
    refine Ow.callM rfl rfl Tryz.call146 (by simp[keys]) (fun w' hw'=>q1_ br s a 0 200 w' hal (by omega) (hw'.has _ _ List.mem_cons_self)) ?_
    generalize zD_ s a 0 200=x at*
    obtain⟨F,a1,e1⟩:=x
    simp only at hle1 hm1 hpc ⊢
    have hle2:=kh_ (s:=s) (a:=a1) (e:=e1) (most:=65536) hle1.2
    refine kn ?_
    refine ko @qm_ ?_
    first|with_reducible refine ks [] @qm_ ?_|refine kp @qm_ ?_
    refine Ow.callM rfl rfl Tryz.call144 (by simp[keys]) (fun w' hw'=>abb_ br s a1 e1 65536 w' hle1.2 hs (hw'.has _ _ List.mem_cons_self)) ?_
    generalize zL_ s a1 e1 65536=x at*
    obtain⟨t,a2,e2⟩:=x
    simp only at hle2 hpc ⊢
    refine kn ?_
    refine ko @qm_ ?_
    rw[jR_,hpc] at hpr
    simp only at hpr
    by_cases he2:e2=0
    ·subst he2
     rw[if_pos rfl] at hpr
     have d4: ((0:Int) !=0)=false:=rfl
     first|with_reducible refine ks [] (And.intro @qm_ @d4) ?_|refine kp (And.intro @qm_ @d4) ?_
     refine Ow.build (.agg (qH_ ⟨false,0,t⟩).toArray) rfl (afR_ t) ?_
     refine ko @qm_ ?_
     refine Ow.alloc rfl rfl acF_ fun b15 hb15 hw15=> ?_
     simp only[za_,List.nil_append,List.cons_append]
     have hb15r:br<b15:=zi_ hb15 (by simp[keys])
     have hst:=Ws_ ⟨false,0,t⟩ xD_ 279
     refine Ow.permL (M:=(b15, .cells (qH_ xD_).toArray 279 (0,0)):: (br,rrO s a2 0):: (D1++ (D2++DG))) (by classical exact List.perm_iff_count.2 fun a=>by simp only[List.count_append,List.count_cons,List.count_nil]<;>omega) ?_
     refine ko (And.intro @qm_ @hst) ?_
     obtain⟨p,hp⟩: ∃p,p=(⟨decide (0<F),if 0<F then((l.length:Nat):Int) - F else 0,t⟩:PartL):=⟨_,rfl⟩
     rw[←hp] at hpr
     refine Cw.cutO (G:=PartL) [58,59,60,61,62,63,64] (fun g=> []) (fun g=>(b15, .cells (qH_ g).toArray 279 (0,0)):: (br,rrO s a2 0):: (D1++ (D2++DG))) (fun g=>g=p) ?_ ?_
     ·by_cases hF:0<F
      ·have d5:decide ((0:Int)<F)=true:=decide_eq_true hF
       have hs1:=agC_ ⟨false,0,t⟩ 279
       have hs2:=aeF_ ⟨true,0,t⟩ 279
       first|with_reducible refine ks [] (And.intro @qm_ (And.intro @d5 (And.intro @hs1 (@hs2)))) ?_|refine kp (And.intro @qm_ (And.intro @d5 (And.intro @hs1 (@hs2)))) ?_
       refine CutO.mk _ ?_ rfl rfl
       rw[hp,decide_eq_true hF,if_pos hF]
      ·have d5:decide ((0:Int)<F)=false:=decide_eq_false hF
       first|with_reducible refine ks [] (And.intro @qm_ @d5) ?_|refine kp (And.intro @qm_ @d5) ?_
       refine CutO.mk _ ?_ rfl rfl
       rw[hp,decide_eq_false hF,if_neg hF]
     ·intro g j hg
      refine kv ?_
      obtain rfl:=hg
      clear hp
      first|with_reducible refine ks [] @qm_ ?_|refine kp @qm_ ?_
      refine Ow.buildSlice (e:=279) (qH_ g).toArray rfl rfl (qA_ (cs:=qH_ g) Tryz.underlying260 Tryz.ag279 acF_ (by decide) rfl) fun ba hba hwa=> ?_
      refine ko @qm_ ?_
      refine Ow.permL (M:=D1++ ((b15, .cells (qH_ g).toArray 279 (0,0)):: (br,rrO s a2 0):: (D2++ (DG++ [(ba, .cells (qH_ g).toArray 279 (0,0))])))) (by classical exact List.perm_iff_count.2 fun a=>by simp only[List.count_append,List.count_cons,List.count_nil]<;>omega) ?_
      refine Ow.appendXG (e:=279) (k:=1) (new:=qH_ g) (X:=D1) v1 rfl rfl rfl rfl Tryz.underlying260 Tryz.ag279 (by kernel_rfl) acF_ (by rw[w9_];rfl) Tryz.underlying260 (by intro k h;cases h) hG1 (fun w' hw'=>AppX.one1 (hw'.has ba (.cells (qH_ g).toArray 279 (0,0)) (by simp)) (KM_ _) (acT_ _)) (by omega) (fun B4 v4 D4 hA4 hB4 hG4 hk41 hk42 hlk4=> ?_)
      have hN4:New w.heap.size D4:=New.of_le fun q hq=>by
       rcases hk42 q hq with h|h
       ·exact hN1.le q h
       ·omega
      refine Ow.permL (M:=(br,rrO s a2 0):: (D4++ (D2++ ((b15, .cells (qH_ g).toArray 279 (0,0)):: (DG++ [(ba, .cells (qH_ g).toArray 279 (0,0))]))))) (by classical exact List.perm_iff_count.2 fun a=>by simp only[List.count_append,List.count_cons,List.count_nil]<;>omega) ?_
      refine ko @qm_ ?_
      first|with_reducible refine ks [] @qm_ ?_|refine kp @qm_ ?_
      refine Ow.buildSlice (e:=3) #[vi a] rfl rfl (by kernel_rfl) fun bc hbc hwc=> ?_
      refine ko @qm_ ?_
      refine Ow.permL (M:=D2++ ((br,rrO s a2 0):: (D4++ ((b15, .cells (qH_ g).toArray 279 (0,0)):: (DG++ [(ba, .cells (qH_ g).toArray 279 (0,0)),(bc, .cells #[vi a] 3 (0,0))]))))) (by classical exact List.perm_iff_count.2 fun a=>by simp only[List.count_append,List.count_cons,List.count_nil]<;>omega) ?_
      refine Ow.appendXG (e:=3) (k:=1) (new:=natC a) (X:=D2) v2 rfl rfl rfl rfl Tryz.underlying196 (id (by kernel_rfl):z0_ Tryz.prog 3=some (false,1)) (by kernel_rfl) (id (by kernel_rfl):zM_ Tryz.prog 3=some (vi 0)) rfl Tryz.underlying196 (by intro k h;cases h) hG2 (fun w' hw'=>AppX.one1 (hw'.has bc (.cells #[vi a] 3 (0,0)) (by simp)) (aib_ a) rfl) (by omega) (fun B5 v5 D5 hA5 hB5 hG5 hk51 hk52 hlk5=> ?_)
      have hN5:New w.heap.size D5:=New.of_le fun q hq=>by
       rcases hk52 q hq with h|h
       ·exact hN2.le q h
       ·omega
      refine Ow.permL (M:=(br,rrO s a2 0):: (D4++ (D5++ ((b15, .cells (qH_ g).toArray 279 (0,0)):: (DG++ [(ba, .cells (qH_ g).toArray 279 (0,0)),(bc, .cells #[vi a] 3 (0,0))]))))) (by classical exact List.perm_iff_count.2 fun a=>by simp only[List.count_append,List.count_cons,List.count_nil]<;>omega) ?_
      refine ko @qm_ ?_
      first|with_reducible refine ks [] @qm_ ?_|refine kp @qm_ ?_
      have hl1: (l++ [g]).length=l.length+1:=by simp
      have hl2: (sp++ [a]).length=sp.length+1:=by simp
      refine Again.mk ⟨l++ [g],sp++ [a],a2,v4,v5,D4,D5,(b15, .cells (qH_ g).toArray 279 (0,0)):: (DG++ [(ba, .cells (qH_ g).toArray 279 (0,0)),(bc, .cells #[vi a] 3 (0,0))])⟩ (by show n - (l++ [g]).length<n - l.length;omega) ⟨by show(l++ [g]).length≤n;omega,by show(sp++ [a]).length=(l++ [g]).length;omega,hle2.2,hN4,hN5,⟨hw15,hNG.app ⟨hwa,hwc,trivial⟩⟩,by simpa using hG4,by simpa using hG5, ?_⟩ rfl (by simp only[hl1];rfl)
      show vD_ s=_
      rw[hpr,hl1]
      simp
    ·have d4: (e2 !=0)=true:=bne_iff_ne.2 he2
     rw[if_neg he2] at hpr
     first|with_reducible refine ks [] (And.intro @qm_ @d4) ?_|refine kp (And.intro @qm_ @d4) ?_
     refine⟨_,(ke @qm_), ?_⟩
     refine⟨Ext.of_new ⟨hwr,hNr⟩, ?_⟩
     unfold KY_
     rw[if_pos hE,hpr,hn1]
     simp only[List.append_nil]
     exact⟨v1,v2,_,_,rfl,rfl,by omega,by omega,Gr.i hG1 fun c hc=>by simp[hc],Gr.i hG2 fun c hc=>by simp[hc], .inr ⟨he2,by omega⟩⟩
   ·obtain hln':l.length=n:=by omega
    have d3:decide ((l.length:Int)< (n:Int))=false:=decide_eq_false (by omega)
    rw[hln',Nat.sub_self] at hpr
    first|with_reducible refine ks [] (And.intro @qm_ @d3) ?_|refine kp (And.intro @qm_ @d3) ?_
    refine Cw.regionS [br] [0,1,2,3,4,5,7,8,9,6,10,11] [] (by kernel_rfl) (by kernel_rfl) (by kernel_rfl) ?_
    simp only[zl_, ↓zg_, ↓zc_, ↓zx_, ↓zw_,zd_]
    refine kq @qm_ ?_
    first|with_reducible refine ks [] @qm_ ?_|refine kp @qm_ ?_
    refine⟨_,(ke @qm_), ?_⟩
    refine⟨Ext.of_new ⟨hwr,hNr⟩, ?_⟩
    unfold KY_
    rw[if_pos hE,hpr,hn1]
    simp only[jR_,List.append_nil]
    exact⟨v1,v2,_,_,rfl,rfl,by omega,by omega,Gr.i hG1 fun c hc=>by simp[hc],Gr.i hG2 fun c hc=>by simp[hc], .inl ⟨trivial,rfl,by omega⟩⟩
  ·have hd0: (e0 !=0)=true:=bne_iff_ne.2 he
   have hE: (kN_ s).2.1=false:=by rw[hhd];exact beq_eq_false_iff_ne.2 he
   first|with_reducible refine ks [] (And.intro @qm_ @hd0) ?_|refine kp (And.intro @qm_ @hd0) ?_
   refine⟨_,(ke @qm_), ?_⟩
   refine⟨Ext.of_new ⟨hwr,trivial⟩, ?_⟩
   unfold KY_
   rw[hE]
   rfl
 ·have d2: (s.take 4 != [83,80,75,49])=true:=bne_iff_ne.2 hm
  first|with_reducible refine ks [] (And.intro @qm_ (And.intro @d1 (@d2))) ?_|refine kp (And.intro @qm_ (And.intro @d1 (@d2))) ?_
  refine⟨_,(ke @qm_), ?_⟩
  refine⟨Ext.of_new trivial, ?_⟩
  unfold KY_
  rw[Vm_ (.inr hm)]
  rfl
end Go.Proofs
end
section
open Go Go.Proofs Go.Sx Go.StP Go.Flo
namespace Go.Proofs
set_option maxRecDepth 10000
set_option maxHeartbeats 1000000
set_option linter.unusedSimpArgs false
theorem BndD.ofSmall {l:List PartL} (h:apS_ l):BndD l:=fun g hg=>by have:=h g hg;omega
theorem ato_ (a b c d e:Value): #[a,b,c,d,e][0]? =some a:=rfl
theorem asF_ (a b c d e:Value): #[a,b,c,d,e][1]? =some b:=rfl
theorem asY_ (a b c d e:Value): #[a,b,c,d,e][2]? =some c:=rfl
theorem atj_ (a b c d e:Value): #[a,b,c,d,e][3]? =some d:=rfl
theorem asG_ (a b c d e:Value): #[a,b,c,d,e][4]? =some e:=rfl
set_option linter.defProp false
end Go.Proofs
end
section
open Go Go.Proofs Go.Sx Go.StP Go.Flo
namespace Go.Proofs
set_option maxRecDepth 10000
set_option maxHeartbeats 400000
set_option linter.unusedSimpArgs false
structure SaG where
 k:Nat
 out:List ObL
 v:Value
 D:zb_
 DG:zb_
theorem QB_ {o:ObL} {l:List ObL} {j:Nat} (h:j<l.length):decide (o∈l.take (j+1))=(decide (o∈l.take j) ||decide (l.getD j ob0=o)):=by
 rw[StP.take_snoc (z:=ob0) h]
 by_cases h1:o∈l.take j
 ·rw[decide_eq_true h1,decide_eq_true (List.mem_append_left _ h1)];rfl
 ·by_cases h2:l.getD j ob0=o
  ·rw[decide_eq_true h2,Bool.or_true]
   exact decide_eq_true (List.mem_append_right _ (by rw[h2];exact List.mem_singleton.2 rfl))
  ·rw[decide_eq_false h1,decide_eq_false h2]
   exact decide_eq_false fun h=>by
    rcases List.mem_append.1 h with h|h
    ·exact h1 h
    ·exact h2 (List.mem_singleton.1 h).symm
set_option linter.defProp false
def qs_:=And.intro (And.intro (And.intro (@zp_) (And.intro (@zo_) (@Sx.tup2_0))) (And.intro (And.intro (@Sx.tup2_1) (@ato_)) (And.intro (@asF_) (@asY_)))) (And.intro (And.intro (@atj_) (And.intro (@asG_) (@jo_))) (And.intro (And.intro (@qF_) (@qE_)) (And.intro (@qD_) (@atB_))))
theorem aiF_ (b:List UInt8) (w:World) (hb:b.length<1099511627776):
  Rets Tryz.prog 156 #[vs b] w (XS w [] (fun v D=>GrI D 82 2 v (aaQ_ b).length ((aaQ_ b).map obC).flatten)):=by
 have hrl:=(ads_ b).1
 have hrs:=afy_ b
 refine Rets.enterX Tryz.func156 rfl (rs:= [.tmp 2]) Tryz.results156 Tryz.ntmps156 (fun p hp=>by cases hp) (by simp[keys]) ?_
 refine kf ?_
 first|with_reducible refine ks [] @qs_ ?_|refine kp @qs_ ?_
 refine Ow.callC rfl rfl Tryz.call189 (fun w' hw'=>abR_ b w' hb) (fun B1 v1 D1 hA1 hB1 hN1 hS1=> ?_)
 have hN1':New w.heap.size D1:=hN1.mono hB1
 unfold KY_ at hS1
 unfold aaQ_
 rw[List.nil_append]
 cases hok: (kN_ b).2.1 with
 |false=>
  rw[hok,if_neg (by simp)] at hS1
  rw[if_neg (by simp)]
  subst hS1
  refine ko @qs_ ?_
  first|with_reducible refine ks [] @qs_ ?_|refine kp @qs_ ?_
  refine⟨_,(ke @qs_), ?_⟩
  exact⟨Ext.of_new hN1',Gr.i (X:= []) Gr.nl fun p hp=>by cases hp⟩
 |true=>
  rw[hok,if_pos rfl] at hS1
  rw[if_pos rfl]
  obtain⟨x,y,n,A,rfl,-,-,-,hg1,hg2,-⟩:=hS1
  generalize (vD_ b).1=l at*
  have ln:=we_ hg1
  refine ko @qs_ ?_
  first|with_reducible refine ks [] (And.intro @qs_ @ln) ?_|refine kp (And.intro @qs_ @ln) ?_
  refine Cw.permL (M:=D1++ ([]++ [])) (by simp) ?_
  refine Cw.loopG (G:=SaG) [26,27,28,29,33,34,35,32,36,37,10,11,38,39,41,42,40,43,44,12,13,14,15,45,46,47,48,51,52,53,54,55,56,57,58,59,49,50,60,61,62,63,64,65,66,67,68,8,30,31,9] (fun g=> [(8,g.v),(9,vi g.k)]) (fun g=>D1++ (g.D++g.DG)) (fun g=>g.k≤l.length∧g.out=vi_ l g.k∧New w.heap.size g.D∧New w.heap.size g.DG∧Gr g.D 82 2 g.v g.out.length (g.out.map obC).flatten) (fun g=>l.length - g.k) ⟨0,[], .slice none 0 0,[],[]⟩ rfl rfl ?_ ?_
  ·exact⟨Nat.zero_le _,rfl,trivial,trivial,Gr.nl⟩
  intro g j hg
  refine kv ?_
  obtain⟨k,out,v6,D6,DG⟩:=g
  simp only at hg ⊢
  obtain⟨hk,hout,hN6,hNG,hG6⟩:=hg
  have hol:=Jr_ l k
  rw[←hout] at hol
  have hNr:New w.heap.size (D1++ (D6++DG)):=hN1'.app (hN6.app hNG)
  by_cases hlt:k<l.length
  ·have d1:decide ((k:Int)< (l.length:Int))=true:=decide_eq_true (by omega)
   have hsv:vi_ l (k+1)=match partV l (k:Nat) with
    | .ok s=>if Jd_ s=true∧wu_ s∉vi_ l k then vi_ l k++ [wu_ s] else vi_ l k
    | .error _=>vi_ l k:=rfl
   first|with_reducible refine ks [7] (And.intro @qs_ (And.intro @d1 (@ln))) ?_|refine kp (And.intro @qs_ (And.intro @d1 (@ln))) ?_
   refine Ow.callFV rfl Tryz.call190 (fun w' hw'=>agM_ x l (k:Int) w' ((hg1.mono (fun q hq=>by simp[hq])).slV hw' rfl rfl KM_) (BndD.ofSmall hrs)) ?_
   rw[←hout] at hsv
   cases hp:partV l (k:Nat) with
   |error e2=>
    rw[hp] at hsv
    simp only at hsv
    have e0: (e2 !=0)=true:=bne_iff_ne.2 (anu_ hp)
    unfold aj1_
    refine ko @qs_ ?_
    first|with_reducible refine ks [] (And.intro @qs_ @e0) ?_|refine kp (And.intro @qs_ @e0) ?_
    first|with_reducible refine ks [] @qs_ ?_|refine kp @qs_ ?_
    exact Again.mk ⟨k+1,out,v6,D6,DG⟩ (by show l.length - (k+1)<l.length - k;omega) ⟨hlt,by exact hsv.symm,hN6,hNG,hG6⟩ rfl rfl
   |ok s=>
    rw[hp] at hsv
    simp only at hsv
    have hsl:=ake_ hp
    have e0: ((0:Int) !=0)=false:=rfl
    have hrd1: (if lfOk s then lfK s else 0)=(wu_ s).k:=by rw[XC_]
    have hrd2: (if lfOk s then(lfT (s.drop 1)).1 else [])=(wu_ s).t:=by rw[XC_]
    have hfl2:=(aqf_ s).1
    unfold aj1_
    refine ko @qs_ ?_
    first|with_reducible refine ks [] (And.intro @qs_ @e0) ?_|refine kp (And.intro @qs_ @e0) ?_
    refine Ow.callFV rfl Tryz.call106 (fun w' hw'=>WY_ s w' (by omega)) ?_
    rw[hrd1,hrd2,←hfl2]
    refine ko @qs_ ?_
    refine Ow.alloc rfl rfl ZN_ fun b12 hb12 hw12=> ?_
    simp only[za_,List.nil_append,List.cons_append]
    refine Ow.permL (M:=(b12, .cells #[vi 0,vs []] 82 (0,0)):: (D1++ (D6++DG))) (by classical exact List.perm_iff_count.2 fun a=>by simp only[List.count_append,List.count_cons,List.count_nil]<;>omega) ?_
    refine ko @qs_ ?_
    generalize hro:wu_ s=o at*
    obtain⟨ok,ot⟩:=o
    have hNr2:New w.heap.size ((b12,Obj.cells #[vi ok,vs ot] 82 (0,0)):: (D1++ (D6++DG))):=⟨hw12,hNr⟩
    refine Cw.world fun wz hwz=> ?_
    have hnd:=hwz.nodup
    clear hwz wz
    have lno: ∀m,KK_ (.sl m) v6=some (vi out.length):=fun m=>we_ (Gr.i hG6 (fun p hp=>hp)) m
    first|with_reducible refine ks [] (And.intro @qs_ @lno) ?_|refine kp (And.intro @qs_ @lno) ?_
    refine Cw.loopG (G:=Nat) [45,46,47,48,51,52,53,54,55,56,57,58,59,14,49,50,15] (fun g=> [(14, .bool (decide ((⟨ok,ot⟩:ObL)∈out.take g))),(15,vi g)]) (fun g=>(b12, .cells #[vi ok,vs ot] 82 (0,0)):: (D1++ (D6++DG))) (fun g=>g≤out.length) (fun g=>out.length - g) 0 rfl rfl ?_ ?_
    ·exact Nat.zero_le _
    ·intro j jj hj
     refine kv ?_
     by_cases hjt:j<out.length
     ·have d2:decide ((j:Int)< (out.length:Int))=true:=decide_eq_true (by omega)
      have hnx:=QB_ (o:=⟨ok,ot⟩) hjt
      have hnd6: (keys D6).Nodup:=by
       simp only[keys,List.map_cons,List.map_append,List.nodup_cons,List.nodup_append] at hnd
       exact hnd.2.2.1.1
      obtain h0| ⟨rb,rc,rest,rfl,hbs,hlk⟩:=Q2_ (Gr.i hG6 (fun p hp=>hp)) hnd6
      ·omega
      have hb12':rb≠b12:=by
       rintro rfl
       simp only[keys,List.map_cons,List.map_append,List.nodup_cons,List.mem_append,not_or] at hnd
       exact hnd.1.2.1 hbs
      have rdb:zz_ w ((b12, .cells #[vi ok,vs ot] 82 (0,0)):: (D1++ (D6++DG))) rb=some (rowO obC 82 rest out):=by
       have hn1:rb∉keys D1:=by
        simp only[keys,List.map_cons,List.map_append,List.nodup_cons,List.nodup_append,List.mem_append] at hnd
        intro hm
        exact hnd.2.2.2 rb hm rb (.inl hbs) rfl
       exact ze_ (by rw[qW_ _ _ _ _ (Ne.symm hb12'),zG_ hn1];exact zk_ hlk)
      have ld:zt_ (some (true,2)) (some (rowO obC 82 rest out)) (j*2)=some (obV (out.getD j ob0).k (out.getD j ob0).t):=XK_ (E:=82) (rest:=rest) (z:=ob0) jC_ j hjt
      generalize out.getD j ob0=p at*
      first|with_reducible refine ks [] (And.intro @qs_ (And.intro @d2 (@lno))) ?_|refine kp (And.intro @qs_ (And.intro @d2 (@lno))) ?_
      cases hin:decide ((⟨ok,ot⟩:ObL)∈out.take j) with
      |true=>
       rw[hin,Bool.true_or] at hnx
       refine Cw.regionS [rb,b12] [0,1,2,3,4,5,6,7,8,9] [] (by kernel_rfl) (by kernel_rfl) (by kernel_rfl) ?_
       simp only[zl_, ↓zg_, ↓zc_, ↓zx_, ↓zw_,zd_]
       refine kq (And.intro @qs_ (And.intro @rdb (@ld))) ?_
       first|with_reducible refine ks [] @qs_ ?_|refine kp @qs_ ?_
       exact Again.mk (j+1) (by omega) (by omega) rfl (by rw[hnx];rfl)
      |false=>
       rw[hin,Bool.false_or] at hnx
       refine Cw.regionS [rb,b12] [0,1,2,3,4,5,6,7,8,9] [] (by kernel_rfl) (by kernel_rfl) (by kernel_rfl) ?_
       simp only[zl_, ↓zg_, ↓zc_, ↓zx_, ↓zw_,zd_]
       refine kq (And.intro @qs_ (And.intro @rdb (@ld))) ?_
       first|with_reducible refine ks [] @qs_ ?_|refine kp @qs_ ?_
       exact Again.mk (j+1) (by omega) (by omega) rfl (by rw[hnx];rfl)
     ·obtain rfl:j=out.length:=by omega
      have d2:decide ((out.length:Int)< (out.length:Int))=false:=decide_eq_false (by omega)
      rw[List.take_length]
      first|with_reducible refine ks [] (And.intro @qs_ (And.intro @d2 (@lno))) ?_|refine kp (And.intro @qs_ (And.intro @d2 (@lno))) ?_
      cases hfr:Jd_ s with
      |false=>
       rw[if_neg (fun h=>by rw[hfr] at h;cases h.1)] at hsv
       first|with_reducible refine ks [] (And.intro @qs_ @hfr) ?_|refine kp (And.intro @qs_ @hfr) ?_
       refine Cw.permL (M:=D1++ (D6++ ((b12, .cells #[vi ok,vs ot] 82 (0,0))::DG))) (by classical exact List.perm_iff_count.2 fun a=>by simp only[List.count_append,List.count_cons,List.count_nil]<;>omega) ?_
       first|with_reducible refine ks [] @qs_ ?_|refine kp @qs_ ?_
       exact Again.mk ⟨k+1,out,v6,D6,(b12, .cells #[vi ok,vs ot] 82 (0,0))::DG⟩ (by show l.length - (k+1)<l.length - k;omega) ⟨hlt,by exact hsv.symm,hN6,⟨hw12,hNG⟩,hG6⟩ rfl rfl
      |true=>
       cases hin:decide ((⟨ok,ot⟩:ObL)∈out) with
       |true=>
        rw[if_neg (fun h=>h.2 (of_decide_eq_true hin))] at hsv
        first|with_reducible refine ks [] (And.intro @qs_ (And.intro @hfr (@hin))) ?_|refine kp (And.intro @qs_ (And.intro @hfr (@hin))) ?_
        refine Cw.permL (M:=D1++ (D6++ ((b12, .cells #[vi ok,vs ot] 82 (0,0))::DG))) (by classical exact List.perm_iff_count.2 fun a=>by simp only[List.count_append,List.count_cons,List.count_nil]<;>omega) ?_
        first|with_reducible refine ks [] @qs_ ?_|refine kp @qs_ ?_
        exact Again.mk ⟨k+1,out,v6,D6,(b12, .cells #[vi ok,vs ot] 82 (0,0))::DG⟩ (by show l.length - (k+1)<l.length - k;omega) ⟨hlt,by exact hsv.symm,hN6,⟨hw12,hNG⟩,hG6⟩ rfl rfl
       |false=>
        rw[if_pos ⟨hfr,of_decide_eq_false hin⟩] at hsv
        first|with_reducible refine ks [] (And.intro @qs_ (And.intro @hfr (@hin))) ?_|refine kp (And.intro @qs_ (And.intro @hfr (@hin))) ?_
        refine Ow.buildSlice (e:=82) #[vi ok,vs ot] rfl rfl (qA_ (cs:=obC ⟨ok,ot⟩) Tryz.underlying94 Tryz.ag82 ZN_ (by decide) rfl) fun bc hbc hwc=> ?_
        refine ko @qs_ ?_
        refine Ow.permL (M:=D6++ ((b12, .cells #[vi ok,vs ot] 82 (0,0)):: (D1++ (DG++ [(bc, .cells #[vi ok,vs ot] 82 (0,0))])))) (by classical exact List.perm_iff_count.2 fun a=>by simp only[List.count_append,List.count_cons,List.count_nil]<;>omega) ?_
        refine Ow.appendXG (e:=82) (k:=1) (new:=obC ⟨ok,ot⟩) (X:=D6) v6 rfl rfl rfl rfl Tryz.underlying94 Tryz.ag82 (by kernel_rfl) ZN_ (by rw[obV,za_];rfl) Tryz.underlying94 (by intro k h;cases h) hG6 (fun w' hw'=>AppX.one1 (hw'.has bc (.cells (obC ⟨ok,ot⟩).toArray 82 (0,0)) (by simp[obC])) (jC_ _) (wZ_ _)) (by omega) (fun B5 v5 D5 hA5 hB5 hG5 hk51 hk52 hlk5=> ?_)
        have hN5:New w.heap.size D5:=New.of_le fun q hq=>by
         rcases hk52 q hq with h|h
         ·exact hN6.le q h
         ·omega
        refine ko @qs_ ?_
        refine Cw.permL (M:=D1++ (D5++ ((b12, .cells #[vi ok,vs ot] 82 (0,0)):: (DG++ [(bc, .cells #[vi ok,vs ot] 82 (0,0))])))) (by classical exact List.perm_iff_count.2 fun a=>by simp only[List.count_append,List.count_cons,List.count_nil]<;>omega) ?_
        first|with_reducible refine ks [] @qs_ ?_|refine kp @qs_ ?_
        exact Again.mk ⟨k+1,out++ [⟨ok,ot⟩],v5,D5,(b12, .cells #[vi ok,vs ot] 82 (0,0)):: (DG++ [(bc, .cells #[vi ok,vs ot] 82 (0,0))])⟩ (by show l.length - (k+1)<l.length - k;omega) ⟨hlt,by exact hsv.symm,hN5,⟨hw12,hNG.app ⟨hwc,trivial⟩⟩,by simpa using hG5⟩ rfl rfl
  ·obtain rfl:k=l.length:=by omega
   have d1:decide ((l.length:Int)< (l.length:Int))=false:=decide_eq_false (by omega)
   first|with_reducible refine ks [] (And.intro @qs_ (And.intro @d1 (@ln))) ?_|refine kp (And.intro @qs_ (And.intro @d1 (@ln))) ?_
   refine⟨_,(ke @qs_), ?_⟩
   refine⟨Ext.of_new hNr, ?_⟩
   rw[←hout]
   exact Gr.i hG6 fun p hp=>by simp[hp]
end Go.Proofs
end
section
open Go Go.Proofs Go.Sx Go.StP Go.Flo
namespace Go.Proofs
set_option maxRecDepth 10000
set_option maxHeartbeats 400000
set_option linter.unusedSimpArgs false
def magO:List UInt8:= [83,76,79,49]
def ack_ (b:List UInt8):List ObL:=if(z1_ b).2=true∧4≤ (z1_ b).1.length∧(z1_ b).1.take 4=magO∧Jd_ ((z1_ b).1.drop 4)=true then [wu_ ((z1_ b).1.drop 4)] else []
def akX_ (b:List UInt8):List ObL:=ack_ b++aaQ_ b
def QL_ (l:List FiL):List ObL:=(l.map fun f=>akX_ f.data).flatten
theorem abL_ (b:List UInt8): (aaQ_ b).length≤200:=by
 unfold aaQ_
 split
 ·exact Nat.le_trans (Jr_ _ _) (ads_ b).1
 ·exact Nat.zero_le _
theorem KE_ (b:List UInt8): (akX_ b).length≤201:=by
 have:=abL_ b
 unfold akX_ ack_
 split
 ·simp;omega
 ·simp;omega
theorem WQ_ (l:List FiL) {k:Nat} (h:k<l.length):QL_ (l.take (k+1))=QL_ (l.take k)++akX_ (l.getD k fi0).data:=by
 unfold QL_
 rw[StP.take_snoc (z:=fi0) h,List.map_append,List.flatten_append]
 simp
theorem KS_ (l:List FiL): ∀k,k≤l.length→(QL_ (l.take k)).length≤k*201
 |0,_=>by simp[QL_]
 |k+1,h=>by
  have h1:=KS_ l k (by omega)
  have h2:=KE_ (l.getD k fi0).data
  rw[WQ_ l (by omega),List.length_append]
  omega
theorem aoa_ (s:List UInt8): (z1_ s).1.length≤s.length:=by
 unfold z1_
 split
 ·simp
 ·split
  ·simp only[List.length_take];omega
  ·simp
structure ObjC where
 os:List ObL
 v:Value
 D:zb_
 DG:zb_
structure ObjG where
 k:Nat
 v:Value
 D:zb_
 DG:zb_
set_option linter.defProp false
def j0_:=And.intro (And.intro (And.intro (@zp_) (@zo_)) (And.intro (@Sx.tup2_0) (@Sx.tup2_1))) (And.intro (And.intro (@jo_) (@qF_)) (And.intro (@qE_) (@qD_)))
theorem adR_ (v:Value) (l:List FiL) (w:World) (hv:FiSl w v l) (hl:l.length≤1000) (hb:FiB l):
  Rets Tryz.prog 113 #[v] w (XS w [] (fun v D=> ∃D1 D2,D=D1++D2∧Gr D1 82 2 v (QL_ l).length ((QL_ l).map obC).flatten)):=by
 have ln:=hv.len
 obtain⟨rb,off,arr,E,fz,hr⟩:=hv.row
 refine Rets.enterX Tryz.func113 rfl (rs:= [.tmp 2]) Tryz.results113 Tryz.ntmps113 (fun p hp=>by cases hp) (by simp[keys]) ?_
 refine kf ?_
 first|with_reducible refine ks [] (And.intro @j0_ @ln) ?_|refine kp (And.intro @j0_ @ln) ?_
 refine Cw.permL (M:= []++ []) (List.Perm.refl _) ?_
 refine Cw.loopG (G:=ObjG) [9,10,11,12,16,17,18,19,20,21,15,22,23,5,6,24,25,26,27,28,29,30,31,32,33,34,36,37,38,35,39,40,7,8,41,42,43,44,45,3,46,47,48,49,50,51,52,53,13,14,4] (fun g=> [(3,g.v),(4,vi g.k)]) (fun g=>g.D++g.DG) (fun g=>g.k≤l.length∧New w.heap.size g.D∧New w.heap.size g.DG∧Gr g.D 82 2 g.v (QL_ (l.take g.k)).length ((QL_ (l.take g.k)).map obC).flatten) (fun g=>l.length - g.k) ⟨0, .slice none 0 0,[],[]⟩ rfl rfl ?_ ?_
 ·exact⟨Nat.zero_le _,trivial,trivial,Gr.nl⟩
 intro g j hg
 refine kv ?_
 obtain⟨k,v3,D,DG⟩:=g
 simp only at hg ⊢
 obtain⟨hk,hN,hNG,hG⟩:=hg
 have hol:=KS_ l k hk
 by_cases hlt:k<l.length
 ·have d1:decide ((k:Int)< (l.length:Int))=true:=decide_eq_true (by omega)
  have hrl:=hr.lt (by omega)
  have ixl:=hr.idx true k hlt
  have ld2: ∀n,zt_ (some (false,n)) (some (.cells arr E fz)) (off+k*3+2)=some (vs (l.getD k fi0).data):=fun n=>aqv_ hr hlt n
  have hhas:=hr.has (show 0<l.length by omega)
  have rdl: ∀L,New w.heap.size L→zz_ w L rb=some (.cells arr E fz):=fun L hL=>by rw[qN_ (hL.not hrl)];exact hhas
  have hfb:=(hb (l.getD k fi0) (by rw[List.getD_eq_getElem?_getD,List.getElem?_eq_getElem hlt];exact List.getElem_mem _)).2
  have hnx:=WQ_ l hlt
  have hfl:=KE_ (l.getD k fi0).data
  generalize (l.getD k fi0).data=b at*
  generalize hosE:QL_ (l.take k)=os at*
  have rd1:=rdl _ (hN.app hNG)
  have hun:=aoa_ b
  have hfo:akX_ b=ack_ b++aaQ_ b:=rfl
  have hlo:ack_ b=if(z1_ b).2=true∧4≤ (z1_ b).1.length∧(z1_ b).1.take 4=magO∧Jd_ ((z1_ b).1.drop 4)=true then [wu_ ((z1_ b).1.drop 4)] else []:=rfl
  have hsl:=abL_ b
  first|with_reducible refine ks [8,1000006] (And.intro @j0_ (And.intro @d1 (And.intro @ln (And.intro @ixl (And.intro @rd1 (@ld2)))))) ?_|refine kp (And.intro @j0_ (And.intro @d1 (And.intro @ln (And.intro @ixl (And.intro @rd1 (@ld2)))))) ?_
  refine Ow.callFV rfl Tryz.call105 (fun w' hw'=>Vt_ b w' hfb) ?_
  generalize z1_ b=u at*
  obtain⟨s,ok⟩:=u
  simp only at hun hlo ⊢
  refine ko @j0_ ?_
  refine Cw.cutO (G:=ObjC) [3,7,8,24,25,26,27,28,29,30,31,32,33,34,35,36,37,38,39,40,41,42,43,44,45] (fun g=> [(3,g.v)]) (fun g=>g.D++g.DG) (fun g=>New w.heap.size g.D∧New w.heap.size g.DG∧Gr g.D 82 2 g.v g.os.length (g.os.map obC).flatten∧g.os=os++ack_ b) ?_ ?_
  ·cases ok with
   |false=>
    rw[if_neg (by simp)] at hlo
    first|with_reducible refine ks [] @j0_ ?_|refine kp @j0_ ?_
    exact CutO.mk ⟨os,v3,D,DG⟩ ⟨hN,hNG,hG,by rw[hlo,List.append_nil]⟩ rfl rfl
   |true=>
    by_cases h4:4≤s.length
    ·have d4:decide ((4:Int)≤ (s.length:Int))=true:=decide_eq_true (by omega)
     have d4':decide ((0:Int)≤4∧(4:Int)≤ (s.length:Int))=true:=decide_eq_true (by omega)
     have d4'':decide ((4:Int)≤ (s.length:Int)∧(s.length:Int)≤ (s.length:Int))=true:=decide_eq_true (by omega)
     by_cases hm:s.take 4=magO
     ·have d5: (s.take 4== [83,76,79,49])=true:=beq_iff_eq.2 hm
      first|with_reducible refine ks [8] (And.intro @j0_ (And.intro @d4 (And.intro @d4' (@d5)))) ?_|refine kp (And.intro @j0_ (And.intro @d4 (And.intro @d4' (@d5)))) ?_
      refine Ow.callFV rfl Tryz.call106 (fun w' hw'=>WY_ (s.drop 4) w' (by rw[List.length_drop];omega)) ?_
      have hrd1: (if lfOk (s.drop 4) then lfK (s.drop 4) else 0)=(wu_ (s.drop 4)).k:=by rw[XC_]
      have hrd2: (if lfOk (s.drop 4) then(lfT ((s.drop 4).drop 1)).1 else [])=(wu_ (s.drop 4)).t:=by rw[XC_]
      have hfl2:=(aqf_ (s.drop 4)).1
      rw[hrd1,hrd2,←hfl2]
      refine ko @j0_ ?_
      refine Ow.alloc rfl rfl ZN_ fun b7 hb7 hw7=> ?_
      simp only[za_,List.nil_append,List.cons_append]
      refine Ow.permL (M:=(b7, .cells #[vi 0,vs []] 82 (0,0)):: (D++DG)) (by classical exact List.perm_iff_count.2 fun a=>by simp only[List.count_append,List.count_cons,List.count_nil]<;>omega) ?_
      refine ko @j0_ ?_
      generalize wu_ (s.drop 4)=o at*
      obtain⟨ok,ot⟩:=o
      cases hfr:Jd_ (s.drop 4) with
      |false=>
       rw[if_neg (fun h=>by rw[hfr] at h;cases h.2.2.2)] at hlo
       refine Cw.permL (M:=D++ ((b7, .cells #[vi ok,vs ot] 82 (0,0))::DG)) (by classical exact List.perm_iff_count.2 fun a=>by simp only[List.count_append,List.count_cons,List.count_nil]<;>omega) ?_
       first|with_reducible refine ks [] (And.intro @j0_ @hfr) ?_|refine kp (And.intro @j0_ @hfr) ?_
       exact CutO.mk ⟨os,v3,D,(b7, .cells #[vi ok,vs ot] 82 (0,0))::DG⟩ ⟨hN,⟨hw7,hNG⟩,hG,by rw[hlo,List.append_nil]⟩ rfl rfl
      |true=>
       rw[if_pos ⟨rfl,h4,hm,hfr⟩] at hlo
       first|with_reducible refine ks [] (And.intro @j0_ @hfr) ?_|refine kp (And.intro @j0_ @hfr) ?_
       refine Ow.buildSlice (e:=82) #[vi ok,vs ot] rfl rfl (qA_ (cs:=obC ⟨ok,ot⟩) Tryz.underlying94 Tryz.ag82 ZN_ (by decide) rfl) fun bc hbc hwc=> ?_
       refine ko @j0_ ?_
       refine Ow.permL (M:=D++ ((b7, .cells #[vi ok,vs ot] 82 (0,0)):: (DG++ [(bc, .cells #[vi ok,vs ot] 82 (0,0))]))) (by classical exact List.perm_iff_count.2 fun a=>by simp only[List.count_append,List.count_cons,List.count_nil]<;>omega) ?_
       refine Ow.appendXG (e:=82) (k:=1) (new:=obC ⟨ok,ot⟩) (X:=D) v3 rfl rfl rfl rfl Tryz.underlying94 Tryz.ag82 (by kernel_rfl) ZN_ (by rw[obV,za_];rfl) Tryz.underlying94 (by intro k h;cases h) hG (fun w' hw'=>AppX.one1 (hw'.has bc (.cells (obC ⟨ok,ot⟩).toArray 82 (0,0)) (by simp[obC])) (jC_ _) (wZ_ _)) (by omega) (fun B5 v5 D5 hA5 hB5 hG5 hk51 hk52 hlk5=> ?_)
       have hN5:New w.heap.size D5:=New.of_le fun q hq=>by
        rcases hk52 q hq with h|h
        ·exact hN.le q h
        ·omega
       refine ko @j0_ ?_
       first|with_reducible refine ks [] @j0_ ?_|refine kp @j0_ ?_
       exact CutO.mk ⟨os++ [⟨ok,ot⟩],v5,D5,(b7, .cells #[vi ok,vs ot] 82 (0,0)):: (DG++ [(bc, .cells #[vi ok,vs ot] 82 (0,0))])⟩ ⟨hN5,⟨hw7,hNG.app ⟨hwc,trivial⟩⟩,by simpa using hG5,by rw[hlo]⟩ rfl rfl
     ·have d5: (s.take 4== [83,76,79,49])=false:=beq_eq_false_iff_ne.2 hm
      rw[if_neg (fun h=>hm h.2.2.1)] at hlo
      first|with_reducible refine ks [] (And.intro @j0_ (And.intro @d4 (And.intro @d4' (@d5)))) ?_|refine kp (And.intro @j0_ (And.intro @d4 (And.intro @d4' (@d5)))) ?_
      exact CutO.mk ⟨os,v3,D,DG⟩ ⟨hN,hNG,hG,by rw[hlo,List.append_nil]⟩ rfl rfl
    ·have d4:decide ((4:Int)≤ (s.length:Int))=false:=decide_eq_false (by omega)
     rw[if_neg (fun h=>h4 h.2.1)] at hlo
     first|with_reducible refine ks [] (And.intro @j0_ @d4) ?_|refine kp (And.intro @j0_ @d4) ?_
     exact CutO.mk ⟨os,v3,D,DG⟩ ⟨hN,hNG,hG,by rw[hlo,List.append_nil]⟩ rfl rfl
  ·intro g j hg
   refine kv ?_
   obtain⟨os2,v4,D4,DG4⟩:=g
   simp only at hg ⊢
   obtain⟨hN4,hNG4,hG4,hos4⟩:=hg
   have hol2:os2.length≤k*201+201:=by
    have:=KE_ b
    rw[hfo,List.length_append] at this
    rw[hos4,List.length_append]
    omega
   have rd2:=rdl _ (hN4.app hNG4)
   first|with_reducible refine ks [] (And.intro @j0_ (And.intro @ln (And.intro @ixl (And.intro @rd2 (@ld2))))) ?_|refine kp (And.intro @j0_ (And.intro @ln (And.intro @ixl (And.intro @rd2 (@ld2))))) ?_
   refine Ow.callC rfl rfl Tryz.call156 (fun w' hw'=>aiF_ b w' hfb) (fun B9 v9 D9 hA9 hB9 hN9 hS9=> ?_)
   have hN9':New w.heap.size D9:=hN9.mono hB9
   refine ko @j0_ ?_
   refine Ow.permL (M:=D4++ (DG4++D9)) (by classical exact List.perm_iff_count.2 fun a=>by simp only[List.count_append,List.count_cons,List.count_nil]<;>omega) ?_
   refine Ow.appendXG (e:=82) (k:=(aaQ_ b).length) (new:=((aaQ_ b).map obC).flatten) (X:=D4) v4 rfl rfl rfl rfl Tryz.underlying94 Tryz.ag82 (by kernel_rfl) ZN_ (by rw[obV,za_];rfl) Tryz.underlying94 (by intro k h;cases h) hG4 (fun w' hw'=>((hS9.mono (fun q hq=>by simp[hq])).slV (z:=ob0) hw' rfl rfl jC_).appX jC_ wZ_) (by omega) (fun B5 v5 D5 hA5 hB5 hG5 hk51 hk52 hlk5=> ?_)
   have hN5:New w.heap.size D5:=New.of_le fun q hq=>by
    rcases hk52 q hq with h|h
    ·exact hN4.le q h
    ·omega
   refine ko @j0_ ?_
   first|with_reducible refine ks [] @j0_ ?_|refine kp @j0_ ?_
   exact Again.mk ⟨k+1,v5,D5,DG4++D9⟩ (by show l.length - (k+1)<l.length - k;omega) ⟨hlt,hN5,hNG4.app hN9',by rw[hnx,hfo,←List.append_assoc,←hos4,List.length_append,List.map_append,List.flatten_append];exact hG5⟩ rfl rfl
 ·obtain rfl:k=l.length:=by omega
  have d1:decide ((l.length:Int)< (l.length:Int))=false:=decide_eq_false (by omega)
  rw[List.take_length] at hG
  first|with_reducible refine ks [] (And.intro @j0_ (And.intro @d1 (@ln))) ?_|refine kp (And.intro @j0_ (And.intro @d1 (@ln))) ?_
  refine⟨_,(ke @j0_), ?_⟩
  exact⟨Ext.of_new (hN.app hNG),D,DG,rfl,hG⟩
end Go.Proofs
end
section
open Go Go.Proofs Go.Sx Go.StP Go.Flo
namespace Go.Proofs
set_option maxRecDepth 10000
set_option maxHeartbeats 400000
set_option linter.unusedSimpArgs false
def idQ (o:ObL):IdL:=⟨Dig.shaR (wl_ o.k o.t),vX_ _⟩
def ku_ (all:List ObL):Nat→Option (List ObL)
 |0=>some []
 |i+1=>match ku_ all i with
  |none=>none
  |some had=>if x8_ (all.getD i ob0).k (all.getD i ob0).t=true∧all.getD i ob0∉had then(if had.any (fun h=>(idQ h).l==(idQ (all.getD i ob0)).l)=true then none else some (had++ [all.getD i ob0])) else some had
def J3_ (all:List ObL):Bool:=(ku_ all all.length).isNone
theorem KR_ {all:List ObL}: ∀ {j i:Nat},ku_ all i=none→i≤j→ku_ all j=none
 |0,i,h,hij=>by
  obtain rfl:i=0:=by omega
  exact h
 |j+1,i,h,hij=>by
  by_cases e:i=j+1
  ·subst e;exact h
  ·have:=KR_ (j:=j) h (by omega)
   unfold ku_
   rw[this]
theorem Wk_ {all:List ObL}: ∀ {i:Nat} {had:List ObL},ku_ all i=some had→had.length≤i
 |0,had,h=>by cases h;exact Nat.le_refl _
 |i+1,had,h=>by
  unfold ku_ at h
  cases hc:ku_ all i with
  |none=>rw[hc] at h;cases h
  |some had'=>
   have h1:=Wk_ hc
   rw[hc] at h
   simp only at h
   split at h
   ·split at h
    ·cases h
    ·cases h;rw[List.length_append];simp;omega
   ·cases h;omega
structure ThG where
 j:Nat
 c:Bool
structure ClG where
 i:Nat
 had:List ObL
 v6:Value
 v7:Value
 D6:zb_
 D7:zb_
 DG:zb_
set_option linter.defProp false
def qj_:=And.intro (And.intro (And.intro (@zp_) (@zo_)) (And.intro (@Sx.tup2_0) (And.intro (@Sx.tup2_1) (@jo_)))) (And.intro (And.intro (@qF_) (And.intro (@qE_) (@qD_))) (And.intro (@atB_) (And.intro (@ang_) (@xt_))))
theorem ajg_ (v1 v2:Value) (l:List FiL) (more:List ObL) (w:World) (hv:FiSl w v1 l) (hl:l.length≤1000) (hb:FiB l) (hm:ObSl w v2 more) (hml:more.length≤1000000):
  Rets Tryz.prog 57 #[v1,v2] w (fun v D=>v= .bool (J3_ (QL_ l++more))∧D= []):=by
 have ln2:=hm.len
 have hol:=KS_ l l.length (Nat.le_refl _)
 rw[List.take_length] at hol
 refine Rets.enterV Tryz.func57 rfl (rs:= [.tmp 4]) Tryz.results57 Tryz.ntmps57 ?_
 refine kf ?_
 first|with_reducible refine ks [] @qj_ ?_|refine kp @qj_ ?_
 refine Ow.callC rfl rfl Tryz.call113 (fun w' hw'=>adR_ v1 l w' (hv.oldN hw' trivial) hl hb) (fun B1 v4 D0 hA1 hB1 hN1 hS1=> ?_)
 obtain⟨D1,DG1,rfl,hG1⟩:=hS1
 have hN1':=hN1.mono hB1
 rw[List.nil_append]
 refine ko @qj_ ?_
 refine Ow.appendXG (e:=82) (k:=more.length) (new:=(more.map obC).flatten) (X:=D1) v4 rfl rfl rfl rfl Tryz.underlying94 Tryz.ag82 (by kernel_rfl) ZN_ (by rw[obV,za_];rfl) Tryz.underlying94 (by intro k h;cases h) hG1 (fun w' hw'=>(hm.oldN hw' hN1').appX jC_ wZ_) (by omega) (fun B5 v5 D5 hA5 hB5 hG5 hk51 hk52 hlk5=> ?_)
 have hN5:New w.heap.size D5:=New.of_le fun q hq=>by
  rcases hk52 q hq with h|h
  ·exact hN1'.le q (by rw[zj_];exact List.mem_append_left _ h)
  ·omega
 rw[←List.flatten_append,←List.map_append,←List.length_append] at hG5
 have hal: (QL_ l++more).length≤1300000:=by rw[List.length_append];omega
 have hNG1:New w.heap.size DG1:=New.of_le fun q hq=>hN1'.le q (by rw[zj_];exact List.mem_append_right _ hq)
 generalize QL_ l++more=all at*
 have hGi:=Gr.i hG5 (fun p hp=>hp)
 have lna: ∀m,KK_ (.sl m) v5=some (vi all.length):=fun m=>we_ hGi m
 refine ko @qj_ ?_
 first|with_reducible refine ks [] (And.intro @qj_ @lna) ?_|refine kp (And.intro @qj_ @lna) ?_
 refine Cw.permL (M:=D5++ ([]++ ([]++DG1))) (by classical exact List.perm_iff_count.2 fun a=>by simp only[List.count_append,List.count_cons,List.count_nil]<;>omega) ?_
 refine Cw.loopG (G:=ClG) [18,19,20,21,24,25,26,27,28,29,9,10,30,31,32,33,34,35,36,37,40,41,42,43,44,45,46,47,48,38,39,49,50,51,52,53,54,11,12,55,56,57,58,61,62,63,64,65,66,4,59,60,67,68,69,70,71,72,73,6,74,75,76,77,7,22,23,8] (fun g=> [(6,g.v6),(7,g.v7),(8,vi g.i)]) (fun g=>D5++ (g.D6++ (g.D7++g.DG))) (fun g=>g.i≤all.length∧ku_ all g.i=some g.had∧New w.heap.size g.D6∧New w.heap.size g.D7∧New w.heap.size g.DG∧Gr g.D6 82 2 g.v6 g.had.length (g.had.map obC).flatten∧Gr g.D7 84 32 g.v7 g.had.length ((g.had.map idQ).map Z7_).flatten) (fun g=>all.length - g.i) ⟨0,[], .slice none 0 0, .slice none 0 0,[],[],DG1⟩ rfl rfl ?_ ?_
 ·exact⟨Nat.zero_le _,rfl,trivial,trivial,hNG1,Gr.nl,Gr.nl⟩
 intro g j hg
 refine kv ?_
 obtain⟨i,had,v6,v7,D6,D7,DG⟩:=g
 simp only at hg ⊢
 obtain⟨hi,hcl,hN6,hN7,hNG,hG6,hG7⟩:=hg
 have hhl:=Wk_ hcl
 have hNr:New w.heap.size (D5++ (D6++ (D7++DG))):=hN5.app (hN6.app (hN7.app hNG))
 by_cases hlt:i<all.length
 ·have d1:decide ((i:Int)< (all.length:Int))=true:=decide_eq_true (by omega)
  have hcs:ku_ all (i+1)=if x8_ (all.getD i ob0).k (all.getD i ob0).t=true∧all.getD i ob0∉had then(if had.any (fun h=>(idQ h).l==(idQ (all.getD i ob0)).l)=true then none else some (had++ [all.getD i ob0])) else some had:=by
   show(match ku_ all i with|none=>none|some had=>_)=_
   rw[hcl]
  refine Cw.world fun wz hwz=> ?_
  have hnd:=hwz.nodup
  clear hwz wz
  simp only[zj_,List.nodup_append,List.mem_append] at hnd
  obtain h0| ⟨ra,ca,resta,rfl,hka,hlka⟩:=Q2_ hGi hnd.1
  ·omega
  have rda: ∀Y,zz_ w (D5++Y) ra=some (rowO obC 82 resta all):=fun Y=>ze_ (zk_ hlka)
  have lda:zt_ (some (true,2)) (some (rowO obC 82 resta all)) (i*2)=some (obV (all.getD i ob0).k (all.getD i ob0).t):=XK_ (E:=82) (rest:=resta) (z:=ob0) jC_ i hlt
  have lnh: ∀m,KK_ (.sl m) v6=some (vi had.length):=fun m=>we_ (Gr.i hG6 (fun p hp=>hp)) m
  have lni: ∀m,KK_ (.sl m) v7=some (vi had.length):=fun m=>we_ (Gr.i hG7 (fun p hp=>hp)) m
  generalize all.getD i ob0=o at*
  obtain⟨ok,ot⟩:=o
  simp only at lda hcs
  first|with_reducible refine ks [7] (And.intro @qj_ (And.intro @d1 (And.intro @lna (And.intro @lda (@rda))))) ?_|refine kp (And.intro @qj_ (And.intro @d1 (And.intro @lna (And.intro @lda (@rda))))) ?_
  refine Ow.callFV rfl Tryz.call54 (fun w' hw'=>ZV_ ok ot w') ?_
  refine ko @qj_ ?_
  first|with_reducible refine ks [] (And.intro @qj_ @lnh) ?_|refine kp (And.intro @qj_ @lnh) ?_
  refine Cw.loopG (G:=ThG) [30,31,32,33,34,35,36,37,40,41,42,43,44,45,46,47,48,9,38,39,10] (fun g=> [(9, .bool g.c),(10,vi g.j)]) (fun g=>D5++ (D6++ (D7++DG))) (fun g=>g.j≤had.length∧g.c=(!x8_ ok ot||decide ((⟨ok,ot⟩:ObL)∈had.take g.j))) (fun g=>had.length - g.j) ⟨0, !x8_ ok ot⟩ rfl rfl ?_ ?_
  ·exact⟨Nat.zero_le _,by simp⟩
  intro g j hg
  refine kv ?_
  obtain⟨j,c⟩:=g
  simp only at hg ⊢
  obtain⟨hj,hc⟩:=hg
  by_cases hjt:j<had.length
  ·have d2:decide ((j:Int)< (had.length:Int))=true:=decide_eq_true (by omega)
   cases c with
   |true=>
    have hno: ¬ (x8_ ok ot=true∧(⟨ok,ot⟩:ObL)∉had):=by
     rintro⟨h1,h2⟩
     rw[h1,decide_eq_false (fun h=>h2 (List.mem_of_mem_take h))] at hc
     cases hc
    first|with_reducible refine ks [] (And.intro @qj_ (And.intro @d2 (@lnh))) ?_|refine kp (And.intro @qj_ (And.intro @d2 (@lnh))) ?_
    rw[if_neg hno] at hcs
    first|with_reducible refine ks [] @qj_ ?_|refine kp @qj_ ?_
    exact Again.mk ⟨i+1,had,v6,v7,D6,D7,DG⟩ (by show all.length - (i+1)<all.length - i;omega) ⟨hlt,hcs,hN6,hN7,hNG,hG6,hG7⟩ rfl rfl
   |false=>
    have hc':=hc.symm
    rw[Bool.or_eq_false_iff] at hc'
    have hnx:=QB_ (o:=⟨ok,ot⟩) hjt
    rw[hc'.2,Bool.false_or] at hnx
    obtain h0| ⟨rh,ch,resth,rfl,hkh,hlkh⟩:=Q2_ (Gr.i hG6 (fun p hp=>hp)) hnd.2.1.1
    ·omega
    have hn1:rh∉keys D5:=fun hm=>hnd.2.2 rh hm rh (.inl hkh) rfl
    have rdh:zz_ w (D5++ (D6++ (D7++DG))) rh=some (rowO obC 82 resth had):=ze_ (by rw[zG_ hn1];exact zk_ hlkh)
    have ldh:zt_ (some (true,2)) (some (rowO obC 82 resth had)) (j*2)=some (obV (had.getD j ob0).k (had.getD j ob0).t):=XK_ (E:=82) (rest:=resth) (z:=ob0) jC_ j hjt
    generalize had.getD j ob0=p at*
    first|with_reducible refine ks [] (And.intro @qj_ (And.intro @d2 (@lnh))) ?_|refine kp (And.intro @qj_ (And.intro @d2 (@lnh))) ?_
    refine Cw.regionS [rh,ra] [0,1,2,4,5,6,3,7,8,9] [] (by kernel_rfl) (by kernel_rfl) (by kernel_rfl) ?_
    simp only[zl_, ↓zg_, ↓zc_, ↓zx_, ↓zw_,zd_]
    refine kq (And.intro @qj_ (And.intro @rdh (And.intro @ldh (And.intro @rda (@lda))))) ?_
    first|with_reducible refine ks [] @qj_ ?_|refine kp @qj_ ?_
    exact Again.mk ⟨j+1,_⟩ (by show had.length - (j+1)<had.length - j;omega) ⟨hjt,by rw[hc'.1,Bool.false_or];exact hnx.symm⟩ rfl rfl
  ·obtain rfl:j=had.length:=by omega
   have d2:decide ((had.length:Int)< (had.length:Int))=false:=decide_eq_false (by omega)
   rw[List.take_length] at hc
   cases c with
   |true=>
    have hno: ¬ (x8_ ok ot=true∧(⟨ok,ot⟩:ObL)∉had):=by
     rintro⟨h1,h2⟩
     rw[h1,decide_eq_false h2] at hc
     cases hc
    first|with_reducible refine ks [] (And.intro @qj_ (And.intro @d2 (@lnh))) ?_|refine kp (And.intro @qj_ (And.intro @d2 (@lnh))) ?_
    rw[if_neg hno] at hcs
    first|with_reducible refine ks [] @qj_ ?_|refine kp @qj_ ?_
    exact Again.mk ⟨i+1,had,v6,v7,D6,D7,DG⟩ (by show all.length - (i+1)<all.length - i;omega) ⟨hlt,hcs,hN6,hN7,hNG,hG6,hG7⟩ rfl rfl
   |false=>
    have hc':=hc.symm
    rw[Bool.or_eq_false_iff] at hc'
    have hrt:x8_ ok ot=true:=by simpa using hc'.1
    have htl:ot.length<100000:=by have:=aat_ (k:=ok) (t:=ot) (by rw[Ze_];exact hrt);omega
    rw[if_pos ⟨hrt,of_decide_eq_false hc'.2⟩] at hcs
    first|with_reducible refine ks [] (And.intro @qj_ (And.intro @d2 (And.intro @lnh (And.intro @rda (@lda))))) ?_|refine kp (And.intro @qj_ (And.intro @d2 (And.intro @lnh (And.intro @rda (@lda))))) ?_
    refine Ow.callFV rfl Tryz.call55 (fun w' hw'=>abi_ ok ot w' htl) ?_
    have hid:Dig.shaR (wl_ ok ot)=(idQ ⟨ok,ot⟩).l:=rfl
    rw[hid] at*
    have hil:=(idQ ⟨ok,ot⟩).h
    have hi0:=id0.h
    generalize hx:idQ ⟨ok,ot⟩=x at*
    refine ko @qj_ ?_
    refine Ow.alloc rfl rfl vO_ fun b11 hb11 hw11=> ?_
    simp only[za_,List.nil_append,List.cons_append]
    refine Ow.permL (M:=(b11, .cells (a8 id0.l) 84 (0,0)):: (D5++ (D6++ (D7++DG)))) (by classical exact List.perm_iff_count.2 fun a=>by simp only[List.count_append,List.count_cons,List.count_nil]<;>omega) ?_
    refine ko @qj_ ?_
    first|with_reducible refine ks [] (And.intro @qj_ @lni) ?_|refine kp (And.intro @qj_ @lni) ?_
    refine Cw.loopG (G:=Nat) [55,56,57,58,61,62,63,64,65,66,4,59,60,12] (fun g=> [(12,vi g)]) (fun g=>(b11, .cells (a8 x.l) 84 (0,0)):: (D5++ (D6++ (D7++DG)))) (fun g=>g≤had.length∧(had.take g).any (fun h=>(idQ h).l==x.l)=false) (fun g=>had.length - g) 0 rfl rfl ?_ ?_
    ·exact⟨Nat.zero_le _,rfl⟩
    intro m jm hm
    refine kv ?_
    obtain⟨hm1,hm2⟩:=hm
    by_cases hmt:m<had.length
    ·have d3:decide ((m:Int)< (had.length:Int))=true:=decide_eq_true (by omega)
     obtain h0| ⟨rq,cq,restq,rfl,hkq,hlkq⟩:=Q2_ (l:=had.map idQ) (enc:=Z7_) (by rw[List.length_map];exact Gr.i hG7 (fun p hp=>hp)) hnd.2.1.2.1.1
     ·rw[List.length_map] at h0;omega
     rw[List.length_map] at*
     have hn1:rq∉keys D5:=fun hm=>hnd.2.2 rq hm rq (.inr (.inl hkq)) rfl
     have hn2:rq∉keys D6:=fun hm=>hnd.2.1.2.2 rq hm rq (.inl hkq) rfl
     have hq11:rq<b11:=zi_ hb11 (by simp only[zj_,List.mem_append];exact .inr (.inr (.inl hkq)))
     have rdq:zz_ w ((b11, .cells (a8 x.l) 84 (0,0)):: (D5++ (D6++ (D7++DG)))) rq=some (rowO Z7_ 84 restq (had.map idQ)):=ze_ (by rw[qW_ _ _ _ _ (by omega),zG_ hn1,zG_ hn2];exact zk_ hlkq)
     have ldq:zt_ (some (true,32)) (some (rowO Z7_ 84 restq (had.map idQ))) (m*32)=some (.agg (a8 (idQ (had.getD m ob0)).l)):=by
      have:=XK_ (E:=84) (rest:=restq) (z:=id0) x1_ m (show m< (had.map idQ).length by rw[List.length_map];exact hmt)
      rw[aae_,show(had.map idQ).getD m id0=idQ (had.getD m ob0) from by rw[List.getD_eq_getElem?_getD,List.getD_eq_getElem?_getD,List.getElem?_map,List.getElem?_eq_getElem hmt];rfl] at this
      exact this
     have hpm:had.getD m ob0∈had:=xQ_ hmt
     have hnx: (had.take (m+1)).any (fun h=>(idQ h).l==x.l)=((idQ (had.getD m ob0)).l==x.l):=by
      rw[StP.take_snoc (z:=ob0) hmt,List.any_append,hm2];simp
     generalize had.getD m ob0=p at*
     first|with_reducible refine ks [] (And.intro @qj_ (And.intro @d3 (@lni))) ?_|refine kp (And.intro @qj_ (And.intro @d3 (@lni))) ?_
     refine Cw.regionS [rq,b11] [0,1,2,3,4,5] [] (by kernel_rfl) (by kernel_rfl) (by kernel_rfl) ?_
     simp only[zl_, ↓zg_, ↓zc_, ↓zx_, ↓zw_,zd_]
     refine kq (And.intro @qj_ (And.intro @rdq (@ldq))) ?_
     cases hq: ((idQ p).l==x.l) with
     |true=>
      have hany:had.any (fun h=>(idQ h).l==x.l)=true:=List.any_eq_true.2 ⟨p,hpm,hq⟩
      rw[if_pos hany] at hcs
      have hnn:=KR_ hcs (show i+1≤all.length by omega)
      first|with_reducible refine ks [] (And.intro @qj_ @hq) ?_|refine kp (And.intro @qj_ @hq) ?_
      refine⟨_,(ke @qj_),(show New w.heap.size ((b11,_):: (D5++ (D6++ (D7++DG)))) from⟨hw11,hNr⟩), ?_⟩
      (unfold J3_;rw[hnn];rfl)
     |false=>
      rw[hq] at hnx
      first|with_reducible refine ks [] (And.intro @qj_ @hq) ?_|refine kp (And.intro @qj_ @hq) ?_
      exact Again.mk (m+1) (by omega) ⟨hmt,hnx⟩ rfl rfl
    ·obtain rfl:m=had.length:=by omega
     have d3:decide ((had.length:Int)< (had.length:Int))=false:=decide_eq_false (by omega)
     rw[List.take_length] at hm2
     rw[if_neg (by rw[hm2];simp)] at hcs
     have ha11:ra<b11:=zi_ hb11 (by simp only[zj_,List.mem_append];exact .inl hka)
     have rda2: ∀O Y,zz_ w ((b11,O):: (D5++Y)) ra=some (rowO obC 82 resta all):=fun O Y=>ze_ (by rw[qW_ _ _ _ _ (by omega)];exact zk_ hlka)
     first|with_reducible refine ks [] (And.intro @qj_ (And.intro @d3 (And.intro @lni (And.intro @rda2 (@lda))))) ?_|refine kp (And.intro @qj_ (And.intro @d3 (And.intro @lni (And.intro @rda2 (@lda))))) ?_
     refine Ow.buildSlice (e:=82) #[vi ok,vs ot] rfl rfl (qA_ (cs:=obC ⟨ok,ot⟩) Tryz.underlying94 Tryz.ag82 ZN_ (by decide) rfl) fun bc hbc hwc=> ?_
     refine ko @qj_ ?_
     refine Ow.permL (M:=D6++ ((b11, .cells (a8 x.l) 84 (0,0)):: (D5++ (D7++ (DG++ [(bc, .cells #[vi ok,vs ot] 82 (0,0))]))))) (by classical exact List.perm_iff_count.2 fun a=>by simp only[List.count_append,List.count_cons,List.count_nil]<;>omega) ?_
     refine Ow.appendXG (e:=82) (k:=1) (new:=obC ⟨ok,ot⟩) (X:=D6) v6 rfl rfl rfl rfl Tryz.underlying94 Tryz.ag82 (by kernel_rfl) ZN_ (by rw[obV,za_];rfl) Tryz.underlying94 (by intro k h;cases h) hG6 (fun w' hw'=>AppX.one1 (hw'.has bc (.cells (obC ⟨ok,ot⟩).toArray 82 (0,0)) (by simp[obC])) (jC_ _) (wZ_ _)) (by omega) (fun B8 va8 D8 hA8 hB8 hG8 hk81 hk82 hlk8=> ?_)
     have hN8:New w.heap.size D8:=New.of_le fun q hq=>by
      rcases hk82 q hq with h|h
      ·exact hN6.le q h
      ·omega
     refine Ow.permL (M:=(b11, .cells (a8 x.l) 84 (0,0)):: (D5++ (D8++ (D7++ (DG++ [(bc, .cells #[vi ok,vs ot] 82 (0,0))]))))) (by classical exact List.perm_iff_count.2 fun a=>by simp only[List.count_append,List.count_cons,List.count_nil]<;>omega) ?_
     refine ko @qj_ ?_
     first|with_reducible refine ks [] @qj_ ?_|refine kp @qj_ ?_
     refine Ow.buildSlice (e:=84) (a8 x.l) rfl rfl (qA_ (cs:=x.l.map v8) Tryz.underlying106 QC_ vO_ (by decide) (by simp[x.h])) fun ba hba hwa=> ?_
     refine ko @qj_ ?_
     refine Ow.permL (M:=D7++ ((b11, .cells (a8 x.l) 84 (0,0)):: (D5++ (D8++ (DG++ [(bc, .cells #[vi ok,vs ot] 82 (0,0)),(ba, .cells (a8 x.l) 84 (0,0))]))))) (by classical exact List.perm_iff_count.2 fun a=>by simp only[List.count_append,List.count_cons,List.count_nil]<;>omega) ?_
     refine Ow.appendXG (e:=84) (k:=1) (new:=Z7_ x) (X:=D7) v7 rfl rfl rfl rfl Tryz.underlying106 QC_ (by kernel_rfl) vO_ (by rw[za_,v9_,id0.h]) Tryz.underlying106 (by intro k h;cases h) hG7 (fun w' hw'=>AppX.one1 (by rw[aae_];exact hw'.has ba (.cells (a8 x.l) 84 (0,0)) (by simp)) (x1_ _) (Qn_ _)) (by omega) (fun B9 va9 D9 hA9 hB9 hG9 hk91 hk92 hlk9=> ?_)
     have hN9:New w.heap.size D9:=New.of_le fun q hq=>by
      rcases hk92 q hq with h|h
      ·exact hN7.le q h
      ·omega
     refine ko @qj_ ?_
     refine Cw.permL (M:=D5++ (D8++ (D9++ ((b11, .cells (a8 x.l) 84 (0,0)):: (DG++ [(bc, .cells #[vi ok,vs ot] 82 (0,0)),(ba, .cells (a8 x.l) 84 (0,0))]))))) (by classical exact List.perm_iff_count.2 fun a=>by simp only[List.count_append,List.count_cons,List.count_nil]<;>omega) ?_
     first|with_reducible refine ks [] @qj_ ?_|refine kp @qj_ ?_
     have hl1: (had++ [(⟨ok,ot⟩:ObL)]).length=had.length+1:=by simp
     exact Again.mk ⟨i+1,had++ [⟨ok,ot⟩],va8,va9,D8,D9,(b11, .cells (a8 x.l) 84 (0,0)):: (DG++ [(bc, .cells #[vi ok,vs ot] 82 (0,0)),(ba, .cells (a8 x.l) 84 (0,0))])⟩ (by show all.length - (i+1)<all.length - i;omega) ⟨hlt,hcs,hN8,hN9,⟨hw11,hNG.app ⟨hwc,hwa,trivial⟩⟩,by simpa using hG8,by rw[←hx] at hG9;simpa using hG9⟩ rfl rfl
 ·obtain rfl:i=all.length:=by omega
  have d1:decide ((all.length:Int)< (all.length:Int))=false:=decide_eq_false (by omega)
  first|with_reducible refine ks [] (And.intro @qj_ (And.intro @d1 (@lna))) ?_|refine kp (And.intro @qj_ (And.intro @d1 (@lna))) ?_
  refine⟨_,(ke @qj_),hNr, ?_⟩
  (unfold J3_;rw[hcl];rfl)
end Go.Proofs
end
section
open Go Go.Proofs Go.Sx Go.StP Go.Flo
namespace Go.Proofs
set_option maxRecDepth 10000
set_option maxHeartbeats 400000
set_option linter.unusedSimpArgs false
set_option linter.defProp false
instance:DecidableEq FiL:=fun a b=>if h:a.dir=b.dir∧a.name=b.name∧a.data=b.data then .isTrue (by cases a;cases b;simp only at h;obtain⟨rfl,rfl,rfl⟩:=h;rfl) else .isFalse (fun e=>h (by rw[e];exact⟨rfl,rfl,rfl⟩))
set_option linter.defProp false
end Go.Proofs
end
section
open Go Go.Proofs Go.Sx Go.StP
namespace Go.Proofs
set_option maxRecDepth 10000
set_option maxHeartbeats 400000
set_option linter.unusedSimpArgs false
set_option linter.defProp false
end Go.Proofs
end
section
open Go Go.Proofs Go.Sx Go.StP
namespace Go.Proofs
set_option maxRecDepth 10000
set_option maxHeartbeats 400000
set_option linter.unusedSimpArgs false
set_option linter.defProp false
end Go.Proofs
end
section
open Go Go.Proofs Go.Sx Go.StP Go.Flo
namespace Go.Proofs
set_option maxRecDepth 10000
set_option maxHeartbeats 1000000
set_option linter.unusedSimpArgs false
set_option linter.defProp false
end Go.Proofs
end
section
open Go Go.Proofs Go.Sx Go.StP Go.Flo
namespace Go.Proofs
set_option maxRecDepth 10000
set_option maxHeartbeats 1000000
set_option linter.unusedSimpArgs false
theorem ActOk.old {w w':World} {L:zb_} {a:ActL} (h:ActOk w a) (hw:Hp w L w') (hn:New w.heap.size L):ActOk w' a:=
 ⟨h.pk.old hw fun hl _b hb=>hn.not (h.pk.blk hl hb),h.n⟩
set_option linter.defProp false
end Go.Proofs
end
section
open Go Go.Proofs Go.Sx Go.StP Go.Flo
namespace Go.Proofs
set_option maxRecDepth 10000
set_option maxHeartbeats 1000000
set_option linter.unusedSimpArgs false
theorem anZ_ {S S':DiskL} {kind:Int} {dir name s:List UInt8} {e:Nat} (h:StepD S kind dir name s S' e):S'.files.length≤S.files.length+1:=by
 obtain⟨-,hb2,-⟩:=qv_ S
 cases h with
 |same=>exact Nat.le_succ _
 |burn=>rw[hb2];exact Nat.le_succ _
 |create=>show((zu_ S).1.files++ [jP_]).length≤_;rw[hb2,List.length_append];exact Nat.le_refl _
 |append=>show((zu_ S).1.files.set _ _).length≤_;rw[List.length_set,hb2];exact Nat.le_succ _
 |sync=>show((zu_ S).1.files.set _ _).length≤_;rw[List.length_set,hb2];exact Nat.le_succ _
 |syncDir=>show(zu_ S).1.files.length≤_;rw[hb2];exact Nat.le_succ _
 |rename=>show(zu_ S).1.files.length≤_;rw[hb2];exact Nat.le_succ _
 |remove=>show(zu_ S).1.files.length≤_;rw[hb2];exact Nat.le_succ _
set_option linter.defProp false
end Go.Proofs
end
section
open Go Go.Proofs Go.Sx Go.StP
namespace Go.Proofs
set_option maxRecDepth 10000
set_option maxHeartbeats 400000
set_option linter.unusedSimpArgs false
theorem agG_ {S:DiskL} (ok:DkOk S) {k:Nat} (hk:k<3) {c:CallL} (hok:okC (S.dir k).seen c) (hc:c.kind=0→c.n<S.files.length):DkOk (k7_ S k c):=
 wO_ ok _ (aa5_ c (ok.seen k hk)) (ok.stl k hk) (aaS_ (ok.seenN k hk) hok hc) (ok.stlN k hk) (fun d hd=>by
  rcases List.mem_append.1 hd with hd|hd
  ·exact ok.pendN k hk d hd
  ·rw[List.mem_singleton.1 hd];exact hc)
theorem am3_ {S S':DiskL} {kind:Int} {dir name s:List UInt8} {e:Nat} (ok:DkOk S) (h:StepD S kind dir name s S' e):DkOk S':=by
 obtain⟨hb1,hb2,-⟩:=qv_ S
 have okb:=xJ_ ok
 cases h with
 |same=>exact ok
 |burn=>exact okb
 |create k hk hf hn hb=>
  refine agG_ (ahz_ okb ⟨Nat.zero_le _,Nat.le_refl _⟩) (zE_ hk).1 (fun e=>by cases e) fun _=> ?_
  show S.files.length< ((zu_ S).1.files++ [jP_]).length
  rw[hb2,List.length_append];exact Nat.lt_succ_self _
 |append k m hk hm hf hb=>
  have hml:=ok.seenN k (zE_ hk).1 _ (zW_ hm)
  obtain⟨h1,h2⟩:=JG_ ok (n:=m) hml
  refine Zn_ okb ⟨?_, ?_⟩
  ·rw[List.length_append]
   unfold Z2_ at hf
   simp only[Bool.or_eq_false_iff,decide_eq_false_iff_not] at hf
   have:=hf.1.1
   show(zq_ S m).data.length+s.length≤1048576
   omega
  ·rw[List.length_append]
   show(zq_ S m).stl≤ (zq_ S m).data.length+s.length
   omega
 |sync k m hk hm hb=>
  have hml:=ok.seenN k (zE_ hk).1 _ (zW_ hm)
  obtain⟨h1,h2⟩:=JG_ ok (n:=m) hml
  exact Zn_ okb ⟨h1,Nat.le_refl _⟩
 |syncDir k hk hb=>
  have hk3:=(zE_ hk).1
  exact wO_ okb _ (okb.seen k hk3) (okb.seen k hk3) (okb.seenN k hk3) (okb.seenN k hk3) fun c hc=>by cases hc
 |rename k m h4 hk hm hf hne hb=>
  exact agG_ okb (zE_ hk).1 (by rw[hb1];exact abn_ hm hne) fun e=>by cases e
 |remove k m hk hm hb=>exact agG_ okb (zE_ hk).1 (fun e=>by cases e) fun e=>by cases e
structure DsA (S:DiskL) (N:Nat):Prop where
 ok:DkOk S
 B:DkN N S
 fl:S.files.length≤N
theorem DsA.step {S S':DiskL} {N:Nat} {kind:Int} {dir name s:List UInt8} {e:Nat} (h:DsA S N) (hst:StepD S kind dir name s S' e) (hn:name.length≤1000000) (hs:s.length≤1000000):DsA S' (N+1):=
 ⟨am3_ h.ok hst,ag7_ h.B hn hs hst,Nat.le_trans (anZ_ hst) (Nat.succ_le_succ h.fl)⟩
theorem DsA.mono {S:DiskL} {N M:Nat} (h:DsA S N) (hm:N≤M):DsA S M:=⟨h.ok,h.B.mono hm,Nat.le_trans h.fl hm⟩
theorem DsA.do {S:DiskL} {N:Nat} (h:DsA S N) (_hN:N<900000) (kind:Int) (dir name s:List UInt8) (hn:name.length≤1000000) (hs:s.length≤1000000):DsA (doV S kind dir name s).1 (N+1):=h.step (arI_ S kind dir name s) hn hs
section
variable {dir nm data:List UInt8}
end
end Go.Proofs
end
section
open Go Go.Proofs Go.Sx Go.StP
namespace Go.Proofs
set_option maxRecDepth 10000
set_option maxHeartbeats 1000000
set_option linter.unusedSimpArgs false
structure FulS (S:DiskL):Prop where
 ok:DkOk S
 uniq:vz_ S
 hist:vM_ S
 calm:vb_ S
 fine:JK_ S
theorem FulS.good {S:DiskL} (h:FulS S):GoodS S:=h.ok.good h.uniq
theorem FulS.step {S S':DiskL} {kind:Int} {dir name s:List UInt8} {e:Nat} (h:FulS S) (hst:StepD S kind dir name s S' e):FulS S':=
 ⟨am3_ h.ok hst,amz_ h.ok h.uniq hst,ady_ h.hist hst,akj_ h.calm hst,ak2_ h.fine hst⟩
theorem agi_ {S:DiskL} {dir x:List UInt8} {k:Nat} (hc:vb_ S) (hk:zN_ dir=some k) (hf:q7_ x=true) {d:List UInt8} (hv:qc_ S k x=some d) (s:List UInt8) (h1:d.length+s.length≤1048576) (h2: (qM_ S:Int)+s.length≤S.max): (qy_ S dir x s).2≠8:=by
 have h0:qU_ S dir [x]=0:=by rw[ji_ hc hk,if_neg (by simp[hf])]
 obtain⟨n,hn,hd⟩:=vB_ hv
 have hfl:Z2_ S n s=false:=by
  unfold Z2_
  rw[hd]
  simp only[Bool.or_eq_false_iff,decide_eq_false_iff_not]
  exact⟨⟨by omega,by omega⟩,by omega⟩
 unfold qy_
 rw[if_neg (by rw[h0];simp),ae5_ hk,hn]
 simp only
 rw[hfl,if_neg (by simp),jU_ hc,if_neg (by simp)]
 simp
theorem aci_ {S:DiskL} (h:FulS S) {nm:List UInt8} (hn:q7_ nm=true) (hf:q7_ (js_ nm)=true) (data:List UInt8):
  ∃e S',pubV S zf_ nm data true=(e,S')∧FulS S'∧S'.max=S.max∧(∀x,x≠nm→x≠js_ nm→qc_ S' 0 x=qc_ S 0 x)∧qM_ S'≤qM_ S+ (data.length+nm.length)∧qc_ S' 0 (js_ nm)=none∧
   ((e=0∧qc_ S' 0 nm=some data)∨(e=8∧qc_ S' 0 nm=qc_ S 0 nm∧ ¬ (data.length≤1048576∧(qM_ S:Int)+data.length≤S.max))):=by
 have hk:zN_ zf_=some 0:=rfl
 have hd:Ky_ 0=zf_:=rfl
 have tn:nm≠js_ nm:=(ap0_ nm).symm
 have other: ∀ {A B:DiskL} {kind:Int} {s:List UInt8} {e:Nat},FulS A→StepD A kind zf_ (js_ nm) s B e→ ∀x,x≠js_ nm→(kind=4→x≠s)→qc_ B 0 x=qc_ A 0 x:=fun hA hst x hx h4=>K6_ hA.good hst (by decide) fun _=>⟨hx,h4⟩
 have used: ∀ {A B:DiskL} {kind:Int} {e:Nat},FulS A→StepD A kind zf_ (js_ nm) [] B e→qM_ B≤qM_ A:=fun hA hst=>XE_ hA.ok hA.uniq hst
 obtain⟨S1,⟨b0,h0⟩,a1,m1,v1,o1,u1⟩: ∃S1,(∃b,phT 0 (tk0 zf_ nm data true) S=⟨b,0,tk0 zf_ nm data true,S1⟩)∧FulS S1∧S1.max=S.max∧qc_ S1 0 (js_ nm)=none∧(∀x,x≠js_ nm→qc_ S1 0 x=qc_ S 0 x)∧qM_ S1≤qM_ S:=by
  have hr:=WX_ h.calm hk hf
  show∃S1,(∃b,W0_ (tk0 zf_ nm data true) S=_)∧_
  unfold W0_
  cases hv:qc_ S 0 (js_ nm) with
  |none=>
   rw[hv] at hr
   exact⟨S,⟨false,by rw[if_pos (by show(j8_ S zf_ (js_ nm)).2≠0;rw[hr];simp)]⟩,h,rfl,hv,fun _ _=>rfl,Nat.le_refl _⟩
  |some d=>
   rw[hv] at hr
   obtain⟨r1,r2⟩:=ZW_ h.calm hk hf hv
   have st:=j7_ S zf_ (js_ nm) []
   refine⟨(qk_ S zf_ (js_ nm)).1,⟨true, ?_⟩,h.step st,Zh_ st,r2,fun x hx=>other h st x hx fun e=>absurd e (by decide),used h st⟩
   rw[if_neg (by show¬ (j8_ S zf_ (js_ nm)).2≠0;rw[hr];simp)]
   show PhR.mk true (qk_ S zf_ (js_ nm)).2 _ _=_
   rw[r1];rfl
 obtain⟨r1,r2⟩:=agh_ a1.good a1.calm hk hf v1
 have st2:=Z5_ S1 zf_ (js_ nm) []
 have a2:=a1.step st2
 have m2:=(Zh_ st2).trans m1
 have o2:=fun x hx=>other a1 st2 x hx fun e=>absurd e (by decide)
 have u2:=Nat.le_trans (used a1 st2) u1
 have h1:phT 1 (tkN zf_ nm data true 1 false) S1=⟨true,0,tkN zf_ nm data true 1 true,(jk_ S1 zf_ (js_ nm)).1⟩:=by
  show PhR.mk true (jk_ S1 zf_ (js_ nm)).2 {tkN zf_ nm data true 1 false with made:=(jk_ S1 zf_ (js_ nm)).2==0} _=_
  rw[r1];rfl
 clear st2
 generalize (jk_ S1 zf_ (js_ nm)).1=S2 at*
 have st3:=ZT_ S2 zf_ (js_ nm) data
 have a3:=a2.step st3
 have m3:=(Zh_ st3).trans m2
 have o3:=fun x hx=>other a2 st3 x hx fun e=>absurd e (by decide)
 have u3:=XE_ a2.ok a2.uniq st3
 have h2:phT 2 (tkN zf_ nm data true 2 true) S2=⟨true,(qy_ S2 zf_ (js_ nm) data).2,tkN zf_ nm data true 2 true,(qy_ S2 zf_ (js_ nm) data).1⟩:=rfl
 have hp:pubV S zf_ nm data true=phG 4 (tkN zf_ nm data true 2 true) S2:=by
  unfold pubV
  rw[XD_ (t':=tkN zf_ nm data true 1 false) h0 rfl rfl rfl,XD_ (t':=tkN zf_ nm data true 2 true) h1 rfl rfl rfl]
 rcases aff_ a2.good a2.calm hk hf r2 data with⟨b1,b2⟩ | ⟨b1,b2⟩
 ·have st4:=j7_ S2 zf_ (js_ nm) []
  obtain⟨-,w2⟩:=ZW_ a2.calm hk hf r2
  refine⟨8,(qk_ S2 zf_ (js_ nm)).1, ?_,a2.step st4,(Zh_ st4).trans m2,fun x _ hx=>(other a2 st4 x hx fun e=>absurd e (by decide)).trans ((o2 x hx).trans (o1 x hx)), ?_,w2, .inr ⟨rfl,(other a2 st4 nm tn fun e=>absurd e (by decide)).trans ((o2 nm tn).trans (o1 nm tn)),fun hr=> ?_⟩⟩
  ·rw[hp,alY_ h2 (by show(qy_ S2 zf_ (js_ nm) data).2≠0;rw[b1];simp)]
   unfold xe_
   rw[if_pos ⟨rfl,by show(qy_ S2 zf_ (js_ nm) data).2≠9;rw[b1];simp⟩]
   show((qy_ S2 zf_ (js_ nm) data).2,(qk_ (qy_ S2 zf_ (js_ nm) data).1 zf_ (js_ nm)).1)=_
   rw[b1,b2]
  ·have:=used a2 st4;omega
  ·exact agi_ a2.calm hk hf r2 data (by have:=hr.1;simp;omega) (by rw[m2];have:=hr.2;omega) b1
 ·rw[List.nil_append] at b2
  clear st3
  generalize (qy_ S2 zf_ (js_ nm) data).1=S3 at*
  have h3:phT 3 (tkN zf_ nm data true 3 true) S3=⟨false,0,tkN zf_ nm data true 3 true,S3⟩:=rfl
  obtain⟨c1,c2,c3⟩:=aeZ_ a3.good a3.calm hk hf hn (ap0_ nm) b2
  have st5:=ZQ_ S3 zf_ (js_ nm) nm
  have h4:phT 4 (tkN zf_ nm data true 4 true) S3=⟨true,0,tkN zf_ nm data true 4 false,(jc_ S3 zf_ (js_ nm) nm).1⟩:=by
   show PhR.mk true (jc_ S3 zf_ (js_ nm) nm).2 {tkN zf_ nm data true 4 true with made:=true&& (jc_ S3 zf_ (js_ nm) nm).2 !=0} _=_
   rw[c1];rfl
  have u5:=XE_ a3.ok a3.uniq st5
  refine⟨0,(jc_ S3 zf_ (js_ nm) nm).1, ?_,a3.step st5,(Zh_ st5).trans m3,fun x hx hx2=>(other a3 st5 x hx2 fun _=>hx).trans ((o3 x hx2).trans ((o2 x hx2).trans (o1 x hx2))),by omega,c3, .inl ⟨rfl,c2⟩⟩
  rw[hp,XD_ (t':=tkN zf_ nm data true 3 true) h2 b1 rfl rfl]
  show phG 3 _ S3=_
  rw[XD_ (t':=tkN zf_ nm data true 4 true) h3 rfl rfl rfl,arJ_ h4 rfl rfl]
theorem aew_ {S:DiskL} (h:FulS S) {nm d:List UInt8} (hn:q7_ nm=true) (hv:qc_ S 0 nm=some d):
  (q0_ S zf_ nm).2=0∧(zR_ (q0_ S zf_ nm).1 zf_).2=0∧FulS (zR_ (q0_ S zf_ nm).1 zf_).1∧(∀x,qc_ (zR_ (q0_ S zf_ nm).1 zf_).1 0 x=qc_ S 0 x)∧(zR_ (q0_ S zf_ nm).1 zf_).1.dir 0=⟨(S.dir 0).seen,(S.dir 0).seen,[]⟩∧ ∃n,KeepS (zR_ (q0_ S zf_ nm).1 zf_).1 0 nm n d:=by
 have hk:zN_ zf_=some 0:=rfl
 have st1:=QO_ S zf_ nm []
 have a1:=h.step st1
 have st2:=kQ_ (q0_ S zf_ nm).1 zf_ [] []
 obtain⟨s1,s2⟩:=ala_ h.good h.calm hk hn hv
 obtain⟨d1,d2⟩:=aed_ a1.calm hk
 obtain⟨n,hfn,hdn⟩:=vB_ hv
 have hnl:=h.good.lt 0 (by decide) _ (zW_ hfn)
 have h0:qU_ S zf_ [nm]=0:=by rw[ji_ h.calm hk,if_neg (by simp[hn])]
 have e1: (q0_ S zf_ nm).1=xq_ S n ⟨(zq_ S n).data,(zq_ S n).data.length⟩:=by
  unfold q0_
  rw[if_neg (by rw[h0];simp),ae5_ hk,hfn]
  simp only
  rw[jU_ h.calm,if_neg (by simp)]
 have e2: (zR_ (q0_ S zf_ nm).1 zf_).1=Z1_ (q0_ S zf_ nm).1 0:=by
  have h1:qU_ (q0_ S zf_ nm).1 zf_ []=0:=by rw[ji_ a1.calm hk,if_neg (by simp)]
  unfold zR_
  rw[if_neg (by rw[h1];simp),jU_ a1.calm,if_neg (by simp),hk]
  rfl
 refine⟨s1,d1,a1.step st2,fun x=>(d2 0 x).trans ?_,by rw[e2,e1];rfl,n, ?_⟩
 ·by_cases hx:x=nm
  ·rw[hx,s2,hv]
  ·exact K6_ h.good st1 (by decide) fun _=>⟨hx,fun e=>absurd e (by decide)⟩
 ·have hf:zq_ (xq_ S n ⟨(zq_ S n).data,(zq_ S n).data.length⟩) n=⟨(zq_ S n).data,(zq_ S n).data.length⟩:=by rw[kE_ _ _ hnl,if_pos rfl]
  rw[e2,e1]
  refine⟨?_, ?_, ?_, ?_,fun c hc=>by cases hc⟩
  ·show n< (xq_ S n _).files.length
   unfold xq_
   simpa using hnl
  ·show(zq_ (xq_ S n _) n).data=d
   rw[hf];exact hdn
  ·show(zq_ (xq_ S n _) n).stl=(zq_ (xq_ S n _) n).data.length
   rw[hf]
  ·show zB_ (S.dir 0).seen nm=some n
   exact hfn
end Go.Proofs
end
section
open Go Go.Proofs Go.Sx Go.Dig
namespace Go.Proofs
set_option maxRecDepth 10000
set_option maxHeartbeats 4000000
set_option linter.unusedSimpArgs false
set_option linter.defProp false
def z9_:=And.intro (And.intro (@zp_) (@zo_)) (And.intro (@Sx.tup2_0) (@Sx.tup2_1))
theorem adO_ (b:UInt8) (w:World):Rets Tryz.prog 157 #[v8 b] w (fun v D=>v=vi (jM_ b)∧D= []):=by
 refine Rets.enterV Tryz.func157 rfl (rs:= [.tmp 2]) Tryz.results157 Tryz.ntmps157 ?_
 refine kf ?_
 first|with_reducible refine ks [] @z9_ ?_|refine kp @z9_ ?_
 refine Cw.loopG (G:=Nat) [5,6,3,7,8,9,10,11,2,12,4] (fun g=> [(4,vi g)]) (fun g=> []) (fun g=>g≤16∧ ∀i,i<g→hexL.getD i 0≠b) (fun g=>16 - g) 0 rfl rfl ?_ ?_
 ·exact⟨by omega,by omega⟩
 intro g j hg
 refine kv ?_
 obtain⟨hg,hne⟩:=hg
 by_cases hlt:g<16
 ·cases hb: (hexL.getD g 0==b)
  ·have hb':=hb
   simp only[hexL] at hb'
   first|with_reducible refine ks [] (And.intro @z9_ @hb') ?_|refine kp (And.intro @z9_ @hb') ?_
   refine Again.mk (g+1) (by omega) ⟨by omega, ?_⟩ rfl rfl
   intro i hi
   by_cases he:i=g
   ·subst he;simpa using hb
   ·exact hne i (by omega)
  ·have hb':=hb
   simp only[hexL] at hb'
   first|with_reducible refine ks [] (And.intro @z9_ @hb') ?_|refine kp (And.intro @z9_ @hb') ?_
   exact⟨_,rfl,trivial,by rw[aru_ b g hlt hb];rfl⟩
 ·first|with_reducible refine ks [] @z9_ ?_|refine kp @z9_ ?_
  exact⟨_,rfl,trivial,by rw[arg_ b (fun i hi=>hne i (by omega))];rfl⟩
theorem ai7_ (l:List UInt8) (w:World):Rets Tryz.prog 114 #[vs l] w (fun v D=>v= .tuple #[.agg (a8 (w0_ l)), .bool (Xk_ l)]∧D= []):=by
 refine Rets.enterV Tryz.func114 rfl (rs:= [.cell 2 84, .tmp 3]) Tryz.results114 Tryz.ntmps114 ?_
 refine kf ?_
 first|with_reducible refine ks [] @z9_ ?_|refine kp @z9_ ?_
 refine Ow.alloc rfl rfl Tryz.zr84 fun b1 _ hw1=> ?_
 refine ko @z9_ ?_
 first|with_reducible refine ks [] @z9_ ?_|refine kp @z9_ ?_
 refine Ow.alloc rfl rfl Tryz.zr84 fun b2 hb2 hw2=> ?_
 obtain⟨h12,-⟩:=hb2
 refine ko @z9_ ?_
 by_cases h64:l.length=64
 ·first|with_reducible refine ks [] @z9_ ?_|refine kp @z9_ ?_
  refine Cw.loopG (G:=Nat) [13,14,5,15,16,17,18,19,20,21,22,23,24,25,6,7,26,27,28,29,30,31,32,3,33,34,35,36,37,38,39,40,12] (fun g=> [(12,vi g),(3, .bool false)]) (fun g=> [(b1, .cells (a8 (List.replicate 32 0)) 84),(b2, .cells (a8 (k2_ l g)) 84)]) (fun g=>g≤32∧ ∀i,i<2*g→0≤jM_ (l.getD i 0)) (fun g=>32 - g) 0 rfl rfl ?_ ?_
  ·exact⟨by omega,by omega⟩
  intro g j hg
  refine kv ?_
  obtain⟨hg,hd⟩:=hg
  have hlen:=XY_ l g hg
  by_cases hlt:g<32
  ·have d1:=acS_ (l.getD (2*g) 0)
   have d2:=acS_ (l.getD (2*g+1) 0)
   first|with_reducible refine ks [] @z9_ ?_|refine kp @z9_ ?_
   refine Cw.regionO [0,1,2,3,5,6,7,8,9,4,10,11,12] [] rfl (by kernel_rfl) (by kernel_rfl) ?_
   simp only[zl_, ↓zg_, ↓zc_, ↓zx_, ↓zw_,zd_]
   refine kq @z9_ ?_
   refine Ow.callFV rfl Tryz.call157 (fun w' _=>adO_ _ w') ?_
   refine kq @z9_ ?_
   refine Ow.callFV rfl Tryz.call157 (fun w' _=>adO_ _ w') ?_
   refine kq @z9_ ?_
   by_cases hn1:jM_ (l.getD (2*g) 0)<0
   ·have e1:=decide_eq_true hn1
    first|with_reducible refine ks [] (And.intro @z9_ @e1) ?_|refine kp (And.intro @z9_ @e1) ?_
    refine Ow.build (.agg (a8 (List.replicate 32 0))) rfl (by kernel_rfl) ?_
    refine ko @z9_ ?_
    first|with_reducible refine ks [] @z9_ ?_|refine kp @z9_ ?_
    have ho:=ag8_ l (2*g) h64 (by omega) hn1
    refine⟨_,(ke @z9_),⟨hw1,hw2,trivial⟩, ?_⟩
    rw[w0_,ho];rfl
   ·have e1:=decide_eq_false hn1
    by_cases hn2:jM_ (l.getD (2*g+1) 0)<0
    ·have e2:=decide_eq_true hn2
     first|with_reducible refine ks [] (And.intro @z9_ (And.intro @e1 (@e2))) ?_|refine kp (And.intro @z9_ (And.intro @e1 (@e2))) ?_
     refine Ow.build (.agg (a8 (List.replicate 32 0))) rfl (by kernel_rfl) ?_
     refine ko @z9_ ?_
     first|with_reducible refine ks [] @z9_ ?_|refine kp @z9_ ?_
     have ho:=ag8_ l (2*g+1) h64 (by omega) hn2
     refine⟨_,(ke @z9_),⟨hw1,hw2,trivial⟩, ?_⟩
     rw[w0_,ho];rfl
    ·have e2:=decide_eq_false hn2
     have hb:=nib (jM_ (l.getD (2*g) 0)) (jM_ (l.getD (2*g+1) 0)) (by omega) (by omega) (by omega)
     first|with_reducible refine ks [] (And.intro @z9_ (And.intro @e1 (And.intro @e2 (@hb)))) ?_|refine kp (And.intro @z9_ (And.intro @e1 (And.intro @e2 (@hb)))) ?_
     refine Again.mk (g+1) (by omega) ⟨by omega, ?_⟩ ?_ rfl
     ·intro i hi
      rcases Nat.lt_or_ge i (2*g) with h|h
      ·exact hd i h
      ·rcases Nat.eq_or_lt_of_le h with h|h
       ·rw[←h];omega
       ·have:i=2*g+1:=by omega
        rw[this];omega
     ·exact congrArg (fun z=> [(b1,Obj.cells (a8 (List.replicate 32 0)) 84),(b2,Obj.cells (a8 z) 84)]) (aaN_ l g hlt _ rfl)
  ·have hg32:g=32:=by omega
   subst hg32
   first|with_reducible refine ks [] @z9_ ?_|refine kp @z9_ ?_
   have ho:=abK_ l h64 (fun i hi=>hd i (by omega))
   refine⟨_,(ke @z9_),⟨hw1,hw2,trivial⟩, ?_⟩
   rw[w0_,ho];show Value.tuple #[.agg (a8 (k2_ l 32)),_]=_;simp[k2_]
 ·first|with_reducible refine ks [] @z9_ ?_|refine kp @z9_ ?_
  refine⟨_,(ke @z9_),⟨hw1,hw2,trivial⟩, ?_⟩
  rw[adK_ l h64,w0_,adK_ l h64];rfl
def cutV (s p:List UInt8):List UInt8×Bool:=if(decide (p.length≤s.length)&& (s.take p.length==p))=true then(s.drop p.length,true) else(s,false)
theorem abS_ (s p:List UInt8) (w:World) (hs:s.length<1099511627776):Rets Tryz.prog 137 #[vs s,vs p] w (fun v D=>v= .tuple #[vs (cutV s p).1, .bool (cutV s p).2]∧D= []):=by
 refine Rets.enterV Tryz.func137 rfl (rs:= [.tmp 4, .tmp 5]) Tryz.results137 Tryz.ntmps137 ?_
 refine kf ?_
 first|with_reducible refine ks [] @z9_ ?_|refine kp @z9_ ?_
 refine Ow.callFV rfl Tryz.call174 (fun w' hw'=>aar_ s p w' hs) ?_
 refine ko @z9_ ?_
 unfold cutV
 cases h: (decide (p.length≤s.length)&& (s.take p.length==p))
 ·first|with_reducible refine ks [] @z9_ ?_|refine kp @z9_ ?_
  refine⟨_,(ke @z9_),trivial, ?_⟩
  rfl
 ·have hle:p.length≤s.length:=by
   rw[Bool.and_eq_true,decide_eq_true_eq] at h;exact h.1
  first|with_reducible refine ks [] @z9_ ?_|refine kp @z9_ ?_
  refine⟨_,(ke @z9_),trivial, ?_⟩
  rfl
theorem afs_ (s p:List UInt8) (w:World) (hs:s.length<1099511627776):Rets Tryz.prog 102 #[vs s,vs p] w (fun v D=>v= .tuple #[vs (cutV s p).1, .bool (cutV s p).2]∧D= []):=by
 refine Rets.enterV Tryz.func102 rfl (rs:= [.tmp 4, .tmp 5]) Tryz.results102 Tryz.ntmps102 ?_
 refine kf ?_
 first|with_reducible refine ks [] @z9_ ?_|refine kp @z9_ ?_
 refine Ow.callFV rfl Tryz.call137 (fun w' hw'=>abS_ s p w' hs) ?_
 refine Ow.go rfl ?_
 simp(disch:=(first|assumption|omega| (simp only[kK_,kw_,UInt64.reduceToNat];try omega))) only[↓Sx.S0,Sx.S1,Tryz.fx,z9_,Nat.reduceAdd,Nat.reducePow,Int.reducePow,Nat.reduceBEq, ↓reduceIte,UInt8.reduceToNat,UInt16.reduceToNat,UInt32.reduceToNat,UInt64.reduceToNat,Int.reduceToNat,Sx.tup2_0,Sx.tup2_1]
 first|with_reducible refine ks [] @z9_ ?_|refine kp @z9_ ?_
 refine⟨_,(ke @z9_),trivial, ?_⟩
 rfl
end Go.Proofs
end
section
open Go Go.Proofs Go.Sx Go.Dig
namespace Go.Proofs
set_option maxRecDepth 10000
set_option maxHeartbeats 1000000
set_option linter.unusedSimpArgs false
set_option linter.defProp false
def aaX_:=And.intro (And.intro (@zp_) (@zo_)) (And.intro (@Sx.tup2_0) (@Sx.tup2_1))
theorem XB_ {w:World} (h:GlobC w): (2:Nat)<w.heap.size:=by
 obtain⟨e,f,h⟩:=h
 exact(Array.getElem?_eq_some_iff.1 h).1
def Je_ (k:Int) (t:List UInt8):List UInt8:=Qr_ (83::76::79::49::qw_ k t)
theorem j9_ (id:List UInt8) (hid:id.length=32) (w:World):Rets Tryz.prog 52 #[.agg (a8 id)] w (fun v D=>v=vs (zU_ id)∧D= []):=by
 refine Rets.enterV Tryz.func52 rfl (rs:= [.tmp 2]) Tryz.results52 Tryz.ntmps52 ?_
 refine kf ?_
 first|with_reducible refine ks [] @aaX_ ?_|refine kp @aaX_ ?_
 refine Ow.box rfl rfl fun b1 hb1 hw1=> ?_
 refine ko @aaX_ ?_
 first|with_reducible refine ks [] @aaX_ ?_|refine kp @aaX_ ?_
 refine Ow.callFV rfl Tryz.call107 (fun w' hw'=>apI_ id hid w') ?_
 refine ko @aaX_ ?_
 first|with_reducible refine ks [] @aaX_ ?_|refine kp @aaX_ ?_
 refine⟨_,(ke @aaX_),⟨hw1,trivial⟩, ?_⟩
 rfl
set_option linter.defProp false
def Zy_:=And.intro (And.intro (And.intro (@zp_) (@zo_)) (And.intro (@Sx.tup2_0) (And.intro (@Sx.tup2_1) (@jo_)))) (And.intro (And.intro (@qF_) (@qE_)) (And.intro (@qD_) (And.intro (@adX_) (@adS_))))
theorem aeh_ (k:Int) (t:List UInt8) (w:World) (hG:GlobC w):Rets Tryz.prog 49 #[obV k t] w (XS w [] (fun v _=>v=if xH_ k t then .tuple #[vs (Je_ k t),vi 0] else .tuple #[vs [],vi 1])):=by
 refine Rets.enterX Tryz.func49 rfl (rs:= [.tmp 2, .tmp 3]) Tryz.results49 Tryz.ntmps49 (fun p hp=>by cases hp) (by simp[keys]) ?_
 refine kf ?_
 first|with_reducible refine ks [] @Zy_ ?_|refine kp @Zy_ ?_
 refine Ow.box rfl rfl fun b1 hb1 hw1=> ?_
 simp only[zY_,zV_,zX_,za_,List.nil_append]
 refine ko @Zy_ ?_
 first|with_reducible refine ks [] @Zy_ ?_|refine kp @Zy_ ?_
 refine Ow.callC rfl rfl Tryz.call99 (fun w' hw'=>X3_ k t w') (fun B2 v2 D2 hA2 hB2 hN2 hS2=> ?_)
 have hN2':New w.heap.size ((b1,Obj.cells #[vi k,vs t] 82 (0,0))::D2):=⟨hw1,hN2.mono hB2⟩
 cases hr:xH_ k t
 ·rw[hr,if_neg (by simp)] at hS2
  subst hS2
  have h1: ((1:Int) !=0)=true:=rfl
  refine ko (And.intro @Zy_ @h1) ?_
  first|with_reducible refine ks [] (And.intro @Zy_ @h1) ?_|refine kp (And.intro @Zy_ @h1) ?_
  refine⟨_,(ke @Zy_), ?_⟩
  exact⟨Ext.of_new hN2',rfl⟩
 ·rw[hr,if_pos rfl] at hS2
  subst hS2
  obtain⟨hk1,hk3,htl⟩:=JU_ hr
  have hfl:=K5_ hr
  have hsl: (83::76::79::49::qw_ k t).length<1099511627776:=by simp only[List.length_cons];omega
  have h1: ((0:Int) !=0)=false:=rfl
  refine ko (And.intro @Zy_ @h1) ?_
  first|with_reducible refine ks [] (And.intro @Zy_ @h1) ?_|refine kp (And.intro @Zy_ @h1) ?_
  refine Ow.callFV rfl Tryz.call100 (fun w' hw'=>WL_ (83::76::79::49::qw_ k t) w' (hG.of hw' (hN2'.not (XB_ hG))) hsl) ?_
  refine ko @Zy_ ?_
  first|with_reducible refine ks [] @Zy_ ?_|refine kp @Zy_ ?_
  refine⟨_,(ke @Zy_), ?_⟩
  exact⟨Ext.of_new hN2',rfl⟩
end Go.Proofs
end
section
open Go Go.Proofs Go.Sx Go.Dig
namespace Go.Proofs
set_option maxRecDepth 10000
set_option maxHeartbeats 1000000
set_option linter.unusedSimpArgs false
def looS (b:List UInt8):List UInt8:=(cutV (z1_ b).1 [83,76,79,49]).1
def wm_ (name b:List UInt8):Bool:=(z1_ b).2&& (cutV (z1_ b).1 [83,76,79,49]).2&&Jd_ (looS b)&& (zU_ (idV (frK (looS b)) (frT (looS b)).1).l==name)
def looK (name b:List UInt8):Int:=if wm_ name b then frK (looS b) else 0
def looT (name b:List UInt8):List UInt8:=if wm_ name b then(frT (looS b)).1 else []
theorem apF_ (b:List UInt8): (looS b).length≤b.length:=by
 unfold looS cutV z1_
 split<;>split<;>(try split)<;>simp<;>omega
set_option linter.defProp false
def qL_:=And.intro (And.intro (And.intro (@jo_) (@qF_)) (And.intro (@qE_) (@qD_))) (And.intro (And.intro (@Sx.tup2_0) (@Sx.tup2_1)) (And.intro (@zp_) (@zo_)))
theorem aga_ (name b:List UInt8) (w:World) (hG:GlobC w) (hE:GlobE w) (hb:b.length<1099511627776):Rets Tryz.prog 50 #[vs name,vs b] w (fun v D=>v= .tuple #[obV (looK name b) (looT name b), .bool (wm_ name b)]∧D= []):=by
 have hul: (z1_ b).1.length≤b.length:=by
  unfold z1_
  split
  ·simp
  ·split<;>simp
 have hsl:=apF_ b
 refine Rets.enterV Tryz.func50 rfl (rs:= [.cell 4 82, .tmp 5]) Tryz.results50 Tryz.ntmps50 ?_
 refine kf ?_
 first|with_reducible refine ks [] @qL_ ?_|refine kp @qL_ ?_
 refine Ow.alloc rfl rfl ZN_ fun b4 hb4 hw4=> ?_
 simp only[za_,List.nil_append,List.cons_append]
 refine ko @qL_ ?_
 first|with_reducible refine ks [] @qL_ ?_|refine kp @qL_ ?_
 have hN4:New w.heap.size [(b4,Obj.cells #[vi 0,vs []] 82 (0,0))]:=⟨hw4,trivial⟩
 refine Ow.callFV rfl Tryz.call101 (fun w' hw'=>acz_ b w' (hG.of hw' (hN4.not (XB_ hG))) (by omega)) ?_
 obtain⟨us,hus⟩: ∃us,(z1_ b).1=us:=⟨_,rfl⟩
 obtain⟨u2,hu2⟩: ∃u2,(z1_ b).2=u2:=⟨_,rfl⟩
 rw[hus,hu2]
 rw[hus] at hul
 refine ko @qL_ ?_
 first|with_reducible refine ks [] @qL_ ?_|refine kp @qL_ ?_
 refine Ow.callFV rfl Tryz.call102 (fun w' hw'=>afs_ us [83,76,79,49] w' (by omega)) ?_
 obtain⟨cs,hcs⟩: ∃cs,(cutV us [83,76,79,49]).1=cs:=⟨_,rfl⟩
 obtain⟨c2,hc2⟩: ∃c2,(cutV us [83,76,79,49]).2=c2:=⟨_,rfl⟩
 have hlc:looS b=cs:=by unfold looS;rw[hus,hcs]
 rw[hcs,hc2]
 rw[hlc] at hsl
 refine ko @qL_ ?_
 first|with_reducible refine ks [] @qL_ ?_|refine kp @qL_ ?_
 refine Ow.callFV rfl Tryz.call103 (fun w' hw'=>aiD_ cs w' (by omega)) ?_
 obtain⟨K,hK⟩: ∃K,(if Jd_ cs=true then frK cs else 0)=K:=⟨_,rfl⟩
 obtain⟨T,hT⟩: ∃T,(if Jd_ cs=true then(frT cs).1 else [])=T:=⟨_,rfl⟩
 rw[hK,hT]
 refine ko @qL_ ?_
 refine Ow.alloc rfl rfl ZN_ fun b10 hb10 hw10=> ?_
 simp only[za_,List.nil_append,List.cons_append]
 have h410:b4<b10:=zi_ hb10 (by simp[keys])
 refine ko @qL_ ?_
 first|with_reducible refine ks [] @qL_ ?_|refine kp @qL_ ?_
 have hNA:New w.heap.size [(b4,Obj.cells #[vi 0,vs []] 82 (0,0)),(b10,Obj.cells #[vi K,vs T] 82 (0,0))]:=⟨hw4,hw10,trivial⟩
 refine Ow.callFV rfl Tryz.call104 (fun w' hw'=>ahO_ K T w' (hE.new hw' hNA)) ?_
 refine ko @qL_ ?_
 refine Ow.alloc rfl rfl vO_ fun b12 hb12 hw12=> ?_
 simp only[za_,List.nil_append,List.cons_append]
 have h412:b4<b12:=zi_ hb12 (by simp[keys])
 have h1012:b10<b12:=zi_ hb12 (by simp[keys])
 have hil:=(idV K T).h
 have hi0:=id0.h
 refine ko @qL_ ?_
 have hzb:q5_ (vc_ Tryz.prog 82) (zM_ Tryz.prog 82) []=some (obV 0 []):=id (by kernel_rfl)
 have hNB:New w.heap.size [(b4,Obj.cells #[vi 0,vs []] 82 (0,0)),(b10,Obj.cells #[vi K,vs T] 82 (0,0)),(b12,Obj.cells (a8 (idV K T).l) 84 (0,0))]:=⟨hw4,hw10,hw12,trivial⟩
 have e0: ((0:Int) !=0)=false:=rfl
 have e2: ((2:Int) !=0)=true:=rfl
 have hO:wm_ name b=(u2&&c2&&Jd_ cs&& (zU_ (idV (frK cs) (frT cs).1).l==name)):=by
  unfold wm_
  rw[hu2,hus,hc2,hlc]
 cases u2 with
 |false=>
  have hlo:wm_ name b=false:=by rw[hO];rfl
  ((try with_reducible refine Cw.go [] ?_);(try simp(disch:=(first|assumption|omega| (simp only[kK_,kw_,UInt64.reduceToNat];try omega))) only[↓Sx.S0,Sx.S1,Tryz.fx,qL_,Nat.reduceAdd,Nat.reducePow,Int.reducePow,Nat.reduceBEq, ↓reduceIte,UInt8.reduceToNat,UInt16.reduceToNat,UInt32.reduceToNat,UInt64.reduceToNat,Int.reduceToNat,Bool.not_false,Bool.not_true,e0]))
  refine Ow.build _ rfl hzb ?_
  refine ko @qL_ ?_
  first|with_reducible refine ks [] @qL_ ?_|refine kp @qL_ ?_
  refine⟨_,(ke @qL_),hNB, ?_⟩
  rw[looK,looT,hlo];rfl
 |true=>
  cases c2 with
  |false=>
   have hlo:wm_ name b=false:=by rw[hO];rfl
   ((try with_reducible refine Cw.go [] ?_);(try simp(disch:=(first|assumption|omega| (simp only[kK_,kw_,UInt64.reduceToNat];try omega))) only[↓Sx.S0,Sx.S1,Tryz.fx,qL_,Nat.reduceAdd,Nat.reducePow,Int.reducePow,Nat.reduceBEq, ↓reduceIte,UInt8.reduceToNat,UInt16.reduceToNat,UInt32.reduceToNat,UInt64.reduceToNat,Int.reduceToNat,Bool.not_false,Bool.not_true,e0]))
   refine Ow.build _ rfl hzb ?_
   refine ko @qL_ ?_
   first|with_reducible refine ks [] @qL_ ?_|refine kp @qL_ ?_
   refine⟨_,(ke @qL_),hNB, ?_⟩
   rw[looK,looT,hlo];rfl
  |true=>
   cases hf:Jd_ cs with
   |false=>
    have hlo:wm_ name b=false:=by rw[hO,hf];rfl
    rw[show(if(false:Bool)=true then(0:Int) else 2)=2 from rfl]
    ((try with_reducible refine Cw.go [] ?_);(try simp(disch:=(first|assumption|omega| (simp only[kK_,kw_,UInt64.reduceToNat];try omega))) only[↓Sx.S0,Sx.S1,Tryz.fx,qL_,Nat.reduceAdd,Nat.reducePow,Int.reducePow,Nat.reduceBEq, ↓reduceIte,UInt8.reduceToNat,UInt16.reduceToNat,UInt32.reduceToNat,UInt64.reduceToNat,Int.reduceToNat,Bool.not_false,Bool.not_true,e2]))
    refine Ow.build _ rfl hzb ?_
    refine ko @qL_ ?_
    first|with_reducible refine ks [] @qL_ ?_|refine kp @qL_ ?_
    refine⟨_,(ke @qL_),hNB, ?_⟩
    rw[looK,looT,hlo];rfl
   |true=>
    rw[show(if(true:Bool)=true then(0:Int) else 2)=0 from rfl]
    rw[hf,if_pos rfl] at hK hT
    have hr:xH_ K T=true:=by
     rw[←hK,←hT]
     unfold Jd_ at hf
     rw[Bool.and_eq_true] at hf
     exact hf.2
    rw[hr]
    rw[hf,hK,hT,Bool.true_and,Bool.true_and,Bool.true_and] at hO
    ((try with_reducible refine Cw.go [] ?_);(try simp(disch:=(first|assumption|omega| (simp only[kK_,kw_,UInt64.reduceToNat];try omega))) only[↓Sx.S0,Sx.S1,Tryz.fx,qL_,Nat.reduceAdd,Nat.reducePow,Int.reducePow,Nat.reduceBEq, ↓reduceIte,UInt8.reduceToNat,UInt16.reduceToNat,UInt32.reduceToNat,UInt64.reduceToNat,Int.reduceToNat,Bool.not_false,Bool.not_true,e0]))
    refine Ow.callFV rfl Tryz.call52 (fun w' hw'=>j9_ (idV K T).l hil w') ?_
    cases hq: (zU_ (idV K T).l==name) with
    |false=>
     have hq2: (zU_ (idV K T).l !=name)=true:=by simp[bne,hq]
     have hlo:wm_ name b=false:=by rw[hO,hq]
     refine ko (And.intro @qL_ @hq2) ?_
     first|with_reducible refine ks [] @qL_ ?_|refine kp @qL_ ?_
     refine Ow.build _ rfl hzb ?_
     refine ko @qL_ ?_
     first|with_reducible refine ks [] @qL_ ?_|refine kp @qL_ ?_
     refine⟨_,(ke @qL_),hNB, ?_⟩
     rw[looK,looT,hlo];rfl
    |true=>
     have hq2: (zU_ (idV K T).l !=name)=false:=by simp[bne,hq]
     have hlo:wm_ name b=true:=by rw[hO,hq]
     refine ko (And.intro @qL_ @hq2) ?_
     first|with_reducible refine ks [] @qL_ ?_|refine kp @qL_ ?_
     refine⟨_,(ke @qL_),hNB, ?_⟩
     rw[looK,looT,hlo,if_pos rfl,if_pos rfl,hlc,hK,hT];rfl
end Go.Proofs
end
namespace Go.Dig
open Go.Sx
theorem aid_ (id:List UInt8) (i:Nat) (h:i<id.length): (zU_ id).getD (2*i) 0=hexD ((id.getD i 0).toNat / 16)∧(zU_ id).getD (2*i+1) 0=hexD ((id.getD i 0).toNat%16):=by
 induction id generalizing i with
 |nil=>cases h
 |cons b r ih=>
  have e:zU_ (b::r)=hexD (b.toNat / 16)::hexD (b.toNat%16)::zU_ r:=rfl
  rw[e]
  cases i with
  |zero=>exact⟨rfl,rfl⟩
  |succ i=>
   have:=ih i (by simpa using h)
   rw[show 2* (i+1)=2*i+1+1 from by omega]
   simpa using this
theorem vN_ (n:Nat) (h:n<16):jM_ (hexD n)=n:=by
 have: ∀i:Fin 16,jM_ (hexD i.val)=(i.val:Int):=by decide+kernel
 exact this ⟨n,h⟩
theorem WH_ (id:List UInt8) (h:id.length=32):Xk_ (zU_ id)=true:=by
 apply abK_ _ (by rw[qo_,h])
 intro i hi
 have hb:=(id.getD (i / 2) 0).toNat_lt
 have:=aid_ id (i / 2) (by omega)
 rcases Nat.mod_two_eq_zero_or_one i with h2|h2
 ·rw[show i=2* (i / 2) by omega,this.1,vN_ _ (by omega)];omega
 ·rw[show i=2* (i / 2)+1 by omega,this.2,vN_ _ (by omega)];omega
theorem ajI_ (b:UInt8):UInt8.ofInt (((b.toNat / 16:Nat):Int)*16+ ((b.toNat%16:Nat):Int))=b:=by
 apply UInt8.toNat.inj
 have hb:=b.toNat_lt
 rw[show∀n:Int,UInt8.ofInt n=UInt8.ofNat (n%2^8).toNat from fun _=>rfl,UInt8.toNat_ofNat']
 omega
theorem ZU_ (id:List UInt8) (h:id.length=32):w0_ (zU_ id)=id:=by
 unfold w0_
 rw[WH_ id h,if_pos rfl]
 apply List.ext_getElem
 ·simp[ZK_,h]
 intro i h1 h2
 have hi:i<32:=by omega
 have:=aid_ id i (by omega)
 have hb:=(id.getD i 0).toNat_lt
 simp only[ZK_,List.getElem_map,List.getElem_range]
 rw[this.1,this.2,vN_ _ (by omega),vN_ _ (by omega),ajI_]
 simp[List.getD_eq_getElem?_getD,h,hi]
theorem aaz_ (l:List UInt8): (w0_ l).length=32:=by
 unfold w0_;split<;>simp[ZK_]
end Go.Dig
section
open Go Go.Proofs Go.Sx Go.StP Go.Dig
namespace Go.Proofs
set_option maxRecDepth 10000
set_option maxHeartbeats 1000000
set_option linter.unusedSimpArgs false
theorem ahQ_: ∀n:Fin 16,Jm_ (hexD n.val)=false:=by decide+kernel
theorem aoc_ (id:List UInt8): (zU_ id).any Jm_=false:=by
 rw[List.any_eq_false]
 intro c hc
 obtain⟨b,-,hb⟩:=List.mem_flatMap.1 hc
 have hlt:=b.toNat_lt
 unfold hexB at hb
 rcases List.mem_cons.1 hb with rfl|hb
 ·simpa using ahQ_ ⟨b.toNat / 16,by omega⟩
 ·rw[List.mem_singleton.1 hb]
  simpa using ahQ_ ⟨b.toNat%16,by omega⟩
theorem kV_ (x:IdL):q7_ (zU_ x.l)=true∧q7_ (js_ (zU_ x.l))=true:=by
 have hl: (zU_ x.l).length=64:=by rw[qo_,x.h]
 have hb:=aoc_ x.l
 have hn: ∀s:List UInt8,64≤s.length→(s== [])=false:=fun s h=>by
  cases s with
  |nil=>simp at h
  |cons a t=>rfl
 unfold q7_ js_
 rw[hn _ (by omega),hn _ (by rw[List.length_append];omega),List.any_append,hb,List.length_append,hl]
 exact⟨rfl,rfl⟩
theorem akQ_ {x y:IdL} (h:x.l=y.l):x=y:=by cases x;cases y;cases h;rfl
theorem afj_ {x y:IdL} (h:zU_ x.l=zU_ y.l):x=y:=akQ_ (by rw[←ZU_ x.l x.h,h,ZU_ y.l y.h])
theorem ak6_ (x y:IdL):zU_ x.l≠js_ (zU_ y.l):=fun h=>by
 have:=congrArg List.length h
 unfold js_ at this
 rw[List.length_append,qo_,qo_,x.h,y.h] at this
 simp at this
theorem acL_ (s:List UInt8):z1_ (Qr_ s)=(s,true):=by
 have hl:=K2_ s
 have ht: (Qr_ s).take ((Qr_ s).length - 4)=s:=by rw[hl,Nat.add_sub_cancel];unfold Qr_;rw[List.take_left]
 unfold z1_
 rw[if_neg (by omega),ht,if_pos rfl]
theorem anr_ {k:Int} (h:1≤k∧k≤3): ∃c,wW_ k= [c]∧Lib.indexByte letL c=k:=by
 rcases(show k=1∨k=2∨k=3 by omega) with rfl|rfl|rfl
 ·exact⟨98,rfl,rfl⟩
 ·exact⟨116,rfl,rfl⟩
 ·exact⟨99,rfl,rfl⟩
theorem agV_ {k:Int} {t:List UInt8} (h:xH_ k t=true):Jd_ (qw_ k t)=true∧frK (qw_ k t)=k∧(frT (qw_ k t)).1=t:=by
 obtain⟨h1,h2,h3⟩:=JU_ h
 obtain⟨c,hc,hi⟩:=anr_ ⟨h1,h2⟩
 have e:qw_ k t=c::xg_ t:=by unfold qw_;rw[hc];rfl
 have hk:frK (c::xg_ t)=k:=by
  have:frK (c::xg_ t)=Lib.indexByte letL c:=by unfold frK;rw[aaP_];rfl
  rw[this,hi]
 have ht:=ajt_ [] t [] 4096 (by omega) (by omega)
 rw[List.nil_append,List.append_nil,List.length_nil,Nat.zero_add] at ht
 have hl:lfT (xg_ t)=(t,(xg_ t).length,0):=ht
 rw[e]
 refine⟨?_,hk, ?_⟩
 ·unfold Jd_
  rw[hk,Xx_,adE_,hl]
  simp[xA_,h]
 ·rw[Xx_,hl]
theorem ams_ (s:List UInt8):cutV (83::76::79::49::s) [83,76,79,49]=(s,true):=by
 unfold cutV
 rw[if_pos (by simp)]
 rfl
theorem aqn_ (k:Int) (t:List UInt8): (z1_ (Je_ k t))=(83::76::79::49::qw_ k t,true)∧looS (Je_ k t)=qw_ k t:=by
 have h1:=acL_ (83::76::79::49::qw_ k t)
 refine⟨h1, ?_⟩
 unfold looS Je_
 rw[h1,ams_]
theorem anF_ {k:Int} {t:List UInt8} (h:xH_ k t=true):wm_ (zU_ (idV k t).l) (Je_ k t)=true∧looK (zU_ (idV k t).l) (Je_ k t)=k∧looT (zU_ (idV k t).l) (Je_ k t)=t:=by
 obtain⟨e1,e2⟩:=aqn_ k t
 obtain⟨f1,f2,f3⟩:=agV_ h
 have ho:wm_ (zU_ (idV k t).l) (Je_ k t)=true:=by
  unfold wm_
  rw[e1,e2,f1,f2,f3,ams_,beq_self_eq_true]
  rfl
 unfold looK looT
 rw[ho,if_pos rfl,if_pos rfl,e2]
 exact⟨rfl,f2,f3⟩
theorem ah4_ {k:Int} {t:List UInt8} (h:xH_ k t=true): (Je_ k t).length≤4200:=by
 obtain⟨h1,h2,h3⟩:=JU_ h
 obtain⟨c,hc,-⟩:=anr_ ⟨h1,h2⟩
 have:=zP_ (t.length:Int)
 unfold Je_ qw_ xg_
 rw[K2_,hc]
 simp only[List.length_cons,List.length_append,List.length_nil]
 omega
structure GotR where
 k:Int
 t:List UInt8
 e:Nat
def Xy_ (S:DiskL) (x:IdL):GotR:=
 if(j8_ S zf_ (zU_ x.l)).2≠0 then⟨0,[],(j8_ S zf_ (zU_ x.l)).2⟩ else if wm_ (zU_ x.l) (j8_ S zf_ (zU_ x.l)).1=true then⟨looK (zU_ x.l) (j8_ S zf_ (zU_ x.l)).1,looT (zU_ x.l) (j8_ S zf_ (zU_ x.l)).1,0⟩ else⟨0,[],17⟩
structure PutR where
 x:IdL
 e:Nat
 S:DiskL
def putL (S:DiskL) (k:Int) (t:List UInt8):PutR:=
 if xH_ k t=false then⟨id0,1,S⟩ else if(Xy_ S (idV k t)).e=0 then⟨idV k t,0,S⟩ else if(pubV S zf_ (zU_ (idV k t).l) (Je_ k t) true).1=0 then⟨idV k t,0,(pubV S zf_ (zU_ (idV k t).l) (Je_ k t) true).2⟩ else⟨id0,(pubV S zf_ (zU_ (idV k t).l) (Je_ k t) true).1,(pubV S zf_ (zU_ (idV k t).l) (Je_ k t) true).2⟩
def hexI (s:List UInt8):IdL:=⟨w0_ s,aaz_ s⟩
def looP (S:DiskL) (s:List UInt8):Bool:=Xk_ s&& (Xy_ S (hexI s)).e==0
def Kn_ (S:DiskL) (l:List (List UInt8)):List IdL:=(l.filter (looP S)).map hexI
def anm_ (S:DiskL):List IdL:=Kn_ S (Xj_ S zf_)
def wo_:List IdL→DiskL→Nat×DiskL
 | [],S=>(0,S)
 |x::l,S=>if(q0_ S zf_ (zU_ x.l)).2≠0∧(q0_ S zf_ (zU_ x.l)).2≠6 then((q0_ S zf_ (zU_ x.l)).2,(q0_ S zf_ (zU_ x.l)).1) else wo_ l (q0_ S zf_ (zU_ x.l)).1
def Qg_ (l:List IdL) (S:DiskL):Nat×DiskL:=
 if(wo_ l S).1≠0 then wo_ l S else if l= [] then(0,(wo_ l S).2) else((zR_ (wo_ l S).2 zf_).2,(zR_ (wo_ l S).2 zf_).1)
theorem al6_ {S:DiskL} {k:Int} {t:List UInt8} (h:xH_ k t=true) (hr:j8_ S zf_ (zU_ (idV k t).l)=(Je_ k t,0)):Xy_ S (idV k t)=⟨k,t,0⟩:=by
 obtain⟨h1,h2,h3⟩:=anF_ h
 unfold Xy_
 rw[hr,if_neg (by simp),if_pos h1,h2,h3]
theorem arw_ {S:DiskL} {x:IdL} (h: (Xy_ S x).e=0): ∃d,j8_ S zf_ (zU_ x.l)=(d,0)∧wm_ (zU_ x.l) d=true∧Xy_ S x=⟨looK (zU_ x.l) d,looT (zU_ x.l) d,0⟩:=by
 unfold Xy_ at h ⊢
 generalize j8_ S zf_ (zU_ x.l)=q at h ⊢
 obtain⟨d,e⟩:=q
 simp only at h ⊢
 by_cases h0:e≠0
 ·rw[if_pos h0] at h
  exact absurd h h0
 ·obtain rfl:e=0:=by simpa using h0
  rw[if_neg h0] at h ⊢
  cases hl:wm_ (zU_ x.l) d with
  |false=>rw[hl,if_neg (by simp)] at h;cases h
  |true=>exact⟨d,rfl,hl,by rw[if_pos rfl]⟩
theorem QE_ {S:DiskL} (hc:vb_ S) (x:IdL):j8_ S zf_ (zU_ x.l)=match qc_ S 0 (zU_ x.l) with|none=>([],6) |some d=>(d,0):=WX_ hc (dir:=zf_) rfl (kV_ x).1
theorem alU_ {S:DiskL} (hc:vb_ S) {x:IdL} {d:List UInt8} (h:j8_ S zf_ (zU_ x.l)=(d,0)):qc_ S 0 (zU_ x.l)=some d:=by
 rw[QE_ hc] at h
 cases hv:qc_ S 0 (zU_ x.l) with
 |none=>rw[hv] at h;cases h
 |some d'=>rw[hv] at h;cases h;rfl
theorem Wt_ {all:List ObL}: ∀ {i:Nat} {had:List ObL},ku_ all i=some had→(∀j,j<i→x8_ (all.getD j ob0).k (all.getD j ob0).t=true→all.getD j ob0∈had)∧(∀p,p∈had→ ∀q,q∈had→(idQ p).l=(idQ q).l→p=q)
 |0,had,h=>by cases h;exact⟨fun j hj=>by omega,fun p hp=>by cases hp⟩
 |i+1,had,h=>by
  unfold ku_ at h
  cases hc:ku_ all i with
  |none=>rw[hc] at h;cases h
  |some had'=>
   obtain⟨h1,h2⟩:=Wt_ hc
   rw[hc] at h
   simp only at h
   split at h
   ·rename_i hr
    split at h
    ·cases h
    ·rename_i hn
     cases h
     have hn': ∀p,p∈had'→(idQ p).l≠ (idQ (all.getD i ob0)).l:=fun p hp e=>hn (List.any_eq_true.2 ⟨p,hp,by simpa using e⟩)
     refine⟨fun j hj hjr=> ?_,fun p hp q hq e=> ?_⟩
     ·by_cases hji:j=i
      ·subst hji;exact List.mem_append_right _ (List.mem_singleton.2 rfl)
      ·exact List.mem_append_left _ (h1 j (by omega) hjr)
     ·rcases List.mem_append.1 hp with hp|hp<;>rcases List.mem_append.1 hq with hq|hq
      ·exact h2 p hp q hq e
      ·rw[List.mem_singleton.1 hq] at e
       exact absurd e (hn' p hp)
      ·rw[List.mem_singleton.1 hp] at e
       exact absurd e.symm (hn' q hq)
      ·rw[List.mem_singleton.1 hp,List.mem_singleton.1 hq]
   ·rename_i hr
    cases h
    refine⟨fun j hj hjr=> ?_,h2⟩
    by_cases hji:j=i
    ·subst hji
     exact Classical.byContradiction fun hm=>hr ⟨hjr,hm⟩
    ·exact h1 j (by omega) hjr
theorem aaB_ {all:List ObL} (h:J3_ all=false) {a b:ObL} (ha:a∈all) (hb:b∈all) (ra:xH_ a.k a.t=true) (rb:xH_ b.k b.t=true) (hid:idV a.k a.t=idV b.k b.t):a=b:=by
 unfold J3_ at h
 cases hc:ku_ all all.length with
 |none=>rw[hc] at h;cases h
 |some had=>
  obtain⟨h1,h2⟩:=Wt_ hc
  have hm: ∀ {c:ObL},c∈all→xH_ c.k c.t=true→c∈had:=fun{c} hc hr=>by
   obtain⟨j,hj,e⟩:=List.mem_iff_getElem.1 hc
   have e2:all.getD j ob0=c:=by rw[List.getD_eq_getElem?_getD,List.getElem?_eq_getElem hj];exact e
   have:=h1 j hj (by rw[e2,←Ze_];exact hr)
   rw[e2] at this
   exact this
  refine h2 a (hm ha ra) b (hm hb rb) ?_
  have hq: ∀ {c:ObL},xH_ c.k c.t=true→(idQ c).l=(idV c.k c.t).l:=fun{c} hr=>by
   have e:idV c.k c.t=⟨Dig.shaR (qw_ c.k c.t),vX_ _⟩:=if_pos hr
   rw[e]
   exact congrArg Dig.shaR (KC_ hr)
  rw[hq ra,hq rb,hid]
end Go.Proofs
end
section
open Go Go.Proofs Go.Sx Go.StP Go.Dig
namespace Go.Proofs
set_option maxRecDepth 10000
set_option maxHeartbeats 1000000
set_option linter.unusedSimpArgs false
theorem akL_ {S:DiskL} (ok:DkOk S) (dir nm:List UInt8): (j8_ S dir nm).1.length≤1048576:=by
 unfold j8_
 split
 ·simp
 ·cases hb: (zN_ dir).bind fun k=>zB_ (S.dir k).seen nm with
  |none=>simp
  |some n=>
   simp only
   rw[List.getD_eq_getElem?_getD]
   cases hf:S.files[n]? with
   |none=>simp[jP_]
   |some f=>exact(ok.file f (List.mem_of_getElem? hf)).1
set_option linter.defProp false
def xw_:=And.intro (And.intro (And.intro (@jo_) (@qF_)) (And.intro (@qE_) (@qD_))) (And.intro (And.intro (@Sx.tup2_0) (@Sx.tup2_1)) (And.intro (@zp_) (And.intro (@zo_) (@xt_))))
theorem kn_ (w:World) (G:DkG) (S:DiskL) (x:IdL) (hD:DkW w G S) (ok:DkOk S) (hC:GlobC w) (hE:GlobE w):
  Rets Tryz.prog 62 #[vp G.bd 0, .agg (a8 x.l)] w (fun v D=>v= .tuple #[obV (Xy_ S x).k (Xy_ S x).t,vi ((Xy_ S x).e:Nat)]∧D= []):=by
 have hx:=x.h
 have hxl: (zU_ x.l).length=64:=by rw[qo_,x.h]
 have hrl:=akL_ ok zf_ (zU_ x.l)
 have hzb:q5_ (vc_ Tryz.prog 82) (zM_ Tryz.prog 82) []=some (obV 0 []):=id (by kernel_rfl)
 refine Rets.enterV Tryz.func62 rfl (rs:= [.cell 4 82, .tmp 5]) Tryz.results62 Tryz.ntmps62 ?_
 refine kf ?_
 first|with_reducible refine ks [] @xw_ ?_|refine kp @xw_ ?_
 refine Ow.box rfl rfl fun b3 hb3 hw3=> ?_
 simp only[zY_,zV_,zX_,za_,List.nil_append]
 refine ko @xw_ ?_
 refine Ow.alloc rfl rfl ZN_ fun b4 hb4 hw4=> ?_
 simp only[za_,List.nil_append,List.cons_append]
 have h34:b3<b4:=zi_ hb4 (by simp[keys])
 have hN4:New w.heap.size [(b3,Obj.cells (a8 x.l) 84 (0,0)),(b4,Obj.cells #[vi 0,vs []] 82 (0,0))]:=⟨hw3,hw4,trivial⟩
 refine ko @xw_ ?_
 first|with_reducible refine ks [] @xw_ ?_|refine kp @xw_ ?_
 refine Ow.callFV rfl Tryz.call52 (fun w' hw'=>j9_ x.l hx w') ?_
 refine ko @xw_ ?_
 refine Ow.callFV rfl Tryz.call23 (fun w' hw'=>Wi_ w' G S zf_ (zU_ x.l) (hD.old hw' hN4) (by omega)) ?_
 have hg:Xy_ S x=(if(j8_ S zf_ (zU_ x.l)).2≠0 then⟨0,[],(j8_ S zf_ (zU_ x.l)).2⟩ else if wm_ (zU_ x.l) (j8_ S zf_ (zU_ x.l)).1=true then⟨looK (zU_ x.l) (j8_ S zf_ (zU_ x.l)).1,looT (zU_ x.l) (j8_ S zf_ (zU_ x.l)).1,0⟩ else⟨0,[],17⟩):=rfl
 rw[hg]
 clear hg
 generalize j8_ S zf_ (zU_ x.l)=q at*
 obtain⟨d,e⟩:=q
 simp only at hrl ⊢
 by_cases he:e≠0
 ·have e1:=jQ_ he
  rw[if_pos he]
  refine ko @xw_ ?_
  first|with_reducible refine ks [] (And.intro @xw_ @e1) ?_|refine kp (And.intro @xw_ @e1) ?_
  refine Ow.build _ rfl hzb ?_
  refine ko @xw_ ?_
  first|with_reducible refine ks [] @xw_ ?_|refine kp @xw_ ?_
  refine⟨_,(ke @xw_),hN4, ?_⟩
  rfl
 ·obtain rfl:e=0:=by simpa using he
  have e1: (((0:Nat):Int) !=0)=false:=rfl
  rw[if_neg he]
  refine ko @xw_ ?_
  first|with_reducible refine ks [] (And.intro @xw_ @e1) ?_|refine kp (And.intro @xw_ @e1) ?_
  refine Ow.callFV rfl Tryz.call52 (fun w' hw'=>j9_ x.l hx w') ?_
  refine ko @xw_ ?_
  refine Ow.callFV rfl Tryz.call50 (fun w' hw'=>aga_ (zU_ x.l) d w' (hC.of hw' (hN4.not (XB_ hC))) (hE.new hw' hN4) (by omega)) ?_
  refine ko @xw_ ?_
  refine Ow.alloc rfl rfl ZN_ fun b8 hb8 hw8=> ?_
  simp only[za_,List.nil_append,List.cons_append]
  have h38:b3<b8:=zi_ hb8 (by simp[keys])
  have h48:b4<b8:=zi_ hb8 (by simp[keys])
  have hN8:New w.heap.size [(b3,Obj.cells (a8 x.l) 84 (0,0)),(b4,Obj.cells #[vi 0,vs []] 82 (0,0)),(b8,Obj.cells #[vi (looK (zU_ x.l) d),vs (looT (zU_ x.l) d)] 82 (0,0))]:=⟨hw3,hw4,hw8,trivial⟩
  refine ko @xw_ ?_
  cases hlo:wm_ (zU_ x.l) d with
  |false=>
   rw[if_neg (by simp)]
   first|with_reducible refine ks [] @xw_ ?_|refine kp @xw_ ?_
   refine Ow.build _ rfl hzb ?_
   refine ko @xw_ ?_
   first|with_reducible refine ks [] @xw_ ?_|refine kp @xw_ ?_
   refine⟨_,(ke @xw_),hN8, ?_⟩
   rfl
  |true=>
   rw[if_pos rfl]
   first|with_reducible refine ks [] @xw_ ?_|refine kp @xw_ ?_
   refine⟨_,(ke @xw_),hN8, ?_⟩
   rfl
end Go.Proofs
end
namespace Go.Sx
open Go
theorem Ext.perm {w:World} {X D D':zb_} (h:Ext w X D) (hp:D'.Perm D):Ext w X D':=
 ⟨fun c hc=>h.new c ((hp.map Prod.fst).mem_iff.1 hc),fun c hc=>(hp.map Prod.fst).mem_iff.2 (h.all c hc)⟩
section
variable {P:Program} {w0:World} {f:Fr} {L:zb_} {N:Fr→zb_→Prop} {ops:Array Oper} {rest:List Oper} {md:Md} {d:Option Tmp} {ty:TypeId} {ps:String} {af:Array Edge} {g:Option (Nat×Bool)}
theorem Ow.callFnX2 {x y y2:Operand} {b b2:Value} {ts:Array TypeId} {k:FuncId} {X Y:zb_} {S:Value→zb_→Prop} {md':Md} (hL:L=X++Y) (he:md.turn=some md')
  (hs:zn_ ops f ⟨d, .call ⟨.value x, #[y,y2],ts⟩,ty,ps,af,g⟩=false)
  (hx:ev f x= .func (.func k) #[] #[]) (hy:ev f y=b) (hy2:ev f y2=b2)
  (hk: ∀a w,(callFunc k a).run P w= .ok (.enter k a) w)
  (hc: ∀w,Hp w0 L w→(∀p,p∈X→w.heap[p.1]? =some p.2)→(keys X).Nodup→Rets P k #[b,b2] w (XS w X S))
  (hn: ∀v D,Came w0 L X D→S v D→Ow P w0 ops md' rest (qu_ f d v) (D++Y) N):
  Ow P w0 ops md (⟨d, .call ⟨.value x, #[y,y2],ts⟩,ty,ps,af,g⟩::rest) f L N:=by
 subst hL
 have hnd: ∀w,Hp w0 (X++Y) w→(keys X).Nodup∧ ∀c,c∈keys Y→c∉keys X:=by
  intro w hw
  have:=hw.nodup
  rw[zj_,List.nodup_append] at this
  exact⟨this.1,fun c hc hx=>this.2.2 c hx c hc rfl⟩
 refine Ow.call (S:=fun B v D=>((∀c,c∈keys D→c∈keys X∨B≤c)∧(∀c,c∈keys X→c∈keys D)∧S v D)∧ ∃w,Hp w0 (X++Y) w∧w.heap.size=B) he hs hx hk (fun w hw=> ?_) ?_
 ·show Rets P k (#[]++ #[y,y2].map (ev f)++ #[]) w _
  rw[show(#[]++ #[y,y2].map (ev f)++ #[]:Array Value)= #[b,b2] by simp[hy,hy2]]
  refine Calls.mono (hc w hw (fun p hp=>hw.has _ _ (List.mem_append_left _ hp)) (hnd w hw).1) ?_
  rintro e w' ⟨v,D,he,hp,hS⟩
  exact⟨v,D,he,hp,⟨hS.1.new,hS.1.all,hS.2⟩,w,hw,rfl⟩
 ·rintro B v D hab hB ⟨⟨h1,h2,h3⟩,w1,hw1,hwB⟩
  refine⟨D++Y, ?_,hn v D ⟨fun c hc=>(h1 c hc).imp id fun h=>⟨z2_ fun b hb=>by have:=hw1.lt hb;omega,by have:=hw1.size;omega⟩,h2⟩ h3⟩
  intro w w' hwb h k
  have ht:=h.trans k
  have hY: ∀c,c∈keys Y→c∉keys D:=by
   intro c hc hd
   rcases h1 c hd with hx|hx
   ·exact(hnd w h).2 c hc hx
   ·have:=h.lt (b:=c) (by rw[zj_];exact List.mem_append_right _ hc)
    omega
  have e1:X.filter (fun p=> !(keys D).contains p.1)= []:=by
   rw[List.filter_eq_nil_iff]
   intro p hp
   have:=h2 p.1 (List.mem_map.2 ⟨p,hp,rfl⟩)
   simpa using this
  have e2:Y.filter (fun p=> !(keys D).contains p.1)=Y:=qT_ hY
  rw[List.filter_append,e1,e2,List.nil_append] at ht
  refine ht.same (fun p=>by simp[or_comm]) ?_
  have:=ht.nodup
  rw[zj_] at this ⊢
  exact(List.perm_append_comm.nodup_iff).1 this
end
end Go.Sx
section
open Go Go.Proofs Go.Sx Go.StP
namespace Go.Proofs
set_option maxRecDepth 10000
set_option maxHeartbeats 400000
set_option linter.unusedSimpArgs false
def tkO (t:TkL):Obj:= .cells #[vs t.dir,vs t.name,vs t.data, .bool t.light,vi (t.next:Int), .bool t.made, .bool t.ended] 193 (0,0)
theorem ahN_ (t:TkL) (n:Nat):zt_ (some (false,n)) (some (tkO t)) 0=some (vs t.dir):=(rfl)
theorem ah0_ (t:TkL) (n:Nat):zt_ (some (false,n)) (some (tkO t)) 1=some (vs t.name):=(rfl)
theorem ahD_ (t:TkL) (n:Nat):zt_ (some (false,n)) (some (tkO t)) 2=some (vs t.data):=(rfl)
theorem ah2_ (t:TkL) (n:Nat):zt_ (some (false,n)) (some (tkO t)) 3=some (.bool t.light):=(rfl)
theorem ahM_ (t:TkL) (n:Nat):zt_ (some (false,n)) (some (tkO t)) 4=some (vi (t.next:Int)):=(rfl)
theorem ah1_ (t:TkL) (n:Nat):zt_ (some (false,n)) (some (tkO t)) 5=some (.bool t.made):=(rfl)
theorem aho_ (t:TkL) (n:Nat):zt_ (some (false,n)) (some (tkO t)) 6=some (.bool t.ended):=(rfl)
theorem acR_ (t:TkL) (x:Nat) (a:Bool):zv_ (some (a,1)) (some (tkO t)) 4 (vi (x:Int))=some (tkO {t with next:=x}):=zO_ [vs t.dir,vs t.name,vs t.data, .bool t.light] [vi (t.next:Int)] [vi (x:Int)] [.bool t.made, .bool t.ended] a _ 193 rfl rfl rfl rfl rfl
theorem al5_ (t:TkL) (x:Bool) (a:Bool):zv_ (some (a,1)) (some (tkO t)) 5 (.bool x)=some (tkO {t with made:=x}):=zO_ [vs t.dir,vs t.name,vs t.data, .bool t.light,vi (t.next:Int)] [.bool t.made] [.bool x] [.bool t.ended] a _ 193 rfl rfl rfl rfl rfl
theorem Kp_ (t:TkL) (x:Bool) (a:Bool):zv_ (some (a,1)) (some (tkO t)) 6 (.bool x)=some (tkO {t with ended:=x}):=zO_ [vs t.dir,vs t.name,vs t.data, .bool t.light,vi (t.next:Int), .bool t.made] [.bool t.ended] [.bool x] [] a _ 193 rfl rfl rfl rfl rfl
structure TkB (t:TkL):Prop where
 name:t.name.length≤900000
 data:t.data.length≤1000000
theorem wh_ {t:TkL} (h:TkB t): (js_ t.name).length≤900004:=by
 unfold js_
 rw[List.length_append]
 have:=h.name
 simp
 omega
theorem DkA.step {X X':zb_} {G G':DkG} {S S':DiskL} {N:Nat} {kind:Int} {dir name s:List UInt8} {e:Nat} (h:DkA X G S N) (hP:DkP X' G' S') (hst:StepD S kind dir name s S' e) (hn:name.length≤1000000) (hs:s.length≤1000000):DkA X' G' S' (N+1):=⟨hP,ady_ h.H hst,ag7_ h.B hn hs hst⟩
theorem DkA.up {X:zb_} {G:DkG} {S:DiskL} {N:Nat} (h:DkA X G S N):DkA X G S (N+1):=⟨h.P,h.H,h.B.mono (Nat.le_succ N)⟩
def PhS (G:DkG) (bt:Nat) (r:PhR) (N:Nat) (v:Value) (D:zb_):Prop:=v= .tuple #[.bool r.did,vi (r.e:Nat)]∧ ∃X' G',(X'++ [(bt,tkO r.t)]).Perm D∧G'.bd=G.bd∧DkA X' G' r.S N
theorem aut_ (b o:Nat):qI_ Tryz.prog .eql 154 (vp b o) (.pointer none)=some (.bool false):=by
 simp[qI_,eqX,qz_,qq_,Tryz.underlying154,vp]
theorem xp_ {X:zb_} {bt:Nat} {t:TkL} (hn: (keys (X++ [(bt,tkO t)])).Nodup):bt∉keys X∧ ∀X' o,bt∉keys X'→ ∀w,zz_ w (X'++ [(bt,o)]) bt=some o:=by
 rw[zj_,List.nodup_append] at hn
 refine⟨fun hm=>hn.2.2 bt hm bt (by simp[keys]) rfl,fun X' o h w=>ze_ (@Kx_ _ [] _ _ h)⟩
set_option linter.defProp false
def z4_:=And.intro (And.intro (And.intro (@zp_) (And.intro (@zo_) (@ahN_))) (And.intro (And.intro (@ah0_) (@ahD_)) (And.intro (@ah2_) (@ahM_)))) (And.intro (And.intro (@ah1_) (And.intro (@aho_) (@acR_))) (And.intro (And.intro (@al5_) (@Kp_)) (And.intro (@Sx.tup2_0) (@Sx.tup2_1))))
theorem aij_ (X:zb_) (G:DkG) (S:DiskL) (N bt:Nat) (t:TkL) (w:World) (hX: ∀p,p∈X++ [(bt,tkO t)]→w.heap[p.1]? =some p.2) (hn: (keys (X++ [(bt,tkO t)])).Nodup) (hA:DkA X G S N) (hN:N<900000) (hB:TkB t):
  Rets Tryz.prog 195 #[vp bt 0,vp G.bd 0] w (XS w (X++ [(bt,tkO t)]) (PhS G bt (W0_ t S) (N+1))):=by
 refine Rets.enterX Tryz.func195 rfl (rs:= [.tmp 4, .tmp 5]) Tryz.results195 Tryz.ntmps195 hX hn ?_
 refine kf ?_
 have hbx:=(xp_ hn).1
 have rdt:=(xp_ hn).2 X (tkO t) hbx w
 have hnl:=wh_ hB
 have hnd:t.name.length≤900000:=hB.name
 have hdl:=hB.data
 have hpd:=hA.pend (by omega)
 have hus:=hA.used (by omega)
 unfold W0_
 first|with_reducible refine ks [] @z4_ ?_|refine kp @z4_ ?_
 refine Cw.regionO [0,1,2,3,5,6,7,4,8,9,10,11,12,13,14,15] [] rfl (by kernel_rfl) (by kernel_rfl) ?_
 simp only[zl_, ↓zg_, ↓zc_, ↓zx_, ↓zw_,zd_]
 refine kq (And.intro @z4_ @rdt) ?_
 refine Ow.callFV rfl Tryz.call23 (fun w' hw'=>Wi_ w' G S t.dir (js_ t.name) ⟨X,fun b o hb=>hw'.has b o (List.mem_append_left _ (zy_ hb)),hA.P⟩ (by omega)) ?_
 refine kq @z4_ ?_
 by_cases h0: (j8_ S t.dir (js_ t.name)).2≠0
 ·have e1:=jQ_ h0
  rw[if_pos h0]
  first|with_reducible refine ks [] (And.intro @z4_ @e1) ?_|refine kp (And.intro @z4_ @e1) ?_
  refine⟨_,(ke @z4_), ?_⟩
  exact⟨Ext.refl w _,rfl,X,G,List.Perm.refl _,rfl,hA.up⟩
 ·have h0': (j8_ S t.dir (js_ t.name)).2=0:=by simpa using h0
  have e1: (((j8_ S t.dir (js_ t.name)).2:Int) !=0)=false:=by rw[h0'];rfl
  rw[if_neg h0]
  first|with_reducible refine ks [] (And.intro @z4_ @e1) ?_|refine kp (And.intro @z4_ @e1) ?_
  refine Cw.regionO [0,1,2,3,5,6,7,4,8,9,10,11,12] [10] rfl (by kernel_rfl) (by kernel_rfl) ?_
  simp only[zl_, ↓zg_, ↓zc_, ↓zx_, ↓zw_,zd_]
  refine kq (And.intro @z4_ @rdt) ?_
  refine Ow.callX (X:=X) (Y:= [(bt,tkO t)]) rfl rfl rfl Tryz.call77 (fun w' hw' hX' hn'=>wY_ X G S t.dir (js_ t.name) w' hX' hn' hA.P (by omega) hpd) (fun v4 D4 hC4 hS4=> ?_)
  obtain⟨rfl,G',hbd,hP'⟩:=hS4
  refine kq @z4_ ?_
  first|with_reducible refine ks [] @z4_ ?_|refine kp @z4_ ?_
  refine⟨_,(ke @z4_), ?_⟩
  exact⟨(Ext.refl w _).came hC4,rfl,D4,G',List.Perm.refl _,hbd,hA.step hP' (j7_ S _ _ []) (by omega) (Nat.zero_le _)⟩
theorem abu_ (X:zb_) (G:DkG) (S:DiskL) (N bt:Nat) (t:TkL) (w:World) (hX: ∀p,p∈X++ [(bt,tkO t)]→w.heap[p.1]? =some p.2) (hn: (keys (X++ [(bt,tkO t)])).Nodup) (hA:DkA X G S N) (hN:N<900000) (hB:TkB t):
  Rets Tryz.prog 196 #[vp bt 0,vp G.bd 0] w (XS w (X++ [(bt,tkO t)]) (PhS G bt (afo_ t S) (N+1))):=by
 refine Rets.enterX Tryz.func196 rfl (rs:= [.tmp 4, .tmp 5]) Tryz.results196 Tryz.ntmps196 hX hn ?_
 refine kf ?_
 have hbx:=(xp_ hn).1
 have rdt:=(xp_ hn).2 X (tkO t) hbx w
 have hnl:=wh_ hB
 have hnd:t.name.length≤900000:=hB.name
 have hdl:=hB.data
 have hpd:=hA.pend (by omega)
 have hus:=hA.used (by omega)
 unfold afo_
 first|with_reducible refine ks [2] @z4_ ?_|refine kp @z4_ ?_
 refine Cw.regionO [0,1,2,3,5,6,7,4,8,9,10,11] [10] rfl (by kernel_rfl) (by kernel_rfl) ?_
 simp only[zl_, ↓zg_, ↓zc_, ↓zx_, ↓zw_,zd_]
 refine kq (And.intro @z4_ @rdt) ?_
 refine Ow.callX (X:=X) (Y:= [(bt,tkO t)]) rfl rfl rfl Tryz.call72 (fun w' hw' hX' hn'=>ada_ X G S t.dir (js_ t.name) w' hX' hn' hA.P (by omega) hpd) (fun v4 D4 hC4 hS4=> ?_)
 obtain⟨rfl,G',hbd,hP'⟩:=hS4
 refine kq @z4_ ?_
 refine Cw.permL (M:=(bt,tkO t)::D4) (by classical exact List.perm_iff_count.2 fun a=>by simp only[List.count_append,List.count_cons,List.count_nil]<;>omega) ?_
 have hA':=hA.step hP' (Z5_ S _ _ []) (by omega) (Nat.zero_le _)
 have hE:=(Ext.refl w (X++ [(bt,tkO t)])).came hC4
 generalize jk_ S t.dir (js_ t.name)=q at*
 obtain⟨S',e⟩:=q
 simp only at hA' ⊢
 have hi: ((e:Int)==0)=(e==0):=by
  cases e with
  |zero=>rfl
  |succ n=>rfl
 first|with_reducible refine ks [] (And.intro @z4_ @hi) ?_|refine kp (And.intro @z4_ @hi) ?_
 refine⟨_,(ke @z4_), ?_⟩
 exact⟨(hE.perm (List.perm_append_comm (l₁:= [(bt,tkO t)]) (l₂:=D4))).keys rfl,rfl,D4,G',List.perm_append_comm (l₁:=D4) (l₂:= [_]),hbd,hA'⟩
theorem abB_ (X:zb_) (G:DkG) (S:DiskL) (N bt:Nat) (t:TkL) (w:World) (hX: ∀p,p∈X++ [(bt,tkO t)]→w.heap[p.1]? =some p.2) (hn: (keys (X++ [(bt,tkO t)])).Nodup) (hA:DkA X G S N) (hN:N<900000) (hB:TkB t):
  Rets Tryz.prog 197 #[vp bt 0,vp G.bd 0] w (XS w (X++ [(bt,tkO t)]) (PhS G bt (agv_ t S) (N+1))):=by
 refine Rets.enterX Tryz.func197 rfl (rs:= [.tmp 4, .tmp 5]) Tryz.results197 Tryz.ntmps197 hX hn ?_
 refine kf ?_
 have hbx:=(xp_ hn).1
 have rdt:=(xp_ hn).2 X (tkO t) hbx w
 have hnl:=wh_ hB
 have hnd:t.name.length≤900000:=hB.name
 have hdl:=hB.data
 have hpd:=hA.pend (by omega)
 have hus:=hA.used (by omega)
 unfold agv_
 first|with_reducible refine ks [] @z4_ ?_|refine kp @z4_ ?_
 refine Cw.regionO [0,1,2,3,5,6,7,10,11,12,4,8,9,13,14,15,16] [14] rfl (by kernel_rfl) (by kernel_rfl) ?_
 simp only[zl_, ↓zg_, ↓zc_, ↓zx_, ↓zw_,zd_]
 refine kq (And.intro @z4_ @rdt) ?_
 refine Ow.callX (X:=X) (Y:= [(bt,tkO t)]) rfl rfl rfl Tryz.call73 (fun w' hw' hX' hn'=>acE_ X G S t.dir (js_ t.name) t.data w' hX' hn' hA.P (by omega) (by omega) hus) (fun v4 D4 hC4 hS4=> ?_)
 obtain⟨rfl,hP'⟩:=hS4
 refine kq @z4_ ?_
 first|with_reducible refine ks [] @z4_ ?_|refine kp @z4_ ?_
 refine⟨_,(ke @z4_), ?_⟩
 exact⟨(Ext.refl w _).came hC4,rfl,D4,G,List.Perm.refl _,rfl,hA.step hP' (ZT_ S _ _ _) (by omega) (by omega)⟩
theorem afv_ (X:zb_) (G:DkG) (S:DiskL) (N bt:Nat) (t:TkL) (w:World) (hX: ∀p,p∈X++ [(bt,tkO t)]→w.heap[p.1]? =some p.2) (hn: (keys (X++ [(bt,tkO t)])).Nodup) (hA:DkA X G S N) (hN:N<900000) (hB:TkB t):
  Rets Tryz.prog 198 #[vp bt 0,vp G.bd 0] w (XS w (X++ [(bt,tkO t)]) (PhS G bt (apc_ t S) (N+1))):=by
 refine Rets.enterX Tryz.func198 rfl (rs:= [.tmp 4, .tmp 5]) Tryz.results198 Tryz.ntmps198 hX hn ?_
 refine kf ?_
 have hbx:=(xp_ hn).1
 have rdt:=(xp_ hn).2 X (tkO t) hbx w
 have hnl:=wh_ hB
 have hnd:t.name.length≤900000:=hB.name
 have hdl:=hB.data
 have hpd:=hA.pend (by omega)
 have hus:=hA.used (by omega)
 unfold apc_
 by_cases hl:t.light=true
 ·rw[if_pos hl]
  first|with_reducible refine ks [] (And.intro @z4_ (And.intro @rdt (@hl))) ?_|refine kp (And.intro @z4_ (And.intro @rdt (@hl))) ?_
  refine⟨_,(ke @z4_), ?_⟩
  exact⟨Ext.refl w _,rfl,X,G,List.Perm.refl _,rfl,hA.up⟩
 ·rw[if_neg hl]
  have hl':t.light=false:=by simpa using hl
  first|with_reducible refine ks [] (And.intro @z4_ (And.intro @rdt (@hl'))) ?_|refine kp (And.intro @z4_ (And.intro @rdt (@hl'))) ?_
  refine Cw.regionO [0,1,2,3,5,6,7,4,8,9,10,11,12] [10] rfl (by kernel_rfl) (by kernel_rfl) ?_
  simp only[zl_, ↓zg_, ↓zc_, ↓zx_, ↓zw_,zd_]
  refine kq (And.intro @z4_ @rdt) ?_
  refine Ow.callX (X:=X) (Y:= [(bt,tkO t)]) rfl rfl rfl Tryz.call20 (fun w' hw' hX' hn'=>Wo_ X G S t.dir (js_ t.name) w' hX' hn' hA.P (by omega)) (fun v4 D4 hC4 hS4=> ?_)
  obtain⟨rfl,hP'⟩:=hS4
  refine kq @z4_ ?_
  first|with_reducible refine ks [] @z4_ ?_|refine kp @z4_ ?_
  refine⟨_,(ke @z4_), ?_⟩
  exact⟨(Ext.refl w _).came hC4,rfl,D4,G,List.Perm.refl _,rfl,hA.step hP' (QO_ S _ _ []) (by omega) (Nat.zero_le _)⟩
theorem abd_ (X:zb_) (G:DkG) (S:DiskL) (N bt:Nat) (t:TkL) (w:World) (hX: ∀p,p∈X++ [(bt,tkO t)]→w.heap[p.1]? =some p.2) (hn: (keys (X++ [(bt,tkO t)])).Nodup) (hA:DkA X G S N) (hN:N<900000) (hB:TkB t):
  Rets Tryz.prog 200 #[vp bt 0,vp G.bd 0] w (XS w (X++ [(bt,tkO t)]) (PhS G bt (abg_ t S) (N+1))):=by
 refine Rets.enterX Tryz.func200 rfl (rs:= [.tmp 4, .tmp 5]) Tryz.results200 Tryz.ntmps200 hX hn ?_
 refine kf ?_
 have hbx:=(xp_ hn).1
 have rdt:=(xp_ hn).2 X (tkO t) hbx w
 have hnl:=wh_ hB
 have hnd:t.name.length≤900000:=hB.name
 have hdl:=hB.data
 have hpd:=hA.pend (by omega)
 have hus:=hA.used (by omega)
 unfold abg_
 by_cases hl:t.light=true
 ·rw[if_pos hl]
  first|with_reducible refine ks [] (And.intro @z4_ (And.intro @rdt (@hl))) ?_|refine kp (And.intro @z4_ (And.intro @rdt (@hl))) ?_
  refine⟨_,(ke @z4_), ?_⟩
  exact⟨Ext.refl w _,rfl,X,G,List.Perm.refl _,rfl,hA.up⟩
 ·rw[if_neg hl]
  have hl':t.light=false:=by simpa using hl
  first|with_reducible refine ks [] (And.intro @z4_ (And.intro @rdt (@hl'))) ?_|refine kp (And.intro @z4_ (And.intro @rdt (@hl'))) ?_
  refine kq (And.intro @z4_ @rdt) ?_
  refine Ow.callX (X:=X) (Y:= [(bt,tkO t)]) rfl rfl rfl Tryz.call21 (fun w' hw' hX' hn'=>Qy_ X G S t.dir w' hX' hn' hA.P) (fun v4 D4 hC4 hS4=> ?_)
  obtain⟨rfl,G',hbd,hP'⟩:=hS4
  refine kq @z4_ ?_
  first|with_reducible refine ks [] @z4_ ?_|refine kp @z4_ ?_
  refine⟨_,(ke @z4_), ?_⟩
  exact⟨(Ext.refl w _).came hC4,rfl,D4,G',List.Perm.refl _,hbd,hA.step hP' (kQ_ S _ [] []) (Nat.zero_le _) (Nat.zero_le _)⟩
theorem aay_ (X:zb_) (G:DkG) (S:DiskL) (N bt:Nat) (t:TkL) (w:World) (hX: ∀p,p∈X++ [(bt,tkO t)]→w.heap[p.1]? =some p.2) (hn: (keys (X++ [(bt,tkO t)])).Nodup) (hA:DkA X G S N) (hN:N<900000) (hB:TkB t):
  Rets Tryz.prog 199 #[vp bt 0,vp G.bd 0] w (XS w (X++ [(bt,tkO t)]) (PhS G bt (afn_ t S) (N+1))):=by
 refine Rets.enterX Tryz.func199 rfl (rs:= [.tmp 4, .tmp 5]) Tryz.results199 Tryz.ntmps199 hX hn ?_
 refine kf ?_
 have hbx:=(xp_ hn).1
 have rdt:=(xp_ hn).2 X (tkO t) hbx w
 have hnl:=wh_ hB
 have hnd:t.name.length≤900000:=hB.name
 have hdl:=hB.data
 have hpd:=hA.pend (by omega)
 have hus:=hA.used (by omega)
 unfold afn_
 first|with_reducible refine ks [2] @z4_ ?_|refine kp @z4_ ?_
 refine Cw.regionO [0,1,2,3,5,6,7,10,11,12,4,8,9,13,14,15] [14] rfl (by kernel_rfl) (by kernel_rfl) ?_
 simp only[zl_, ↓zg_, ↓zc_, ↓zx_, ↓zw_,zd_]
 refine kq (And.intro @z4_ @rdt) ?_
 refine Ow.callX (X:=X) (Y:= [(bt,tkO t)]) rfl rfl rfl Tryz.call76 (fun w' hw' hX' hn'=>adT_ X G S t.dir (js_ t.name) t.name w' hX' hn' hA.P (by omega) (by omega) hpd) (fun v4 D4 hC4 hS4=> ?_)
 obtain⟨rfl,G',hbd,hP'⟩:=hS4
 refine kq @z4_ ?_
 refine Cw.permL (M:=(bt,tkO t)::D4) (by classical exact List.perm_iff_count.2 fun a=>by simp only[List.count_append,List.count_cons,List.count_nil]<;>omega) ?_
 have hA':=hA.step hP' (ZQ_ S _ _ _) (by omega) (by omega)
 have hE:=(Ext.refl w (X++ [(bt,tkO t)])).came hC4
 generalize jc_ S t.dir (js_ t.name) t.name=q at*
 obtain⟨S',e⟩:=q
 simp only at hA' ⊢
 have hi: ((e:Int) !=0)=(e !=0):=by
  cases e with
  |zero=>rfl
  |succ n=>rfl
 cases hm:t.made with
 |true=>
  rw[Bool.true_and]
  first|with_reducible refine ks [] (And.intro @z4_ (And.intro @hi (@hm))) ?_|refine kp (And.intro @z4_ (And.intro @hi (@hm))) ?_
  refine⟨_,(ke @z4_), ?_⟩
  exact⟨(hE.perm (List.perm_append_comm (l₁:= [(bt,tkO t)]) (l₂:=D4))).keys rfl,rfl,D4,G',List.perm_append_comm (l₁:=D4) (l₂:= [_]),hbd,hA'⟩
 |false=>
  rw[Bool.false_and]
  first|with_reducible refine ks [] (And.intro @z4_ (And.intro @hi (@hm))) ?_|refine kp (And.intro @z4_ (And.intro @hi (@hm))) ?_
  refine⟨_,(ke @z4_), ?_⟩
  exact⟨(hE.perm (List.perm_append_comm (l₁:= [(bt,tkO t)]) (l₂:=D4))).keys rfl,rfl,D4,G',List.perm_append_comm (l₁:=D4) (l₂:= [_]),hbd,hA'⟩
end Go.Proofs
end
section
open Go Go.Proofs Go.Sx Go.StP
namespace Go.Proofs
set_option maxRecDepth 10000
set_option maxHeartbeats 1000000
set_option linter.unusedSimpArgs false
def phF (n:Nat):FuncId:=match n with
 |0=>195
 |1=>196
 |2=>197
 |3=>198
 |4=>199
 |_=>200
def stV:List Value:= [.func (.func (phF 0)) #[] #[], .func (.func (phF 1)) #[] #[], .func (.func (phF 2)) #[] #[], .func (.func (phF 3)) #[] #[], .func (.func (phF 4)) #[] #[], .func (.func (phF 5)) #[] #[]]
def stO:Obj:= .cells stV.toArray 236 (0,0)
theorem arn_ (n m:Nat) (h:n<6):zt_ (some (false,m)) (some stO) n=some (.func (.func (phF n)) #[] #[]):=by
 rcases(by omega:n=0∨n=1∨n=2∨n=3∨n=4∨n=5) with rfl|rfl|rfl|rfl|rfl|rfl<;>rfl
theorem aq1_ (n:Nat) (h:n<6) (X:zb_) (G:DkG) (S:DiskL) (N bt:Nat) (t:TkL) (w:World) (hX: ∀p,p∈X++ [(bt,tkO t)]→w.heap[p.1]? =some p.2) (hn: (keys (X++ [(bt,tkO t)])).Nodup) (hA:DkA X G S N) (hN:N<900000) (hB:TkB t):
  Rets Tryz.prog (phF n) #[vp bt 0,vp G.bd 0] w (XS w (X++ [(bt,tkO t)]) (PhS G bt (phT n t S) (N+1))):=by
 rcases(by omega:n=0∨n=1∨n=2∨n=3∨n=4∨n=5) with rfl|rfl|rfl|rfl|rfl|rfl
 ·exact aij_ X G S N bt t w hX hn hA hN hB
 ·exact abu_ X G S N bt t w hX hn hA hN hB
 ·exact abB_ X G S N bt t w hX hn hA hN hB
 ·exact afv_ X G S N bt t w hX hn hA hN hB
 ·exact aay_ X G S N bt t w hX hn hA hN hB
 ·exact abd_ X G S N bt t w hX hn hA hN hB
theorem ar6_ (n:Nat) (h:n<6): ∀a w,(callFunc (phF n) a).run Tryz.prog w= .ok (.enter (phF n) a) w:=by
 rcases(by omega:n=0∨n=1∨n=2∨n=3∨n=4∨n=5) with rfl|rfl|rfl|rfl|rfl|rfl
 ·exact Tryz.call195
 ·exact Tryz.call196
 ·exact Tryz.call197
 ·exact Tryz.call198
 ·exact Tryz.call199
 ·exact Tryz.call200
theorem aaH_ (bt:Nat) (t:TkL) (w:World) (hX:w.heap[bt]? =some (tkO t)):Rets Tryz.prog 166 #[vp bt 0] w (fun v D=>v= .bool t.ended∧D= []):=by
 have hnl:=aut_ bt 0
 refine Rets.enterV Tryz.func166 rfl (rs:= [.tmp 2]) Tryz.results166 Tryz.ntmps166 ?_
 refine kf ?_
 first|with_reducible refine ks [] (And.intro @hX @hnl) ?_|refine kp (And.intro @hX @hnl) ?_
 refine⟨_,(ke @Nat.add_zero),trivial, ?_⟩
 rfl
theorem an4_:q5_ (vc_ Tryz.prog 236) (zM_ Tryz.prog 236) [(0, .func (.func (phF 0)) #[] #[]),(1, .func (.func (phF 1)) #[] #[]),(2, .func (.func (phF 2)) #[] #[]),(3, .func (.func (phF 3)) #[] #[]),(4, .func (.func (phF 4)) #[] #[]),(5, .func (.func (phF 5)) #[] #[])]=some (.agg stV.toArray):=by
 rw[show vc_ Tryz.prog 236=some [(0,1),(1,1),(2,1),(3,1),(4,1),(5,1)] from id (by kernel_rfl),Tryz.zr236];rfl
theorem XJ_:zv_ (some (true,6)) (some (.cells #[.nilFunc, .nilFunc, .nilFunc, .nilFunc, .nilFunc, .nilFunc] 236 (0,0))) 0 (.agg stV.toArray)=some stO:=(rfl)
theorem ais_ (w:World):Rets Tryz.prog 167 #[] w (fun v D=>v= .agg stV.toArray∧D= []):=by
 refine Rets.enterV Tryz.func167 rfl (rs:= [.cell 0 236]) Tryz.results167 Tryz.ntmps167 ?_
 refine kf ?_
 first|with_reducible refine ks [] @Nat.add_zero ?_|refine kp @Nat.add_zero ?_
 refine Ow.alloc rfl rfl Tryz.zr236 fun b1 hb1 hw1=> ?_
 refine ko @Nat.add_zero ?_
 refine Ow.build (.agg stV.toArray) rfl an4_ ?_
 refine ko @XJ_ ?_
 first|with_reducible refine ks [] @XJ_ ?_|refine kp @XJ_ ?_
 refine⟨_,(ke @Nat.add_zero),⟨hw1,trivial⟩, ?_⟩
 rfl
set_option linter.defProp false
def qi_:=And.intro (And.intro (And.intro (@zp_) (@zo_)) (And.intro (@ahN_) (And.intro (@ah0_) (@ahD_)))) (And.intro (And.intro (@ah2_) (And.intro (@ahM_) (@ah1_))) (And.intro (@aho_) (And.intro (@Sx.tup2_0) (@Sx.tup2_1))))
theorem ibeq (n k:Nat): ((n:Int)==(k:Int))=(n==k):=by
 rw[Bool.eq_iff_iff,beq_iff_eq,beq_iff_eq]
 omega
structure SG where
 lab:Nat
 did:Bool
 e:Nat
 t:TkL
 S:DiskL
 G:DkG
 X:zb_
 b8:Nat
 c:Nat
def SJ (w:World) (L0:zb_) (n bd bt N:Nat) (R:StR) (g:SG):Prop:=
 Ext w L0 ((bt,tkO g.t):: (g.b8,stO)::g.X)∧(keys ((bt,tkO g.t):: (g.b8,stO)::g.X)).Nodup∧n≤g.b8∧g.G.bd=bd∧DkA g.X g.G g.S (N+g.c)∧TkB g.t∧
 ((g.lab=0∧g.c+ (6 - g.t.next)≤6∧g.t.next<6∧xs_ (6 - g.t.next) g.t g.S=R)∨
 (g.lab=1∧g.c≤6∧ ∃r:PhR,g.t=nxT r∧g.S=r.S∧g.e=r.e∧xe_ r=R))
def SL (g:SG):Nat:=match g.lab with
 |0=>0
 |_=>1
theorem SL0 (a b c d e f g h):SL ⟨0,a,b,c,d,e,f,g,h⟩=0:=rfl
def SS (g:SG):List (Nat×Value):= [(6, .bool g.did),(7,vi (g.e:Nat)),(8,vp g.b8 0)]
def SH (bt:Nat) (g:SG):zb_:=(bt,tkO g.t):: (g.b8,stO)::g.X
def StS (G:DkG) (bt:Nat) (R:StR) (N:Nat) (v:Value) (D:zb_):Prop:=v= .tuple #[.bool R.done,vi (R.e:Nat)]∧ ∃X' G',(X'++ [(bt,tkO R.t)]).Perm D∧G'.bd=G.bd∧DkA X' G' R.S N
set_option maxHeartbeats 12000000 in
theorem ajU_ (X:zb_) (G:DkG) (S:DiskL) (N bt:Nat) (t:TkL) (w:World) (hX: ∀p,p∈X++ [(bt,tkO t)]→w.heap[p.1]? =some p.2) (hn: (keys (X++ [(bt,tkO t)])).Nodup) (hA:DkA X G S N) (hN:N<800000) (hB:TkB t) (hne:t.ended=false→t.next<6):
  Rets Tryz.prog 129 #[vp bt 0,vp G.bd 0] w (XS w (X++ [(bt,tkO t)]) (StS G bt (xB_ t S) (N+7))):=by
 refine Rets.enterX Tryz.func129 rfl (rs:= [.tmp 4, .tmp 5]) Tryz.results129 Tryz.ntmps129 hX hn ?_
 refine kf ?_
 have hbx:=(xp_ hn).1
 have rdt:=(xp_ hn).2 X (tkO t) hbx w
 unfold xB_
 first|with_reducible refine ks [] @qi_ ?_|refine kp @qi_ ?_
 refine Cw.scopeL (G:=SG) (fun g=>SL g) [9,10,4,5,6,7,11,8,13,14,15,16,17,18,19,20,21,12,22,23,24,25,26,27,28,29,30,31,32,33,34,35,36,37,38,39,40,41,42,43,44,45,46,47,48,49,50,51,52,53,54,55,56,57,58,59,60,61,62,63,64,65,66,67,68,69,70,71,72,73,74,75,76,77,78,79,80,81,82,83,84,85,86,87,88,89] (fun g=>SS g) (fun g=>SH bt g) (fun g=>SJ w (X++ [(bt,tkO t)]) w.heap.size G.bd bt N (if t.ended=true then⟨false,15,t,S⟩ else xs_ (6 - t.next) t S) g) (fun g=>(if g.lab=0 then 6 - g.t.next+1 else 0)) ?_ ?_ ?_
 ·intro g
  unfold SL
  split<;>rfl
 ·intro g j hg
  obtain⟨lab,did,e,t1,S1,G1,X1,b8,c⟩:=g
  obtain⟨hE,hnd,hb8,hbd,hA1,hB1,hg⟩:=hg
  simp only at hE hnd hb8 hbd hA1 hB1 hg
  rcases hg with⟨rfl,hc,hnx,hR⟩ | ⟨rfl,hc,r,rfl,rfl,rfl,hR⟩
  ·simp only[SL,SS,SH]
   simp only[ZB_,hasL,Bool.or_false,Bool.false_or,Bool.or_true,Bool.true_or,Nat.reduceBEq,beq_self_eq_true, ↓reduceIte,Bool.false_eq_true]
   refine kv ?_
   try with_reducible refine kT_ ?_
   have hk:=hnd
   simp only[keys,List.map_cons,List.nodup_cons,List.mem_cons,not_or] at hk
   have hb3:bt≠b8:=hk.1.1
   have hb1:bt∉keys X1:=hk.1.2
   have hb2:b8∉keys X1:=hk.2.1
   have rd8: ∀o w,zz_ w ((bt,o):: (b8,stO)::X1) b8=some stO:=fun o w=>ze_ (by simp[Sx.look,hb3])
   have hix: ∀m,qe_ (.arr 6 m) (vp b8 0) (some (t1.next:Int))=some (vp b8 (t1.next*m.2)):=fun m=>by
    rw[Qx_ _ _ _ _ _ ⟨by omega,by omega⟩];simp
   have hld: ∀m,zt_ (some (false,m)) (some stO) t1.next=some (.func (.func (phF t1.next)) #[] #[]):=fun m=>arn_ _ m hnx
   first|with_reducible refine ks [] (And.intro @qi_ (And.intro @rd8 (And.intro @hix (@hld)))) ?_|refine kp (And.intro @qi_ (And.intro @rd8 (And.intro @hix (@hld)))) ?_
   refine Ow.permL (M:=(X1++ [(bt,tkO t1)])++ [(b8,stO)]) (by classical exact List.perm_iff_count.2 fun a=>by simp only[List.count_append,List.count_cons,List.count_nil]<;>omega) ?_
   refine Ow.callFnX2 (X:=X1++ [(bt,tkO t1)]) (Y:= [(b8,stO)]) (b:=vp bt 0) (b2:=vp G.bd 0) rfl rfl rfl rfl rfl rfl (ar6_ t1.next hnx) (fun w' hw' hX' hn'=>by rw[←hbd];exact aq1_ t1.next hnx X1 G1 S1 (N+c) bt t1 w' hX' hn' hA1 (by omega) hB1) (fun v4 D4 hC4 hS4=> ?_)
   obtain⟨rfl,X2,G2,hp2,hbd2,hA2⟩:=hS4
   obtain⟨hr1,hr2,hr3,hr4,hr5,hr6⟩:=aop_ t1.next t1 S1
   have hB2:TkB (phT t1.next t1 S1).t:=⟨by rw[hr2];exact hB1.name,by rw[hr3];exact hB1.data⟩
   have hBn:TkB (nxT (phT t1.next t1 S1)):=⟨hB2.name,hB2.data⟩
   have hBf:TkB (kj_ (phT t1.next t1 S1)):=⟨hB2.name,hB2.data⟩
   obtain⟨q,hq⟩: ∃q,6 - t1.next=q+1:=⟨5 - t1.next,by omega⟩
   rw[hq] at hR
   replace hR: (if(phT t1.next t1 S1).e≠0 then xe_ (phT t1.next t1 S1)
    else if(phT t1.next t1 S1).did=false∧endT (nxT (phT t1.next t1 S1))=false then xs_ q (kj_ (phT t1.next t1 S1)) (phT t1.next t1 S1).S
    else⟨endT (nxT (phT t1.next t1 S1)),0,kj_ (phT t1.next t1 S1),(phT t1.next t1 S1).S⟩)=_:=hR
   generalize phT t1.next t1 S1=r at*
   have hp3: ((bt,tkO r.t):: (b8,stO)::X2).Perm (D4++ [(b8,stO)]):=(by simpa using(List.perm_append_comm (l₁:= [(bt,tkO r.t),(b8,stO)]) (l₂:=X2)): ((bt,tkO r.t):: (b8,stO)::X2).Perm (X2++ [(bt,tkO r.t),(b8,stO)])).trans (by simpa using hp2.append_right [(b8,stO)])
   have hE1:Ext w (X++ [(bt,tkO t)]) ((X1++ [(bt,tkO t1)])++ [(b8,stO)]):=hE.perm (by classical exact List.perm_iff_count.2 fun a=>by simp only[List.count_append,List.count_cons,List.count_nil]<;>omega)
   have hE2:Ext w (X++ [(bt,tkO t)]) ((bt,tkO r.t):: (b8,stO)::X2):=(Ext.came hE1 hC4).perm hp3
   refine Ow.permL hp3 ?_
   refine Ow.world fun w9 hw9=> ?_
   have hnd2: (keys ((bt,tkO r.t):: (b8,stO)::X2)).Nodup:=hw9.nodup
   have hst7: ∀a,zv_ (some (a,1)) (some (tkO r.t)) 4 (vi ((r.t.next:Int)+1))=some (tkO (nxT r)):=fun a=>acR_ r.t (r.t.next+1) a
   have hnx2:r.t.next<6:=by omega
   have hA3:DkA (X2++ [(b8,stO)]) G2 r.S (N+7):=⟨hA2.P.mono (X':=X2++ [(b8,stO)]) fun b o h=>zk_ h,hA2.H,hA2.B.mono (by omega)⟩
   refine ko @qi_ ?_
   by_cases he:r.e=0
   ·have e0: ((r.e:Int) !=0)=false:=by rw[he];rfl
    rw[if_neg (fun h=>h he)] at hR
    have hst9: ∀a,zv_ (some (a,1)) (some (tkO (nxT r))) 6 (.bool (endT (nxT r)))=some (tkO (kj_ r)):=fun a=>Kp_ (nxT r) _ a
    have hfe: (kj_ r).ended=endT (nxT r):=rfl
    have hen:endT (nxT r)=((nxT r).next==6|| ((nxT r).light&& (nxT r).next==5)):=rfl
    have i6: (((nxT r).next:Int)==6)=((nxT r).next==6):=ibeq _ 6
    have i5: (((nxT r).next:Int)==5)=((nxT r).next==5):=ibeq _ 5
    cases c6: ((nxT r).next==6) with
    |true=>
     have h9:endT (nxT r)=true:=by rw[hen,c6];rfl
     rw[c6] at i6
     rw[h9] at hst9 hfe hR
     rw[if_neg (fun h=>by cases h.2)] at hR
     cases hd:r.did with
     |true=>
      first|with_reducible refine ks [] (And.intro @qi_ (And.intro @hst7 (And.intro @e0 (And.intro @hst9 (And.intro @i6 (@hfe)))))) ?_|refine kp (And.intro @qi_ (And.intro @hst7 (And.intro @e0 (And.intro @hst9 (And.intro @i6 (@hfe)))))) ?_
      refine⟨_,(ke @qi_), ?_⟩
      rw[←hR]
      exact⟨hE2.keys rfl,rfl,X2++ [(b8,stO)],G2,(by classical exact List.perm_iff_count.2 fun a=>by simp only[List.count_append,List.count_cons,List.count_nil]<;>omega),hbd2.trans hbd,hA3⟩
     |false=>
      first|with_reducible refine ks [] (And.intro @qi_ (And.intro @hst7 (And.intro @e0 (And.intro @hst9 (And.intro @i6 (@hfe)))))) ?_|refine kp (And.intro @qi_ (And.intro @hst7 (And.intro @e0 (And.intro @hst9 (And.intro @i6 (@hfe)))))) ?_
      refine⟨_,(ke @qi_), ?_⟩
      rw[←hR]
      exact⟨hE2.keys rfl,rfl,X2++ [(b8,stO)],G2,(by classical exact List.perm_iff_count.2 fun a=>by simp only[List.count_append,List.count_cons,List.count_nil]<;>omega),hbd2.trans hbd,hA3⟩
    |false=>
     have hq6:r.t.next+1≠6:=beq_eq_false_iff_ne.1 c6
     rw[c6] at i6
     cases cl: (nxT r).light with
     |false=>
      have h9:endT (nxT r)=false:=by rw[hen,c6,cl];rfl
      rw[h9] at hst9 hfe hR
      cases hd:r.did with
      |true=>
       rw[hd,if_neg (fun h=>by cases h.1)] at hR
       first|with_reducible refine ks [] (And.intro @qi_ (And.intro @hst7 (And.intro @e0 (And.intro @hst9 (And.intro @i6 (And.intro @cl (@hfe))))))) ?_|refine kp (And.intro @qi_ (And.intro @hst7 (And.intro @e0 (And.intro @hst9 (And.intro @i6 (And.intro @cl (@hfe))))))) ?_
       refine⟨_,(ke @qi_), ?_⟩
       rw[←hR]
       exact⟨hE2.keys rfl,rfl,X2++ [(b8,stO)],G2,(by classical exact List.perm_iff_count.2 fun a=>by simp only[List.count_append,List.count_cons,List.count_nil]<;>omega),hbd2.trans hbd,hA3⟩
      |false=>
       rw[hd,if_pos ⟨rfl,rfl⟩] at hR
       first|with_reducible refine ks [] (And.intro @qi_ (And.intro @hst7 (And.intro @e0 (And.intro @hst9 (And.intro @i6 (And.intro @cl (@hfe))))))) ?_|refine kp (And.intro @qi_ (And.intro @hst7 (And.intro @e0 (And.intro @hst9 (And.intro @i6 (And.intro @cl (@hfe))))))) ?_
       exact Jump.mk ⟨0,false,r.e,kj_ r,r.S,G2,X2,b8,c+1⟩ rfl (by show 6 - (r.t.next+1)+1<6 - t1.next+1;omega) ⟨hE2.keys rfl,hnd2,hb8,hbd2.trans hbd,hA2,hBf, .inl ⟨rfl,by show c+1+ (6 - (r.t.next+1))≤6;omega,by show r.t.next+1<6;omega,by show xs_ (6 - (r.t.next+1)) _ _=_;rw[show 6 - (r.t.next+1)=q by omega];exact hR⟩⟩ rfl rfl
     |true=>
      cases c5: ((nxT r).next==5) with
      |true=>
       have h9:endT (nxT r)=true:=by rw[hen,c6,cl,c5];rfl
       rw[c5] at i5
       rw[h9] at hst9 hfe hR
       rw[if_neg (fun h=>by cases h.2)] at hR
       cases hd:r.did with
       |true=>
        first|with_reducible refine ks [] (And.intro @qi_ (And.intro @hst7 (And.intro @e0 (And.intro @hst9 (And.intro @i6 (And.intro @i5 (And.intro @cl (@hfe)))))))) ?_|refine kp (And.intro @qi_ (And.intro @hst7 (And.intro @e0 (And.intro @hst9 (And.intro @i6 (And.intro @i5 (And.intro @cl (@hfe)))))))) ?_
        refine⟨_,(ke @qi_), ?_⟩
        rw[←hR]
        exact⟨hE2.keys rfl,rfl,X2++ [(b8,stO)],G2,(by classical exact List.perm_iff_count.2 fun a=>by simp only[List.count_append,List.count_cons,List.count_nil]<;>omega),hbd2.trans hbd,hA3⟩
       |false=>
        first|with_reducible refine ks [] (And.intro @qi_ (And.intro @hst7 (And.intro @e0 (And.intro @hst9 (And.intro @i6 (And.intro @i5 (And.intro @cl (@hfe)))))))) ?_|refine kp (And.intro @qi_ (And.intro @hst7 (And.intro @e0 (And.intro @hst9 (And.intro @i6 (And.intro @i5 (And.intro @cl (@hfe)))))))) ?_
        refine⟨_,(ke @qi_), ?_⟩
        rw[←hR]
        exact⟨hE2.keys rfl,rfl,X2++ [(b8,stO)],G2,(by classical exact List.perm_iff_count.2 fun a=>by simp only[List.count_append,List.count_cons,List.count_nil]<;>omega),hbd2.trans hbd,hA3⟩
      |false=>
       have h9:endT (nxT r)=false:=by rw[hen,c6,cl,c5];rfl
       rw[c5] at i5
       rw[h9] at hst9 hfe hR
       cases hd:r.did with
       |true=>
        rw[hd,if_neg (fun h=>by cases h.1)] at hR
        first|with_reducible refine ks [] (And.intro @qi_ (And.intro @hst7 (And.intro @e0 (And.intro @hst9 (And.intro @i6 (And.intro @i5 (And.intro @cl (@hfe)))))))) ?_|refine kp (And.intro @qi_ (And.intro @hst7 (And.intro @e0 (And.intro @hst9 (And.intro @i6 (And.intro @i5 (And.intro @cl (@hfe)))))))) ?_
        refine⟨_,(ke @qi_), ?_⟩
        rw[←hR]
        exact⟨hE2.keys rfl,rfl,X2++ [(b8,stO)],G2,(by classical exact List.perm_iff_count.2 fun a=>by simp only[List.count_append,List.count_cons,List.count_nil]<;>omega),hbd2.trans hbd,hA3⟩
       |false=>
        rw[hd,if_pos ⟨rfl,rfl⟩] at hR
        first|with_reducible refine ks [] (And.intro @qi_ (And.intro @hst7 (And.intro @e0 (And.intro @hst9 (And.intro @i6 (And.intro @i5 (And.intro @cl (@hfe)))))))) ?_|refine kp (And.intro @qi_ (And.intro @hst7 (And.intro @e0 (And.intro @hst9 (And.intro @i6 (And.intro @i5 (And.intro @cl (@hfe)))))))) ?_
        exact Jump.mk ⟨0,false,r.e,kj_ r,r.S,G2,X2,b8,c+1⟩ rfl (by show 6 - (r.t.next+1)+1<6 - t1.next+1;omega) ⟨hE2.keys rfl,hnd2,hb8,hbd2.trans hbd,hA2,hBf, .inl ⟨rfl,by show c+1+ (6 - (r.t.next+1))≤6;omega,by show r.t.next+1<6;omega,by show xs_ (6 - (r.t.next+1)) _ _=_;rw[show 6 - (r.t.next+1)=q by omega];exact hR⟩⟩ rfl rfl
   ·have e0: ((r.e:Int) !=0)=true:=by
     rw[bne_iff_ne];omega
    rw[if_pos he] at hR
    first|with_reducible refine ks [] (And.intro @qi_ (And.intro @hst7 (@e0))) ?_|refine kp (And.intro @qi_ (And.intro @hst7 (@e0))) ?_
    exact Jump.mk ⟨1,r.did,r.e,nxT r,r.S,G2,X2,b8,c+1⟩ rfl (by show 0<6 - t1.next+1;omega) ⟨hE2.keys rfl,hnd2,hb8,hbd2.trans hbd,hA2,hBn, .inr ⟨rfl,by show c+1≤6;omega,r,rfl,rfl,rfl,hR⟩⟩ rfl rfl
  ·simp only[SL,SS,SH]
   simp only[ZB_,hasL,Bool.or_false,Bool.false_or,Bool.or_true,Bool.true_or,Nat.reduceBEq,beq_self_eq_true, ↓reduceIte,Bool.false_eq_true]
   refine kv ?_
   try with_reducible refine kT_ ?_
   have hk:=hnd
   simp only[keys,List.map_cons,List.nodup_cons,List.mem_cons,not_or] at hk
   have hb3:bt≠b8:=hk.1.1
   have hb1:bt∉keys X1:=hk.1.2
   have hb2:b8∉keys X1:=hk.2.1
   have rd8: ∀o w,zz_ w ((bt,o):: (b8,stO)::X1) b8=some stO:=fun o w=>ze_ (by simp[Sx.look,hb3])
   obtain⟨T1,hT1⟩: ∃T1,T1=({nxT r with ended:=true}:TkL):=⟨_,rfl⟩
   have hst: ∀a,zv_ (some (a,1)) (some (tkO (nxT r))) 6 (.bool true)=some (tkO T1):=fun a=>by rw[hT1];exact Kp_ (nxT r) true a
   have d1:T1.dir=r.t.dir:=by rw[hT1];rfl
   have d2:T1.name=r.t.name:=by rw[hT1];rfl
   have d3:T1.made=(nxT r).made:=by rw[hT1]
   have hnd1:T1.name.length≤900000:=by rw[d2];exact hB1.name
   have hBT: (js_ T1.name).length≤900004:=by rw[d2];exact wh_ (t:=nxT r) hB1
   have hA3:DkA (X1++ [(b8,stO)]) G1 r.S (N+7):=⟨hA1.P.mono (X':=X1++ [(b8,stO)]) fun b o h=>zk_ h,hA1.H,hA1.B.mono (by omega)⟩
   by_cases hm: (nxT r).made=true∧r.e≠9
   ·have m1:T1.made=true:=d3.trans hm.1
    have e9: ((r.e:Int) !=9)=true:=by
     rw[bne_iff_ne]
     have:=hm.2
     omega
    have hw:xe_ r=⟨false,r.e,T1,(qk_ r.S T1.dir (js_ T1.name)).1⟩:=by
     unfold xe_
     rw[if_pos hm,d1,d2,hT1]
    first|with_reducible refine ks [] (And.intro @qi_ (And.intro @hst (And.intro @m1 (@e9)))) ?_|refine kp (And.intro @qi_ (And.intro @hst (And.intro @m1 (@e9)))) ?_
    refine Cw.permL (M:=X1++ [(bt,tkO T1),(b8,stO)]) (by classical exact List.perm_iff_count.2 fun a=>by simp only[List.count_append,List.count_cons,List.count_nil]<;>omega) ?_
    have rdT:zz_ w (X1++ [(bt,tkO T1),(b8,stO)]) bt=some (tkO T1):=ze_ (by rw[zG_ hb1];simp[Sx.look])
    have hsp:=fun(w':World) (hX': ∀p,p∈X1→w'.heap[p.1]? =some p.2) (hn': (keys X1).Nodup)=>wY_ X1 G1 r.S T1.dir (js_ T1.name) w' hX' hn' hA1.P (by omega) (hA1.pend (by omega))
    simp only[hbd] at hsp
    refine Cw.regionO [0,1,2,3,5,6,7,4,8,9,10] [10] rfl (by kernel_rfl) (by kernel_rfl) ?_
    simp only[zl_, ↓zg_, ↓zc_, ↓zx_, ↓zw_,zd_]
    refine kq (And.intro @qi_ @rdT) ?_
    refine Ow.callX (X:=X1) (Y:= [(bt,tkO T1),(b8,stO)]) rfl rfl rfl Tryz.call77 (fun w' hw' hX' hn'=>hsp w' hX' hn') (fun v4 D4 hC4 hS4=> ?_)
    obtain⟨rfl,G',hbd',hP'⟩:=hS4
    refine kq @qi_ ?_
    first|with_reducible refine ks [] @qi_ ?_|refine kp @qi_ ?_
    refine⟨_,(ke @qi_), ?_⟩
    rw[←hR,hw]
    have hA4:=hA1.step hP' (j7_ r.S T1.dir (js_ T1.name) []) (by omega) (Nat.zero_le _)
    have hE1:Ext w (X++ [(bt,tkO t)]) (X1++ [(bt,tkO T1),(b8,stO)]):=(hE.keys (D':=(bt,tkO T1):: (b8,stO)::X1) rfl).perm (by classical exact List.perm_iff_count.2 fun a=>by simp only[List.count_append,List.count_cons,List.count_nil]<;>omega)
    exact⟨hE1.came hC4,rfl,D4++ [(b8,stO)],G',(by classical exact List.perm_iff_count.2 fun a=>by simp only[List.count_append,List.count_cons,List.count_nil]<;>omega),hbd',hA4.P.mono (X':=D4++ [(b8,stO)]) fun b o h=>zk_ h,hA4.H,hA4.B.mono (by omega)⟩
   ·have hw:xe_ r=⟨false,r.e,T1,r.S⟩:=by
     unfold xe_
     rw[if_neg hm,hT1]
    by_cases hm1: (nxT r).made=true
    ·have h9:r.e=9:=Decidable.byContradiction fun h=>hm ⟨hm1,h⟩
     have m1:T1.made=true:=d3.trans hm1
     have e9: ((r.e:Int) !=9)=false:=by rw[h9];rfl
     first|with_reducible refine ks [] (And.intro @qi_ (And.intro @hst (And.intro @m1 (@e9)))) ?_|refine kp (And.intro @qi_ (And.intro @hst (And.intro @m1 (@e9)))) ?_
     refine⟨_,(ke @qi_), ?_⟩
     rw[←hR,hw]
     exact⟨hE.keys rfl,rfl,X1++ [(b8,stO)],G1,(by classical exact List.perm_iff_count.2 fun a=>by simp only[List.count_append,List.count_cons,List.count_nil]<;>omega),hbd,hA3⟩
    ·have m1:T1.made=false:=d3.trans (by simpa using hm1)
     first|with_reducible refine ks [] (And.intro @qi_ (And.intro @hst (@m1))) ?_|refine kp (And.intro @qi_ (And.intro @hst (@m1))) ?_
     refine⟨_,(ke @qi_), ?_⟩
     rw[←hR,hw]
     exact⟨hE.keys rfl,rfl,X1++ [(b8,stO)],G1,(by classical exact List.perm_iff_count.2 fun a=>by simp only[List.count_append,List.count_cons,List.count_nil]<;>omega),hbd,hA3⟩
 ·intro key
  repeat ((try with_reducible refine Cw.go [999999] ?_);(simp(disch:=(first|assumption|omega| (simp only[kK_,kw_,UInt64.reduceToNat];try omega))) only[↓Sx.S0,Sx.S1,Tryz.fx,qi_,Nat.reduceAdd,Nat.reducePow,Int.reducePow,Nat.reduceBEq, ↓reduceIte,UInt8.reduceToNat,UInt16.reduceToNat,UInt32.reduceToNat,UInt64.reduceToNat,Int.reduceToNat]))
  refine Ow.callFV rfl Tryz.call166 (fun w' hw'=>aaH_ bt t w' (hw'.has _ _ (List.mem_append_right _ (List.mem_singleton.2 rfl)))) ?_
  have htf:t.ended=true∨t.ended=false:=by cases t.ended<;>simp
  rcases htf with hte|hte
  ·refine ko (And.intro @qi_ @hte) ?_
   repeat ((try with_reducible refine Cw.go [999999] ?_);(simp(disch:=(first|assumption|omega| (simp only[kK_,kw_,UInt64.reduceToNat];try omega))) only[↓Sx.S0,Sx.S1,Tryz.fx,qi_,Nat.reduceAdd,Nat.reducePow,Int.reducePow,Nat.reduceBEq, ↓reduceIte,UInt8.reduceToNat,UInt16.reduceToNat,UInt32.reduceToNat,UInt64.reduceToNat,Int.reduceToNat,hte]))
   refine⟨_,(ke @qi_), ?_⟩
   rw[if_pos hte]
   exact⟨Ext.refl w _,rfl,X,G,List.Perm.refl _,rfl,hA.P,hA.H,hA.B.mono (by omega)⟩
  ·have hie: (if t.ended=true then(⟨false,15,t,S⟩:StR) else xs_ (6 - t.next) t S)=xs_ (6 - t.next) t S:=by rw[if_neg (by rw[hte];simp)]
   refine ko (And.intro @qi_ @hte) ?_
   repeat ((try with_reducible refine Cw.go [999999] ?_);(simp(disch:=(first|assumption|omega| (simp only[kK_,kw_,UInt64.reduceToNat];try omega))) only[↓Sx.S0,Sx.S1,Tryz.fx,qi_,Nat.reduceAdd,Nat.reducePow,Int.reducePow,Nat.reduceBEq, ↓reduceIte,UInt8.reduceToNat,UInt16.reduceToNat,UInt32.reduceToNat,UInt64.reduceToNat,Int.reduceToNat,hte]))
   refine Ow.callFV rfl Tryz.call167 (fun w' hw'=>ais_ w') ?_
   refine ko @qi_ ?_
   repeat ((try with_reducible refine Cw.go [999999] ?_);(simp(disch:=(first|assumption|omega| (simp only[kK_,kw_,UInt64.reduceToNat];try omega))) only[↓Sx.S0,Sx.S1,Tryz.fx,qi_,Nat.reduceAdd,Nat.reducePow,Int.reducePow,Nat.reduceBEq, ↓reduceIte,UInt8.reduceToNat,UInt16.reduceToNat,UInt32.reduceToNat,UInt64.reduceToNat,Int.reduceToNat]))
   refine Ow.alloc rfl rfl Tryz.zr236 fun b8 hb8 hw8=> ?_
   rw[za_]
   refine Ow.permL (M:=(b8, .cells #[.nilFunc, .nilFunc, .nilFunc, .nilFunc, .nilFunc, .nilFunc] 236 (0,0)):: (X++ [(bt,tkO t)])) (by classical exact List.perm_iff_count.2 fun a=>by simp only[List.count_append,List.count_cons,List.count_nil]<;>omega) ?_
   refine ko (And.intro @qi_ @XJ_) ?_
   repeat ((try with_reducible refine Cw.go [999999] ?_);(simp(disch:=(first|assumption|omega| (simp only[kK_,kw_,UInt64.reduceToNat];try omega))) only[↓Sx.S0,Sx.S1,Tryz.fx,qi_,Nat.reduceAdd,Nat.reducePow,Int.reducePow,Nat.reduceBEq, ↓reduceIte,UInt8.reduceToNat,UInt16.reduceToNat,UInt32.reduceToNat,UInt64.reduceToNat,Int.reduceToNat]))
   refine Cw.permL (M:=(bt,tkO t):: (b8,stO)::X) (by classical exact List.perm_iff_count.2 fun a=>by simp only[List.count_append,List.count_cons,List.count_nil]<;>omega) ?_
   refine Cw.world fun w9 hw9=> ?_
   have hnd9:=hw9.nodup
   have key0:=fun f'=>key (⟨0,false,0,t,S,G,X,b8,0⟩) f'
   simp only[ZB_,hasL,Bool.or_false,Bool.false_or,Bool.or_true,Bool.true_or,Nat.reduceBEq,beq_self_eq_true, ↓reduceIte,Bool.false_eq_true] at key0
   clear key
   simp only[SL0,ZB_,hasL,Bool.or_false,Bool.false_or,Bool.or_true,Bool.true_or,Nat.reduceBEq,beq_self_eq_true, ↓reduceIte,Bool.false_eq_true] at key0
   refine Cw.label ?_
   refine key0 _ ?_ ?_
   ·refine⟨(((Ext.refl w (X++ [(bt,tkO t)])).app (o:=stO) hw8).perm (by classical exact List.perm_iff_count.2 fun a=>by simp only[List.count_append,List.count_cons,List.count_nil]<;>omega)),hnd9,hw8,rfl,hA,hB, .inl ⟨rfl,by show 0+ (6 - t.next)≤6;omega,hne hte,hie.symm⟩⟩
   ·rfl
end Go.Proofs
end
section
open Go Go.Proofs Go.Sx Go.StP
namespace Go.Proofs
set_option maxRecDepth 10000
set_option maxHeartbeats 1000000
set_option linter.unusedSimpArgs false
theorem afG_: ∀ (f:Nat) (t:TkL) (S:DiskL),(xs_ f t S).t.name=t.name∧(xs_ f t S).t.data=t.data
 |0,_,_=>⟨rfl,rfl⟩
 |f+1,t,S=>by
  obtain⟨-,h2,h3,-⟩:=aop_ t.next t S
  have hw: (xe_ (phT t.next t S)).t.name=t.name∧(xe_ (phT t.next t S)).t.data=t.data:=by
   unfold xe_
   split<;>exact⟨h2,h3⟩
  obtain⟨-,f2,f3,-⟩:=akJ_ t.next t S
  have ih:=afG_ f (kj_ (phT t.next t S)) (phT t.next t S).S
  rw[f2,f3] at ih
  unfold xs_
  split
  ·exact hw
  ·split
   ·exact ih
   ·exact⟨f2,f3⟩
theorem aro_ {t:TkL} (h:TkB t) (S:DiskL):TkB (xB_ t S).t:=by
 unfold xB_
 split
 ·exact h
 ·exact⟨by rw[(afG_ _ t S).1];exact h.name,by rw[(afG_ _ t S).2];exact h.data⟩
theorem amx_ {t:TkL} {S:DiskL} (he:t.ended=false) (hn:t.next<6): ((xB_ t S).done=true∨(xB_ t S).e≠0)∨((xB_ t S).t.ended=false∧t.next< (xB_ t S).t.next∧(xB_ t S).t.next<6):=by
 have hs:xB_ t S=xs_ (6 - t.next) t S:=by unfold xB_;rw[if_neg (by rw[he];simp)]
 rw[hs]
 rcases afV_ (6 - t.next) t S (by omega) (by omega) with⟨h1,-⟩ | ⟨-,h2,-⟩ | ⟨-,-,h3,h4,h5,-⟩
 ·exact .inl (.inr h1)
 ·exact .inl (.inl h2)
 ·exact .inr ⟨h3,h4,h5⟩
theorem ati_ (f:Nat) (t:TkL) (S:DiskL):runG (f+1) t S=(if(xB_ t S).done=true∨(xB_ t S).e≠0 then((xB_ t S).e,(xB_ t S).t,(xB_ t S).S) else runG f (xB_ t S).t (xB_ t S).S):=rfl
set_option linter.defProp false
def Z9_:=And.intro (And.intro (@zp_) (@zo_)) (And.intro (@Sx.tup2_0) (@Sx.tup2_1))
structure RnG where
 f:Nat
 t:TkL
 S:DiskL
 G:DkG
 X:zb_
def RnS (G:DkG) (bt:Nat) (R:Nat×TkL×DiskL) (N:Nat) (v:Value) (D:zb_):Prop:=v=vi (R.1:Nat)∧ ∃X' G',(X'++ [(bt,tkO R.2.1)]).Perm D∧G'.bd=G.bd∧DkA X' G' R.2.2 N
theorem aoO_ (X:zb_) (G:DkG) (S:DiskL) (N bt:Nat) (t:TkL) (w:World) (hX: ∀p,p∈X++ [(bt,tkO t)]→w.heap[p.1]? =some p.2) (hn: (keys (X++ [(bt,tkO t)])).Nodup) (hA:DkA X G S N) (hN:N<700000) (hB:TkB t) (he:t.ended=false) (hne:t.next<6):
  Rets Tryz.prog 94 #[vp G.bd 0,vp bt 0] w (XS w (X++ [(bt,tkO t)]) (RnS G bt (runG 6 t S) (N+42))):=by
 refine Rets.enterX Tryz.func94 rfl (rs:= [.tmp 4]) Tryz.results94 Tryz.ntmps94 hX hn ?_
 refine kf ?_
 first|with_reducible refine ks [] @Z9_ ?_|refine kp @Z9_ ?_
 refine Cw.loopG (G:=RnG) [8,9,10,7,11,12,5,6,13,14,15,16,17,18,4] (fun g=> []) (fun g=>g.X++ [(bt,tkO g.t)]) (fun g=>runG g.f g.t g.S=runG 6 t S∧6 - g.t.next≤g.f∧g.t.ended=false∧g.t.next<6∧g.G.bd=G.bd∧DkA g.X g.G g.S (N+7* (6 - g.f))∧TkB g.t∧g.f≤6∧Ext w (X++ [(bt,tkO t)]) (g.X++ [(bt,tkO g.t)])) (fun g=>g.f) ⟨6,t,S,G,X⟩ rfl rfl ?_ ?_
 ·exact⟨rfl,by show 6 - t.next≤6;omega,he,hne,rfl,hA,hB,Nat.le_refl 6,Ext.refl w _⟩
 ·intro g j hg
  refine kv ?_
  obtain⟨f,t1,S1,G1,X1⟩:=g
  obtain⟨hR,hf,hen,hnx,hbd,hA1,hB1,hf6,hE⟩:=hg
  simp only at hR hf hen hnx hbd hA1 hB1 hf6 hE
  obtain⟨f,rfl⟩: ∃q,f=q+1:=⟨f - 1,by omega⟩
  rw[ati_] at hR
  first|with_reducible refine ks [] @Z9_ ?_|refine kp @Z9_ ?_
  have hsp:=fun(w':World) (hX': ∀p,p∈X1++ [(bt,tkO t1)]→w'.heap[p.1]? =some p.2) (hn': (keys (X1++ [(bt,tkO t1)])).Nodup)=>ajU_ X1 G1 S1 (N+7* (6 - (f+1))) bt t1 w' hX' hn' hA1 (by omega) hB1 (fun _=>hnx)
  simp only[hbd] at hsp
  refine Ow.callX (X:=X1++ [(bt,tkO t1)]) (Y:= []) (List.append_nil _).symm rfl rfl Tryz.call129 (fun w' hw' hX' hn'=>hsp w' hX' hn') (fun v4 D4 hC4 hS4=> ?_)
  obtain⟨rfl,X2,G2,hp2,hbd2,hA2⟩:=hS4
  rw[List.append_nil]
  have hE2:=(hE.came0 hC4).perm hp2
  have hst:=amx_ (S:=S1) hen hnx
  have hsB:=aro_ hB1 S1
  refine Ow.permL hp2 ?_
  generalize xB_ t1 S1=r at*
  have hA3:DkA X2 G2 r.S (N+42):=⟨hA2.P,hA2.H,hA2.B.mono (by omega)⟩
  by_cases hd:r.done=true
  ·rw[if_pos (.inl hd)] at hR
   refine ko (And.intro @Z9_ @hd) ?_
   first|with_reducible refine ks [] (And.intro @Z9_ @hd) ?_|refine kp (And.intro @Z9_ @hd) ?_
   refine⟨_,(ke @Z9_), ?_⟩
   rw[←hR]
   exact⟨hE2,rfl,X2,G2,List.Perm.refl _,hbd2.trans hbd,hA3⟩
  ·have hd':r.done=false:=by simpa using hd
   by_cases he0:r.e=0
   ·have e0: ((r.e:Int) !=0)=false:=by rw[he0];rfl
    rw[if_neg (fun h=>by rcases h with h|h;exact hd h;exact h he0)] at hR
    obtain⟨s1,s2,s3⟩:=hst.resolve_left (fun h=>by rcases h with h|h;exact hd h;exact h he0)
    refine ko (And.intro @Z9_ (And.intro @hd' (@e0))) ?_
    first|with_reducible refine ks [] (And.intro @Z9_ (And.intro @hd' (@e0))) ?_|refine kp (And.intro @Z9_ (And.intro @hd' (@e0))) ?_
    exact Again.mk ⟨f,r.t,r.S,G2,X2⟩ (Nat.lt_succ_self f) ⟨hR,by show 6 - r.t.next≤f;omega,s1,s3,hbd2.trans hbd,⟨hA2.P,hA2.H,hA2.B.mono (by show _≤N+7* (6 - f);omega)⟩,hsB,by show f≤6;omega,hE2⟩ rfl rfl
   ·have e0: ((r.e:Int) !=0)=true:=by
     rw[bne_iff_ne];omega
    rw[if_pos (.inr he0)] at hR
    refine ko (And.intro @Z9_ (And.intro @hd' (@e0))) ?_
    first|with_reducible refine ks [] (And.intro @Z9_ (And.intro @hd' (@e0))) ?_|refine kp (And.intro @Z9_ (And.intro @hd' (@e0))) ?_
    refine⟨_,(ke @Z9_), ?_⟩
    rw[←hR]
    exact⟨hE2,rfl,X2,G2,List.Perm.refl _,hbd2.trans hbd,hA3⟩
end Go.Proofs
end
section
open Go Go.Proofs Go.Sx Go.StP
namespace Go.Proofs
set_option maxRecDepth 10000
set_option maxHeartbeats 400000
set_option linter.unusedSimpArgs false
theorem aoJ_ (dir name data:List UInt8) (light:Bool):q5_ (vc_ Tryz.prog 193) (zM_ Tryz.prog 193) [(0,vs dir),(1,vs name),(2,vs data),(3, .bool light)]=some (.agg #[vs dir,vs name,vs data, .bool light,vi 0, .bool false, .bool false]):=by
 rw[show vc_ Tryz.prog 193=some [(0,1),(1,1),(2,1),(3,1),(4,1),(5,1),(6,1)] from id (by kernel_rfl),Tryz.zr193];rfl
theorem aio_ (dir name data:List UInt8) (light:Bool) (w:World):
  Rets Tryz.prog 95 #[vs dir,vs name,vs data, .bool light] w (fun v D=> ∃b,w.heap.size≤b∧v=vp b 0∧D= [(b,tkO (tk0 dir name data light))]):=by
 refine Rets.enter Tryz.func95 rfl (rs:= [.tmp 8]) Tryz.results95 Tryz.ntmps95 ?_
 refine kf ?_
 first|with_reducible refine ks [] @Nat.add_zero ?_|refine kp @Nat.add_zero ?_
 refine Ow.build (.agg #[vs dir,vs name,vs data, .bool light,vi 0, .bool false, .bool false]) rfl (aoJ_ dir name data light) ?_
 refine Ow.box rfl rfl fun b1 hb1 hw1=> ?_
 refine ko @Nat.add_zero ?_
 first|with_reducible refine ks [] @Nat.add_zero ?_|refine kp @Nat.add_zero ?_
 exact⟨_,rfl,b1,hw1,rfl,rfl⟩
end Go.Proofs
end
section
open Go Go.Proofs Go.Sx Go.StP
namespace Go.Proofs
set_option maxRecDepth 10000
set_option maxHeartbeats 1000000
set_option linter.unusedSimpArgs false
def PubS (G:DkG) (R:Nat×DiskL) (N:Nat) (v:Value) (D:zb_):Prop:=v=vi (R.1:Nat)∧ ∃G',G'.bd=G.bd∧DkA D G' R.2 N
theorem aim_ (X:zb_) (G:DkG) (S:DiskL) (N:Nat) (dir name data:List UInt8) (w:World) (hX: ∀p,p∈X→w.heap[p.1]? =some p.2) (hn: (keys X).Nodup) (hA:DkA X G S N) (hN:N<700000) (hnm:name.length≤900000) (hdt:data.length≤1000000):
  Rets Tryz.prog 39 #[vp G.bd 0,vs dir,vs name,vs data] w (XS w X (PubS G (pubV S dir name data true) (N+42))):=by
 have hB:TkB (tk0 dir name data true):=⟨hnm,hdt⟩
 refine Rets.enterX Tryz.func39 rfl (rs:= [.tmp 8]) Tryz.results39 Tryz.ntmps39 hX hn ?_
 refine kf ?_
 first|with_reducible refine ks [] @Nat.add_zero ?_|refine kp @Nat.add_zero ?_
 refine Ow.callF rfl rfl Tryz.call95 (S:=fun B v D=> ∃b',B≤b'∧v=vp b' 0∧D= [(b',tkO (tk0 dir name data true))]) (fun w' hw'=>aio_ dir name data true w') ?_
 rintro B v D hab hB0 ⟨b1,hb1,rfl,rfl⟩
 refine⟨_,Mrg.fresh (by intro q hq;simp only[keys,List.map_cons,List.map_nil,List.mem_singleton] at hq;omega), ?_⟩
 refine Ow.callX (X:=X++ [(b1,tkO (tk0 dir name data true))]) (Y:= []) (List.append_nil _).symm rfl rfl Tryz.call94 (fun w' hw' hX' hn'=>aoO_ X G S N b1 (tk0 dir name data true) w' hX' hn' hA hN hB rfl (Nat.succ_pos 5)) (fun v4 D4 hC4 hS4=> ?_)
 obtain⟨rfl,X2,G2,hp2,hbd2,hA2⟩:=hS4
 rw[List.append_nil]
 have hE2:=(((Ext.refl w X).app (o:=tkO (tk0 dir name data true)) (by omega)).came0 hC4).perm hp2
 refine Ow.permL hp2 ?_
 have hr:=arz_ S dir name data true
 rw[←hr]
 refine ko @Nat.add_zero ?_
 first|with_reducible refine ks [] @Nat.add_zero ?_|refine kp @Nat.add_zero ?_
 refine⟨_,(ke @Nat.add_zero), ?_⟩
 exact⟨hE2,rfl,G2,hbd2,hA2.P.mono fun b o h=>zk_ h,hA2.H,hA2.B⟩
end Go.Proofs
end
section
open Go Go.Proofs Go.Sx Go.StP
namespace Go.Proofs
set_option maxRecDepth 10000
set_option maxHeartbeats 400000
set_option linter.unusedSimpArgs false
theorem ar5_ {S:DiskL} (hB:DkB S) (dir:List UInt8): (Xj_ S dir).length≤1000000∧ ∀s,s∈Xj_ S dir→s.length≤1000000:=by
 unfold Xj_
 split
 ·exact⟨Nat.zero_le _,fun s hs=>by cases hs⟩
 ·rename_i h
  obtain⟨k,hk,-⟩:=QH_ (S:=S) (dir:=dir) (names:= []) (by omega)
  rw[hk]
  have hk3:=(zE_ hk).1
  refine⟨by rw[List.length_map];exact(hB k hk3).1,fun s hs=> ?_⟩
  obtain⟨p,hp,rfl⟩:=List.mem_map.1 hs
  exact(hB k hk3).2 p hp
set_option linter.defProp false
theorem vq_ {A B:zb_} (h: (keys (A++B)).Nodup) {b:Nat} {o:Obj} (hb:Sx.look B b=some o):Sx.look (A++B) b=some o:=by
 rw[zj_,List.nodup_append] at h
 rw[zG_ fun hm=>h.2.2 b hm b (List.mem_map.2 ⟨_,zy_ hb,rfl⟩) rfl]
 exact hb
structure ClnM (N k M:Nat):Prop where
 z:k=0→M≤N
 o:k≤1→M≤2*N
 t:k≤2→M≤4*N
 e:M≤8*N
theorem ClnM.next {N k M m:Nat} (h:ClnM N k M) (hk:k<3) (hm:m≤M):ClnM N (k+1) (M+m):=by
 obtain⟨a,b,c,d⟩:=h
 exact⟨by omega,by omega,by omega,by omega⟩
set_option linter.defProp false
end Go.Proofs
end
section
open Go Go.Proofs Go.Sx Go.StP Go.Dig
namespace Go.Proofs
set_option maxRecDepth 10000
set_option maxHeartbeats 1000000
set_option linter.unusedSimpArgs false
structure GlbA (w:World) (m:Nat):Prop where
 C:GlobC w
 E:GlobE w
 D:ame_ w
 le:m≤w.heap.size
 c: (2:Nat)<m
 e: (4:Nat)<m
 d: (0:Nat)<m
theorem GlbA.mk0 {w:World} (hC:GlobC w) (hE:GlobE w) (hD:ame_ w):GlbA w w.heap.size:=by
 have h1:=XB_ hC
 obtain⟨e0,e1,f0,f1,h2,h3⟩:=id hE
 obtain⟨e,fz,h4⟩:=id hD
 exact⟨hC,hE,hD,Nat.le_refl _,h1,(Array.getElem?_eq_some_iff.1 h3).1,(Array.getElem?_eq_some_iff.1 h4).1⟩
theorem GlbA.of {w w':World} {L:zb_} {m:Nat} (h:GlbA w m) (hw:Hp w L w') (hL: ∀b,b∈keys L→m≤b):GlbA w' m:=
 ⟨h.C.of hw fun hm=>by have:=hL _ hm;have:=h.c;omega,h.E.of hw fun b hb=>by have:=hL _ hb;have:=h.e;omega,by
  obtain⟨e,fz,h4⟩:=id h.D
  exact⟨e,fz,(hw.old _ (Array.getElem?_eq_some_iff.1 h4).1 fun hm=>by have:=hL _ hm;have:=h.d;omega).trans h4⟩,Nat.le_trans h.le hw.size,h.c,h.e,h.d⟩
theorem GlbA.new {w w':World} {L:zb_} {m:Nat} (h:GlbA w m) (hw:Hp w L w') (hn:New w.heap.size L):GlbA w' m:=h.of hw fun b hb=>Nat.le_trans h.le (hn.le b hb)
theorem GlbA.ext {w w':World} {X L:zb_} {m:Nat} (h:GlbA w m) (hX: ∀b,b∈keys X→m≤b) (hw:Hp w L w') (hE:Ext w X L):GlbA w' m:=h.of hw fun b hb=>(hE.new b hb).elim (hX b) fun hb=>Nat.le_trans h.le hb
theorem aau_ {w:World} {X D E:zb_} (h:Ext w X D) (hk:keys E=keys D):Ext w X E:=⟨fun c hc=>h.new c (by rw[←hk];exact hc),fun c hc=>by rw[hk];exact h.all c hc⟩
theorem ahf_ {w:World} {X D E:zb_} (h:Ext w X D) (hN:New w.heap.size E):Ext w X (D++E):=
 ⟨fun c hc=>by
  rw[zj_] at hc
  exact(List.mem_append.1 hc).elim (h.new c) fun hc=> .inr (hN.le c hc),fun c hc=>by rw[zj_];exact List.mem_append_left _ (h.all c hc)⟩
def LpS (G:DkG) (R:PutR) (N:Nat) (v:Value) (D:zb_):Prop:=v= .tuple #[.agg (a8 R.x.l),vi (R.e:Nat)]∧ ∃G',G'.bd=G.bd∧DkA D G' R.S N
set_option linter.defProp false
def jn_:=And.intro (And.intro (And.intro (@jo_) (@qF_)) (And.intro (@qE_) (@qD_))) (And.intro (And.intro (@Sx.tup2_0) (@Sx.tup2_1)) (And.intro (@zp_) (And.intro (@zo_) (@xt_))))
theorem aac_ (X:zb_) (G:DkG) (S:DiskL) (N m:Nat) (k:Int) (t:List UInt8) (w:World) (hX: ∀p,p∈X→w.heap[p.1]? =some p.2) (hn: (keys X).Nodup) (hA:DkA X G S N) (hN:N<700000) (hG:GlbA w m) (hm: ∀b,b∈keys X→m≤b):
  Rets Tryz.prog 60 #[vp G.bd 0,obV k t] w (XS w X (LpS G (putL S k t) (N+42))):=by
 have hzb:q5_ (vc_ Tryz.prog 84) (zM_ Tryz.prog 84) []=some (.agg (a8 id0.l)):=id (by kernel_rfl)
 have hi0:=id0.h
 have hup: ∀ {Y:zb_} {G':DkG} {S':DiskL},DkA Y G' S' N→DkA Y G' S' (N+42):=fun h=>⟨h.P,h.H,h.B.mono (by omega)⟩
 refine Rets.enterX Tryz.func60 rfl (rs:= [.cell 4 84, .tmp 5]) Tryz.results60 Tryz.ntmps60 hX hn ?_
 refine kf ?_
 first|with_reducible refine ks [] @jn_ ?_|refine kp @jn_ ?_
 refine Ow.box rfl rfl fun b3 hb3 hw3=> ?_
 simp only[zY_,zV_,zX_,za_,List.nil_append,List.cons_append]
 refine Ow.permL (M:=(b3, .cells #[vi k,vs t] 82 (0,0))::X) (by classical exact List.perm_iff_count.2 fun a=>by simp only[List.count_append,List.count_cons,List.count_nil]<;>omega) ?_
 refine ko @jn_ ?_
 refine Ow.alloc rfl rfl vO_ fun b4 hb4 hw4=> ?_
 simp only[za_,List.nil_append,List.cons_append]
 have h34:b3<b4:=zi_ hb4 (by simp[keys])
 refine Ow.permL (M:=(b4, .cells (a8 id0.l) 84 (0,0)):: (b3, .cells #[vi k,vs t] 82 (0,0))::X) (by classical exact List.perm_iff_count.2 fun a=>by simp only[List.count_append,List.count_cons,List.count_nil]<;>omega) ?_
 have hE4:Ext w X ((b4, .cells (a8 id0.l) 84 (0,0)):: (b3, .cells #[vi k,vs t] 82 (0,0))::X):=Q3_ (Q3_ (Ext.refl w X) hw3) hw4
 have hA3:=hA.mono fun b o h=>vF_ (x:= .cells #[vi k,vs t] 82 (0,0)) hb3 h
 have hA4:=hA3.mono fun b o h=>vF_ (x:= .cells (a8 id0.l) 84 (0,0)) hb4 h
 refine ko @jn_ ?_
 first|with_reducible refine ks [] @jn_ ?_|refine kp @jn_ ?_
 refine Ow.callFV rfl Tryz.call104 (fun w' hw'=>ahO_ k t w' (hG.ext hm hw' hE4).E) ?_
 refine ko @jn_ ?_
 refine Ow.alloc rfl rfl vO_ fun b6 hb6 hw6=> ?_
 simp only[za_,List.nil_append,List.cons_append]
 have h36:b3<b6:=zi_ hb6 (by simp[keys])
 have h46:b4<b6:=zi_ hb6 (by simp[keys])
 refine Ow.permL (M:=(b6, .cells (a8 id0.l) 84 (0,0)):: (b4, .cells (a8 id0.l) 84 (0,0)):: (b3, .cells #[vi k,vs t] 82 (0,0))::X) (by classical exact List.perm_iff_count.2 fun a=>by simp only[List.count_append,List.count_cons,List.count_nil]<;>omega) ?_
 have hP:putL S k t=if xH_ k t=false then⟨id0,1,S⟩ else if(Xy_ S (idV k t)).e=0 then⟨idV k t,0,S⟩ else if(pubV S zf_ (zU_ (idV k t).l) (Je_ k t) true).1=0 then⟨idV k t,0,(pubV S zf_ (zU_ (idV k t).l) (Je_ k t) true).2⟩ else⟨id0,(pubV S zf_ (zU_ (idV k t).l) (Je_ k t) true).1,(pubV S zf_ (zU_ (idV k t).l) (Je_ k t) true).2⟩:=rfl
 have hlb:=fun h=>ah4_ (k:=k) (t:=t) h
 generalize idV k t=x at*
 have hx:=x.h
 have hxl: (zU_ x.l).length=64:=by rw[qo_,x.h]
 have hE6:Ext w X ((b6, .cells (a8 x.l) 84 (0,0)):: (b4, .cells (a8 id0.l) 84 (0,0)):: (b3, .cells #[vi k,vs t] 82 (0,0))::X):=Q3_ hE4 hw6
 have hA6:=hA4.mono fun b o h=>vF_ (x:= .cells (a8 x.l) 84 (0,0)) hb6 h
 refine ko @jn_ ?_
 cases hr:xH_ k t with
 |false=>
  rw[hr,if_pos rfl] at hP
  first|with_reducible refine ks [] @jn_ ?_|refine kp @jn_ ?_
  refine Ow.build _ rfl hzb ?_
  refine ko @jn_ ?_
  first|with_reducible refine ks [] @jn_ ?_|refine kp @jn_ ?_
  refine⟨_,(ke @jn_), ?_⟩
  rw[hP]
  exact⟨hE6,rfl,G,rfl,hup hA6⟩
 |true=>
  rw[hr,if_neg (by simp)] at hP
  have hll:=hlb hr
  first|with_reducible refine ks [] @jn_ ?_|refine kp @jn_ ?_
  refine Ow.callFV rfl Tryz.call62 (fun w' hw'=>kn_ w' G S x (hA6.P.world hw') hA6.P.ok (hG.ext hm hw' hE6).C (hG.ext hm hw' hE6).E) ?_
  generalize Xy_ S x=g at*
  obtain⟨gk,gt,ge⟩:=g
  simp only at hP ⊢
  refine ko @jn_ ?_
  refine Ow.alloc rfl rfl ZN_ fun b8 hb8 hw8=> ?_
  simp only[za_,List.nil_append,List.cons_append]
  have h38:b3<b8:=zi_ hb8 (by simp[keys])
  have h48:b4<b8:=zi_ hb8 (by simp[keys])
  have h68:b6<b8:=zi_ hb8 (by simp[keys])
  refine Ow.permL (M:=(b8, .cells #[vi 0,vs []] 82 (0,0)):: (b6, .cells (a8 x.l) 84 (0,0)):: (b4, .cells (a8 id0.l) 84 (0,0)):: (b3, .cells #[vi k,vs t] 82 (0,0))::X) (by classical exact List.perm_iff_count.2 fun a=>by simp only[List.count_append,List.count_cons,List.count_nil]<;>omega) ?_
  refine Ow.world fun wz hwz=> ?_
  have hnd:=hwz.nodup
  clear hwz
  have hE8:Ext w X ((b8, .cells #[vi gk,vs gt] 82 (0,0)):: (b6, .cells (a8 x.l) 84 (0,0)):: (b4, .cells (a8 id0.l) 84 (0,0)):: (b3, .cells #[vi k,vs t] 82 (0,0))::X):=Q3_ hE6 hw8
  have hA8:=hA6.mono fun b o h=>vF_ (x:= .cells #[vi gk,vs gt] 82 (0,0)) hb8 h
  refine ko @jn_ ?_
  by_cases he:ge=0
  ·subst he
   rw[if_pos rfl] at hP
   have e1: (((0:Nat):Int)==0)=true:=rfl
   first|with_reducible refine ks [] (And.intro @jn_ @e1) ?_|refine kp (And.intro @jn_ @e1) ?_
   refine⟨_,(ke @jn_), ?_⟩
   rw[hP]
   exact⟨aau_ hE8 rfl,rfl,G,rfl,hup (hA.mono fun b o h=>vq_ (A:= [(b8, .cells #[vi gk,vs gt] 82 (0,0)),(b6, .cells (a8 x.l) 84 (0,0)),(b4, .cells (a8 x.l) 84 (0,0)),(b3, .cells #[vi k,vs t] 82 (0,0))]) hnd h)⟩
  ·rw[if_neg he] at hP
   have e1: ((ge:Int)==0)=false:=beq_eq_false_iff_ne.2 (by omega)
   first|with_reducible refine ks [] (And.intro @jn_ @e1) ?_|refine kp (And.intro @jn_ @e1) ?_
   refine Ow.callC rfl rfl Tryz.call49 (fun w' hw'=>aeh_ k t w' (hG.ext hm hw' hE8).C) (fun B9 v9 D9 hA9 hB9 hN9 hS9=> ?_)
   rw[hr,if_pos rfl] at hS9
   subst hS9
   have hN9':New w.heap.size D9:=hN9.mono hB9
   refine ko @jn_ ?_
   have hE9:Ext w X (X++ ((b8, .cells #[vi gk,vs gt] 82 (0,0)):: (b6, .cells (a8 x.l) 84 (0,0)):: (b4, .cells (a8 id0.l) 84 (0,0)):: (b3, .cells #[vi k,vs t] 82 (0,0))::D9)):=(ahf_ hE8 hN9').perm (by classical exact List.perm_iff_count.2 fun a=>by simp only[List.count_append,List.count_cons,List.count_nil]<;>omega)
   first|with_reducible refine ks [] @jn_ ?_|refine kp @jn_ ?_
   refine Ow.callFV rfl Tryz.call52 (fun w' hw'=>j9_ x.l hx w') ?_
   refine ko @jn_ ?_
   refine Ow.permL (M:=X++ ((b8, .cells #[vi gk,vs gt] 82 (0,0)):: (b6, .cells (a8 x.l) 84 (0,0)):: (b4, .cells (a8 id0.l) 84 (0,0)):: (b3, .cells #[vi k,vs t] 82 (0,0))::D9)) (by classical exact List.perm_iff_count.2 fun a=>by simp only[List.count_append,List.count_cons,List.count_nil]<;>omega) ?_
   refine Ow.callX (X:=X) (Y:=(b8, .cells #[vi gk,vs gt] 82 (0,0)):: (b6, .cells (a8 x.l) 84 (0,0)):: (b4, .cells (a8 id0.l) 84 (0,0)):: (b3, .cells #[vi k,vs t] 82 (0,0))::D9) rfl rfl rfl Tryz.call39 (fun w' hw' hX' hn'=>aim_ X G S N zf_ (zU_ x.l) (Je_ k t) w' hX' hn' hA hN (by omega) (by omega)) (fun v4 D4 hC4 hS4=> ?_)
   obtain⟨rfl,G',hbd,hA'⟩:=hS4
   generalize pubV S zf_ (zU_ x.l) (Je_ k t) true=q at*
   obtain⟨e,S'⟩:=q
   simp only at hP hA' ⊢
   have hE10:Ext w X ((b8, .cells #[vi gk,vs gt] 82 (0,0)):: (b6, .cells (a8 x.l) 84 (0,0)):: (b4, .cells (a8 id0.l) 84 (0,0)):: (b3, .cells #[vi k,vs t] 82 (0,0)):: (D4++D9)):=(hE9.came hC4).perm (by classical exact List.perm_iff_count.2 fun a=>by simp only[List.count_append,List.count_cons,List.count_nil]<;>omega)
   refine Ow.permL (M:=(b8, .cells #[vi gk,vs gt] 82 (0,0)):: (b6, .cells (a8 x.l) 84 (0,0)):: (b4, .cells (a8 id0.l) 84 (0,0)):: (b3, .cells #[vi k,vs t] 82 (0,0)):: (D4++D9)) (by classical exact List.perm_iff_count.2 fun a=>by simp only[List.count_append,List.count_cons,List.count_nil]<;>omega) ?_
   refine Ow.world fun wz hwz=> ?_
   have hnd2:=hwz.nodup
   clear hwz
   refine ko @jn_ ?_
   by_cases he0:e=0
   ·subst he0
    rw[if_pos rfl] at hP
    have e2: (((0:Nat):Int) !=0)=false:=rfl
    first|with_reducible refine ks [] (And.intro @jn_ @e2) ?_|refine kp (And.intro @jn_ @e2) ?_
    refine⟨_,(ke @jn_), ?_⟩
    rw[hP]
    exact⟨aau_ hE10 rfl,rfl,G',hbd,hA'.mono fun b o h=>vq_ (A:= [(b8, .cells #[vi gk,vs gt] 82 (0,0)),(b6, .cells (a8 x.l) 84 (0,0)),(b4, .cells (a8 x.l) 84 (0,0)),(b3, .cells #[vi k,vs t] 82 (0,0))]) hnd2 (zk_ h)⟩
   ·rw[if_neg he0] at hP
    have e2:=jQ_ he0
    first|with_reducible refine ks [] (And.intro @jn_ @e2) ?_|refine kp (And.intro @jn_ @e2) ?_
    refine Ow.build _ rfl hzb ?_
    refine ko @jn_ ?_
    first|with_reducible refine ks [] @jn_ ?_|refine kp @jn_ ?_
    refine⟨_,(ke @jn_), ?_⟩
    rw[hP]
    exact⟨aau_ hE10 rfl,rfl,G',hbd,hA'.mono fun b o h=>vq_ (A:= [(b8, .cells #[vi gk,vs gt] 82 (0,0)),(b6, .cells (a8 x.l) 84 (0,0)),(b4, .cells (a8 id0.l) 84 (0,0)),(b3, .cells #[vi k,vs t] 82 (0,0))]) hnd2 (zk_ h)⟩
end Go.Proofs
end
section
open Go Go.Proofs Go.Sx Go.StP Go.Dig
namespace Go.Proofs
set_option maxRecDepth 10000
set_option maxHeartbeats 1000000
set_option linter.unusedSimpArgs false
set_option linter.defProp false
def jm_:=And.intro (And.intro (And.intro (@jo_) (@qF_)) (And.intro (@qE_) (@qD_))) (And.intro (And.intro (@Sx.tup2_0) (@Sx.tup2_1)) (And.intro (@zp_) (And.intro (@zo_) (@xt_))))
def LsS (G:DkG) (R:Nat×DiskL) (N:Nat) (v:Value) (D:zb_):Prop:=v=vi (R.1:Nat)∧ ∃G',G'.bd=G.bd∧DkA D G' R.2 N
theorem abw_ (X:zb_) (G:DkG) (S:DiskL) (N:Nat) (x:IdL) (w:World) (hX: ∀p,p∈X→w.heap[p.1]? =some p.2) (hn: (keys X).Nodup) (hA:DkA X G S N) (hN:N<700000):
  Rets Tryz.prog 61 #[vp G.bd 0, .agg (a8 x.l)] w (XS w X (LsS G ((qk_ S zf_ (zU_ x.l)).2,(qk_ S zf_ (zU_ x.l)).1) (N+1))):=by
 have hx:=x.h
 have hxl: (zU_ x.l).length=64:=by rw[qo_,x.h]
 refine Rets.enterX Tryz.func61 rfl (rs:= [.tmp 4]) Tryz.results61 Tryz.ntmps61 hX hn ?_
 refine kf ?_
 first|with_reducible refine ks [] @jm_ ?_|refine kp @jm_ ?_
 refine Ow.box rfl rfl fun b3 hb3 hw3=> ?_
 simp only[zY_,zV_,zX_,za_,List.nil_append,List.cons_append]
 have hE3:Ext w X (X++ [(b3, .cells (a8 x.l) 84 (0,0))]):=(Ext.refl w X).app hw3
 refine Ow.permL (M:=(b3, .cells (a8 x.l) 84 (0,0))::X) (by classical exact List.perm_iff_count.2 fun a=>by simp only[List.count_append,List.count_cons,List.count_nil]<;>omega) ?_
 refine ko @jm_ ?_
 first|with_reducible refine ks [] @jm_ ?_|refine kp @jm_ ?_
 refine Ow.callFV rfl Tryz.call52 (fun w' hw'=>j9_ x.l hx w') ?_
 refine ko @jm_ ?_
 refine Ow.permL (M:=X++ [(b3, .cells (a8 x.l) 84 (0,0))]) (by classical exact List.perm_iff_count.2 fun a=>by simp only[List.count_append,List.count_cons,List.count_nil]<;>omega) ?_
 refine Ow.callX (X:=X) (Y:= [(b3, .cells (a8 x.l) 84 (0,0))]) rfl rfl rfl Tryz.call77 (fun w' hw' hX' hn'=>wY_ X G S zf_ (zU_ x.l) w' hX' hn' hA.P (by omega) (hA.pend (by omega))) (fun v4 D4 hC4 hS4=> ?_)
 obtain⟨rfl,G',hbd,hP'⟩:=hS4
 have hE4:=hE3.came hC4
 refine ko @jm_ ?_
 first|with_reducible refine ks [] @jm_ ?_|refine kp @jm_ ?_
 refine⟨_,(ke @jm_), ?_⟩
 exact⟨hE4,rfl,G',hbd,(hA.step hP' (j7_ S zf_ (zU_ x.l) []) (by omega) (by simp)).mono fun b o h=>zk_ h⟩
structure SetG where
 i:Nat
 S:DiskL
 G:DkG
 X:zb_
 DG:zb_
theorem ajT_ {ids:List IdL} {i:Nat} (hi:i<ids.length) (S:DiskL):wo_ (ids.drop i) S=if(q0_ S zf_ (zU_ (ids.getD i id0).l)).2≠0∧(q0_ S zf_ (zU_ (ids.getD i id0).l)).2≠6 then((q0_ S zf_ (zU_ (ids.getD i id0).l)).2,(q0_ S zf_ (zU_ (ids.getD i id0).l)).1) else wo_ (ids.drop (i+1)) (q0_ S zf_ (zU_ (ids.getD i id0).l)).1:=by
 rw[Kq_ (z:=id0) hi]
 rfl
theorem aao_ (X:zb_) (G:DkG) (S:DiskL) (N:Nat) (v:Value) (ids:List IdL) (b off:Nat) (arr:Array Value) (E:TypeId) (fz:Nat×Nat) (w:World) (hX: ∀p,p∈X→w.heap[p.1]? =some p.2) (hn: (keys X).Nodup) (hA:DkA X G S N) (hN:N+ids.length<700000) (hr:RowS 32 Z7_ id0 w v ids b off arr E fz) (hbw:0<ids.length→b<w.heap.size) (hbX:0<ids.length→b∉keys X):
  Rets Tryz.prog 63 #[vp G.bd 0,v] w (XS w X (LsS G (Qg_ ids S) (N+ids.length+1))):=by
 have ln:=fun x=>hr.len x
 have hS:Qg_ ids S=if(wo_ ids S).1≠0 then wo_ ids S else if ids= [] then(0,(wo_ ids S).2) else((zR_ (wo_ ids S).2 zf_).2,(zR_ (wo_ ids S).2 zf_).1):=rfl
 refine Rets.enterX Tryz.func63 rfl (rs:= [.tmp 4]) Tryz.results63 Tryz.ntmps63 hX hn ?_
 refine kf ?_
 first|with_reducible refine ks [] (And.intro @jm_ @ln) ?_|refine kp (And.intro @jm_ @ln) ?_
 refine Cw.permL (M:=X++ []) (by rw[List.append_nil]) ?_
 refine Cw.loopG (G:=SetG) [11,12,13,6,14,15,16,17,7,18,19,20,21,22,23,24,4,25,10] (fun g=> [(10,vi g.i)]) (fun g=>g.X++g.DG) (fun g=>g.i≤ids.length∧wo_ (ids.drop g.i) g.S=wo_ ids S∧g.G.bd=G.bd∧DkA g.X g.G g.S (N+g.i)∧Ext w X (g.X++g.DG)) (fun g=>ids.length - g.i) ⟨0,S,G,X,[]⟩ rfl rfl ?_ ?_
 ·exact⟨Nat.zero_le _,rfl,rfl,hA,by rw[List.append_nil];exact Ext.refl w X⟩
 intro g j hg
 refine kv ?_
 clear hA
 obtain⟨i,S1,G1,X1,DG⟩:=g
 simp only at hg ⊢
 obtain⟨hi,hR,hbd,hA1,hE⟩:=hg
 rw[←hbd]
 by_cases hlt:i<ids.length
 ·have d1:decide ((i:Int)< (ids.length:Int))=true:=decide_eq_true (by omega)
  have h0:0<ids.length:=by omega
  have hnb:b∉keys (X1++DG):=fun hm=>(hE.new b hm).elim (hbX h0) fun h=>by have:=hbw h0;omega
  have rd:zz_ w (X1++DG) b=some (.cells arr E fz):=by rw[qN_ hnb];exact hr.has h0
  have ix:=hr.idx true i hlt
  have ld:=W5_ hr hlt
  rw[ajT_ hlt] at hR
  generalize ids.getD i id0=x at*
  have hx:=x.h
  have hxl: (zU_ x.l).length=64:=by rw[qo_,x.h]
  first|with_reducible refine ks [] (And.intro @jm_ (And.intro @d1 (And.intro @ln (And.intro @ix (And.intro @rd (@ld)))))) ?_|refine kp (And.intro @jm_ (And.intro @d1 (And.intro @ln (And.intro @ix (And.intro @rd (@ld)))))) ?_
  refine Ow.alloc rfl rfl vO_ fun b6 hb6 hw6=> ?_
  simp only[za_,List.nil_append,List.cons_append]
  refine Ow.permL (M:=(b6, .cells (a8 id0.l) 84 (0,0)):: (X1++DG)) (by classical exact List.perm_iff_count.2 fun a=>by simp only[List.count_append,List.count_cons,List.count_nil]<;>omega) ?_
  have hi0:=id0.h
  have hE6:Ext w X (X1++ ((b6, .cells (a8 x.l) 84 (0,0))::DG)):=(Q3_ (o:= .cells (a8 x.l) 84 (0,0)) hE hw6).perm (by classical exact List.perm_iff_count.2 fun a=>by simp only[List.count_append,List.count_cons,List.count_nil]<;>omega)
  refine ko @jm_ ?_
  first|with_reducible refine ks [] @jm_ ?_|refine kp @jm_ ?_
  refine Ow.callFV rfl Tryz.call52 (fun w' hw'=>j9_ x.l hx w') ?_
  refine ko @jm_ ?_
  refine Ow.permL (M:=X1++ ((b6, .cells (a8 x.l) 84 (0,0))::DG)) (by classical exact List.perm_iff_count.2 fun a=>by simp only[List.count_append,List.count_cons,List.count_nil]<;>omega) ?_
  refine Ow.callX (X:=X1) (Y:=(b6, .cells (a8 x.l) 84 (0,0))::DG) rfl rfl rfl Tryz.call20 (fun w' hw' hX' hn'=>Wo_ X1 G1 S1 zf_ (zU_ x.l) w' hX' hn' hA1.P (by omega)) (fun v4 D4 hC4 hS4=> ?_)
  obtain⟨rfl,hP2⟩:=hS4
  have hE4:=hE6.came hC4
  have hA2:=hA1.step hP2 (QO_ S1 zf_ (zU_ x.l) []) (by omega) (by simp)
  generalize q0_ S1 zf_ (zU_ x.l)=q at*
  obtain⟨S2,e⟩:=q
  simp only at hR hA2 ⊢
  by_cases he:e≠0∧e≠6
  ·have e1:=jQ_ he.1
   have e2: ((e:Int) !=6)=true:=bne_iff_ne.2 (by have:=he.2;omega)
   rw[if_pos he] at hR
   rw[←hR,if_pos he.1] at hS
   refine ko @jm_ ?_
   first|with_reducible refine ks [] (And.intro @jm_ (And.intro @e1 (@e2))) ?_|refine kp (And.intro @jm_ (And.intro @e1 (@e2))) ?_
   refine⟨_,(ke @jm_), ?_⟩
   rw[hS]
   refine⟨hE4,rfl,G1,hbd, ?_⟩
   exact⟨hA2.P.mono fun b o h=>zk_ h,hA2.H,hA2.B.mono (show N+i+1≤N+ids.length+1 by omega)⟩
  ·rw[if_neg he] at hR
   by_cases e0:e=0
   ·subst e0
    have e1: (((0:Nat):Int) !=0)=false:=rfl
    refine ko @jm_ ?_
    first|with_reducible refine ks [] (And.intro @jm_ @e1) ?_|refine kp (And.intro @jm_ @e1) ?_
    exact Again.mk ⟨i+1,S2,G1,D4,(b6, .cells (a8 x.l) 84 (0,0))::DG⟩ (by show ids.length - (i+1)<ids.length - i;omega) ⟨hlt,hR,rfl,hA2,hE4⟩ rfl rfl
   ·obtain rfl:e=6:=Classical.byContradiction fun h6=>he ⟨e0,h6⟩
    have e1: (((6:Nat):Int) !=0)=true:=rfl
    have e2: (((6:Nat):Int) !=6)=false:=rfl
    refine ko @jm_ ?_
    first|with_reducible refine ks [] (And.intro @jm_ (And.intro @e1 (@e2))) ?_|refine kp (And.intro @jm_ (And.intro @e1 (@e2))) ?_
    exact Again.mk ⟨i+1,S2,G1,D4,(b6, .cells (a8 x.l) 84 (0,0))::DG⟩ (by show ids.length - (i+1)<ids.length - i;omega) ⟨hlt,hR,rfl,hA2,hE4⟩ rfl rfl
 ·obtain rfl:i=ids.length:=by omega
  have d1:decide ((ids.length:Int)< (ids.length:Int))=false:=decide_eq_false (by omega)
  rw[List.drop_length] at hR
  have hR1:wo_ ids S=(0,S1):=hR.symm
  rw[hR1,if_neg (by simp)] at hS
  by_cases h0:ids.length=0
  ·have h1:ids= []:=List.length_eq_zero_iff.1 h0
   have e1: ((ids.length:Int)==0)=true:=by rw[h0];rfl
   rw[if_pos h1] at hS
   first|with_reducible refine ks [] (And.intro @jm_ (And.intro @d1 (And.intro @ln (@e1)))) ?_|refine kp (And.intro @jm_ (And.intro @d1 (And.intro @ln (@e1)))) ?_
   refine⟨_,(ke @jm_), ?_⟩
   rw[hS]
   exact⟨hE,rfl,G1,hbd,(hA1.mono fun b o h=>zk_ h).up⟩
  ·have h1:ids≠ []:=fun h=>h0 (by rw[h];rfl)
   have e1: ((ids.length:Int)==0)=false:=beq_eq_false_iff_ne.2 (by omega)
   rw[if_neg h1] at hS
   first|with_reducible refine ks [] (And.intro @jm_ (And.intro @d1 (And.intro @ln (@e1)))) ?_|refine kp (And.intro @jm_ (And.intro @d1 (And.intro @ln (@e1)))) ?_
   refine Ow.callX (X:=X1) (Y:=DG) rfl rfl rfl Tryz.call21 (fun w' hw' hX' hn'=>Qy_ X1 G1 S1 zf_ w' hX' hn' hA1.P) (fun v4 D4 hC4 hS4=> ?_)
   obtain⟨rfl,G2,hbd2,hP2⟩:=hS4
   have hE4:=hE.came hC4
   refine ko @jm_ ?_
   first|with_reducible refine ks [] @jm_ ?_|refine kp @jm_ ?_
   refine⟨_,(ke @jm_), ?_⟩
   rw[hS]
   exact⟨hE4,rfl,G2,hbd2.trans hbd,(hA1.step hP2 (kQ_ S1 zf_ [] []) (by simp) (by simp)).mono fun b o h=>zk_ h⟩
end Go.Proofs
end
section
open Go Go.Proofs Go.Sx Go.StP Go.Dig
namespace Go.Proofs
set_option maxRecDepth 10000
set_option maxHeartbeats 1000000
set_option linter.unusedSimpArgs false
theorem aj3_ (S:DiskL) {nms:List (List UInt8)} {k:Nat} (h:k<nms.length):Kn_ S (nms.take (k+1))=Kn_ S (nms.take k)++ (if looP S (nms.getD k [])=true then [hexI (nms.getD k [])] else []):=by
 unfold Kn_
 rw[StP.take_snoc (z:= []) h,List.filter_append,List.map_append]
 generalize nms.getD k []=s
 cases hp:looP S s<;>simp[hp]
theorem alx_ (S:DiskL) (l:List (List UInt8)): (Kn_ S l).length≤l.length:=by
 unfold Kn_
 rw[List.length_map]
 exact List.length_filter_le _ _
structure LilG where
 i:Nat
 v:Value
 D:zb_
 DG:zb_
set_option linter.defProp false
def kf_:=And.intro (And.intro (And.intro (@jo_) (@qF_)) (And.intro (@qE_) (@qD_))) (And.intro (And.intro (@Sx.tup2_0) (@Sx.tup2_1)) (And.intro (@zp_) (And.intro (@zo_) (@xt_))))
theorem aeQ_ (G:DkG) (S:DiskL) (m:Nat) (w:World) (hD:DkW w G S) (ok:DkOk S) (hB:DkB S) (hG:GlbA w m):
  Rets Tryz.prog 64 #[vp G.bd 0] w (XS w [] (fun v D=>GrI D 84 32 v (anm_ S).length ((anm_ S).map Z7_).flatten)):=by
 have hLL:anm_ S=Kn_ S (Xj_ S zf_):=rfl
 have hlb:=ar5_ hB zf_
 refine Rets.enterX Tryz.func64 rfl (rs:= [.tmp 2]) Tryz.results64 Tryz.ntmps64 (fun p hp=>by cases hp) (by simp[keys]) ?_
 refine kf ?_
 first|with_reducible refine ks [] @kf_ ?_|refine kp @kf_ ?_
 refine Ow.callC rfl rfl Tryz.call79 (fun w' hw'=>WU_ w' G S zf_ (hD.old hw' trivial) hB) (fun B3 v3 D3 hA3 hB3 hN3 hS3=> ?_)
 rw[←aca_] at hS3
 rw[List.nil_append]
 generalize Xj_ S zf_=nms at*
 have hN3':New w.heap.size D3:=hN3.mono hB3
 have ln3:=we_ hS3
 refine ko (And.intro @kf_ @ln3) ?_
 refine Cw.world fun w1 hw1=> ?_
 obtain⟨rb,off,arr,E,fz,hr3,hlk⟩:=hS3.rowL (z:= []) rfl hw1 ahJ_
 have rd3: ∀ (Y:zb_),0<nms.length→zz_ w (D3++Y) rb=some (.cells arr E fz):=fun Y h0=>ze_ (zk_ (hlk h0))
 clear hw1 hlk
 refine Cw.permL (M:=D3++ ([]++ [])) (by simp) ?_
 refine Cw.loopG (G:=LilG) [14,15,16,5,18,19,17,20,21,6,7,22,23,25,26,27,24,28,29,8,9,30,31,32,33,34,35,3,36,13] (fun g=> [(3,g.v),(13,vi g.i)]) (fun g=>D3++ (g.D++g.DG)) (fun g=>g.i≤nms.length∧New w.heap.size g.D∧New w.heap.size g.DG∧Gr g.D 84 32 g.v (Kn_ S (nms.take g.i)).length ((Kn_ S (nms.take g.i)).map Z7_).flatten) (fun g=>nms.length - g.i) ⟨0, .slice none 0 0,[],[]⟩ rfl rfl ?_ ?_
 ·exact⟨Nat.zero_le _,trivial,trivial,Gr.nl⟩
 intro g j hg
 refine kv ?_
 obtain⟨i,vo,D,DG⟩:=g
 simp only at hg ⊢
 obtain⟨hi,hN,hNG,hGr⟩:=hg
 by_cases hlt:i<nms.length
 ·have d1:decide ((i:Int)< (nms.length:Int))=true:=decide_eq_true (by omega)
  have ix3:=hr3.idx false i hlt
  have ld3:=fun n=>aeU_ hr3 hlt n
  have rdj:=rd3 (D++DG) (by omega)
  have hsn:=aj3_ S hlt
  have hsl:=hlb.2 _ (xQ_ (z:= []) hlt)
  have hol:=alx_ S (nms.take i)
  rw[List.length_take,Nat.min_eq_left (by omega)] at hol
  have hlm:=hlb.1
  generalize nms.getD i []=s at*
  generalize Kn_ S (nms.take i)=os at*
  first|with_reducible refine ks [6,8] (And.intro @kf_ (And.intro @d1 (And.intro @ln3 (And.intro @ix3 (And.intro @rdj (@ld3)))))) ?_|refine kp (And.intro @kf_ (And.intro @d1 (And.intro @ln3 (And.intro @ix3 (And.intro @rdj (@ld3)))))) ?_
  refine Ow.callFV rfl Tryz.call114 (fun w' hw'=>ai7_ s w') ?_
  have hxu:w0_ s=(hexI s).l:=rfl
  have hpe:looP S s=(Xk_ s&& (Xy_ S (hexI s)).e==0):=rfl
  rw[hxu]
  generalize hexI s=x at*
  have hx:=x.h
  have hi0:=id0.h
  refine ko @kf_ ?_
  refine Ow.alloc rfl rfl vO_ fun b6 hb6 hw6=> ?_
  simp only[za_,List.nil_append,List.cons_append]
  refine Ow.permL (M:=(b6, .cells (a8 id0.l) 84 (0,0)):: (D3++ (D++DG))) (by classical exact List.perm_iff_count.2 fun a=>by simp only[List.count_append,List.count_cons,List.count_nil]<;>omega) ?_
  refine ko @kf_ ?_
  cases hok:Xk_ s with
  |false=>
   rw[hok,Bool.false_and] at hpe
   rw[hpe,if_neg (by simp),List.append_nil] at hsn
   refine Cw.permL (M:=D3++ (D++ ((b6, .cells (a8 x.l) 84 (0,0))::DG))) (by classical exact List.perm_iff_count.2 fun a=>by simp only[List.count_append,List.count_cons,List.count_nil]<;>omega) ?_
   first|with_reducible refine ks [] @kf_ ?_|refine kp @kf_ ?_
   exact Again.mk ⟨i+1,vo,D,(b6, .cells (a8 x.l) 84 (0,0))::DG⟩ (by show nms.length - (i+1)<nms.length - i;omega) ⟨hlt,hN,⟨hw6,hNG⟩,by rw[hsn];exact hGr⟩ rfl rfl
  |true=>
   rw[hok,Bool.true_and] at hpe
   first|with_reducible refine ks [] @kf_ ?_|refine kp @kf_ ?_
   have hN6:New w.heap.size ((b6,Obj.cells (a8 x.l) 84 (0,0)):: (D3++ (D++DG))):=⟨hw6,hN3'.app (hN.app hNG)⟩
   refine Ow.callFV rfl Tryz.call62 (fun w' hw'=>kn_ w' G S x (hD.old hw' hN6) ok (hG.new hw' hN6).C (hG.new hw' hN6).E) ?_
   generalize Xy_ S x=q at*
   obtain⟨gk,gt,ge⟩:=q
   simp only at hpe ⊢
   refine ko @kf_ ?_
   refine Ow.alloc rfl rfl ZN_ fun b8 hb8 hw8=> ?_
   simp only[za_,List.nil_append,List.cons_append]
   have h68:b6<b8:=zi_ hb8 (by simp[keys])
   refine Ow.permL (M:=(b8, .cells #[vi 0,vs []] 82 (0,0)):: (b6, .cells (a8 x.l) 84 (0,0)):: (D3++ (D++DG))) (by classical exact List.perm_iff_count.2 fun a=>by simp only[List.count_append,List.count_cons,List.count_nil]<;>omega) ?_
   refine ko @kf_ ?_
   by_cases he:ge=0
   ·subst he
    have e1: (((0:Nat):Int)==0)=true:=rfl
    rw[show((0:Nat)==0)=true from rfl] at hpe
    rw[hpe,if_pos rfl] at hsn
    first|with_reducible refine ks [] (And.intro @kf_ @e1) ?_|refine kp (And.intro @kf_ @e1) ?_
    refine Ow.buildSlice (e:=84) (a8 x.l) rfl rfl (qA_ (cs:=x.l.map v8) Tryz.underlying106 QC_ vO_ (by decide) (by simp[x.h])) fun ba hba hwa=> ?_
    refine ko @kf_ ?_
    refine Ow.permL (M:=D++ (D3++ ((b8, .cells #[vi gk,vs gt] 82 (0,0)):: (b6, .cells (a8 x.l) 84 (0,0)):: (ba, .cells (a8 x.l) 84 (0,0))::DG))) (by classical exact List.perm_iff_count.2 fun a=>by simp only[List.count_append,List.count_cons,List.count_nil]<;>omega) ?_
    refine Ow.appendXG (e:=84) (k:=1) (new:=Z7_ x) (X:=D) vo rfl rfl rfl rfl Tryz.underlying106 QC_ (by kernel_rfl) vO_ (by rw[za_,v9_,id0.h]) Tryz.underlying106 (by intro k h;cases h) hGr (fun w' hw'=>AppX.one1 (by rw[aae_];exact hw'.has ba (.cells (a8 x.l) 84 (0,0)) (by simp)) (x1_ _) (Qn_ _)) (by omega) (fun B4 v4 D4 hA4 hB4 hG4 hk41 hk42 hlk4=> ?_)
    have hN4:New w.heap.size D4:=New.of_le fun q hq=>by
     rcases hk42 q hq with h|h
     ·exact hN.le q h
     ·omega
    refine Ow.permL (M:=D3++ (D4++ ((b8, .cells #[vi gk,vs gt] 82 (0,0)):: (b6, .cells (a8 x.l) 84 (0,0)):: (ba, .cells (a8 x.l) 84 (0,0))::DG))) (by classical exact List.perm_iff_count.2 fun a=>by simp only[List.count_append,List.count_cons,List.count_nil]<;>omega) ?_
    refine ko @kf_ ?_
    first|with_reducible refine ks [] @kf_ ?_|refine kp @kf_ ?_
    exact Again.mk ⟨i+1,v4,D4,(b8, .cells #[vi gk,vs gt] 82 (0,0)):: (b6, .cells (a8 x.l) 84 (0,0)):: (ba, .cells (a8 x.l) 84 (0,0))::DG⟩ (by show nms.length - (i+1)<nms.length - i;omega) ⟨hlt,hN4,⟨hw8,hw6,hwa,hNG⟩,by rw[hsn];simpa using hG4⟩ rfl rfl
   ·have e1: ((ge:Int)==0)=false:=beq_eq_false_iff_ne.2 (by omega)
    rw[show(ge==0)=false from beq_eq_false_iff_ne.2 he] at hpe
    rw[hpe,if_neg (by simp),List.append_nil] at hsn
    refine Cw.permL (M:=D3++ (D++ ((b8, .cells #[vi gk,vs gt] 82 (0,0)):: (b6, .cells (a8 x.l) 84 (0,0))::DG))) (by classical exact List.perm_iff_count.2 fun a=>by simp only[List.count_append,List.count_cons,List.count_nil]<;>omega) ?_
    first|with_reducible refine ks [] (And.intro @kf_ @e1) ?_|refine kp (And.intro @kf_ @e1) ?_
    exact Again.mk ⟨i+1,vo,D,(b8, .cells #[vi gk,vs gt] 82 (0,0)):: (b6, .cells (a8 x.l) 84 (0,0))::DG⟩ (by show nms.length - (i+1)<nms.length - i;omega) ⟨hlt,hN,⟨hw8,hw6,hNG⟩,by rw[hsn];exact hGr⟩ rfl rfl
 ·obtain rfl:i=nms.length:=by omega
  have d1:decide ((nms.length:Int)< (nms.length:Int))=false:=decide_eq_false (by omega)
  rw[List.take_length,←hLL] at hGr
  first|with_reducible refine ks [] (And.intro @kf_ (And.intro @d1 (@ln3))) ?_|refine kp (And.intro @kf_ (And.intro @d1 (@ln3))) ?_
  refine⟨_,(ke @kf_), ?_⟩
  exact⟨Ext.of_new (hN3'.app (hN.app hNG)),hGr.i fun p hp=>by simp[hp]⟩
end Go.Proofs
end
section
open Go Go.Proofs Go.Sx Go.StP Go.Dig
namespace Go.Proofs
set_option maxRecDepth 10000
set_option maxHeartbeats 1000000
set_option linter.unusedSimpArgs false
theorem aik_ {S:DiskL} {x:IdL} (h1: (q0_ S zf_ (zU_ x.l)).2=0):Qg_ [x] S=((zR_ (q0_ S zf_ (zU_ x.l)).1 zf_).2,(zR_ (q0_ S zf_ (zU_ x.l)).1 zf_).1):=by
 have e:wo_ [x] S=(0,(q0_ S zf_ (zU_ x.l)).1):=by
  unfold wo_
  rw[if_neg (by rw[h1];simp)];rfl
 unfold Qg_
 rw[e,if_neg (by simp),if_neg (by simp)]
structure KeepI (all:List ObL) (S:DiskL) (had:List ObL) (n:Nat):Prop where
 alls:FulS S
 max:S.max=1000000
 used:qM_ S≤n*4300
 names: ∀ (x:IdL) (d:List UInt8),qc_ S 0 (zU_ x.l)=some d→ ∃o,o∈all∧xH_ o.k o.t=true∧idV o.k o.t=x∧d=Je_ o.k o.t
 had: ∀o,o∈had→xH_ o.k o.t=true∧o∈all∧qc_ S 0 (zU_ (idV o.k o.t).l)=some (Je_ o.k o.t)
theorem ahC_ {all:List ObL} {S:DiskL} {had:List ObL} {n:Nat} (h:KeepI all S had n) {o:ObL} (ho:o∈had):xH_ o.k o.t=true∧Xy_ S (idV o.k o.t)=⟨o.k,o.t,0⟩:=by
 obtain⟨k1,-,k3⟩:=h.had o ho
 have hrd:=QE_ h.alls.calm (idV o.k o.t)
 rw[k3] at hrd
 exact⟨k1,al6_ k1 hrd⟩
theorem apD_ (S:DiskL) {k:Int} {t:List UInt8} (hr:xH_ k t=false):putL S k t=⟨id0,1,S⟩:=by
 unfold putL
 rw[hr,if_pos rfl]
theorem an5_ {all:List ObL} {S:DiskL} {had:List ObL} {n:Nat} (h:KeepI all S had n) (hn:n<200) (hno:J3_ all=false) {o:ObL} (ho:o∈all) (hr:xH_ o.k o.t=true):
  (putL S o.k o.t).e=0∧(putL S o.k o.t).x=idV o.k o.t∧KeepI all (putL S o.k o.t).S (had++ [o]) (n+1):=by
 unfold putL
 rw[hr,if_neg (by simp)]
 by_cases hg: (Xy_ S (idV o.k o.t)).e=0
 ·rw[if_pos hg]
  refine⟨rfl,rfl,h.alls,h.max,by have:=h.used;show qM_ S≤_;omega,h.names,fun o' ho'=> ?_⟩
  rcases List.mem_append.1 ho' with ho'|ho'
  ·exact h.had o' ho'
  ·rw[List.mem_singleton.1 ho']
   refine⟨hr,ho, ?_⟩
   obtain⟨d,h1,h2,-⟩:=arw_ hg
   have hv:=alU_ h.alls.calm h1
   obtain⟨o2,m1,m2,m3,m4⟩:=h.names _ d hv
   have:=aaB_ hno m1 ho m2 hr m3
   subst this
   show qc_ S 0 _=_
   rw[hv,m4]
 ·rw[if_neg hg]
  obtain⟨e,S',hp,ha,hm,hoth,hu,-,hor⟩:=aci_ h.alls (kV_ (idV o.k o.t)).1 (kV_ (idV o.k o.t)).2 (Je_ o.k o.t)
  have hb:=ah4_ hr
  have hl: (zU_ (idV o.k o.t).l).length=64:=by rw[qo_,(idV o.k o.t).h]
  have hus:=h.used
  rw[hp]
  simp only
  rcases hor with⟨rfl,h2⟩ | ⟨rfl,-,h3⟩
  ·rw[if_pos rfl]
   refine⟨rfl,rfl,ha,hm.trans h.max,by show qM_ S'≤_;omega,fun x d hv=> ?_,fun o' ho'=> ?_⟩
   ·by_cases hx:zU_ x.l=zU_ (idV o.k o.t).l
    ·rw[hx] at hv
     have hv':=h2.symm.trans hv
     cases hv'
     exact⟨o,ho,hr,(afj_ hx).symm,rfl⟩
    ·exact h.names x d ((hoth _ hx (ak6_ x _)).symm.trans hv)
   ·rcases List.mem_append.1 ho' with ho'|ho'
    ·obtain⟨k1,k2,k3⟩:=h.had o' ho'
     refine⟨k1,k2, ?_⟩
     by_cases hx:zU_ (idV o'.k o'.t).l=zU_ (idV o.k o.t).l
     ·have:=aaB_ hno k2 ho k1 hr (afj_ hx)
      subst this
      exact h2
     ·exact(hoth _ hx (ak6_ _ _)).trans k3
    ·rw[List.mem_singleton.1 ho']
     exact⟨hr,ho,h2⟩
  ·exact absurd ⟨by omega,by rw[h.max];omega⟩ h3
theorem aer_ {all:List ObL} {S:DiskL} {had:List ObL} {n:Nat} (h:KeepI all S had n) (hno:J3_ all=false) {o:ObL} (ho:o∈had) (left:List ObL) (hleft: ∀p,p∈left→p∈had∧p≠o):
  (qk_ S zf_ (zU_ (idV o.k o.t).l)).2=0∧KeepI all (qk_ S zf_ (zU_ (idV o.k o.t).l)).1 left n∧(Xy_ (qk_ S zf_ (zU_ (idV o.k o.t).l)).1 (idV o.k o.t)).e=6:=by
 obtain⟨k1,k2,k3⟩:=h.had o ho
 obtain⟨r1,r2⟩:=ZW_ (dir:=zf_) h.alls.calm rfl (kV_ (idV o.k o.t)).1 k3
 have st:=j7_ S zf_ (zU_ (idV o.k o.t).l) []
 have oth: ∀x,x≠zU_ (idV o.k o.t).l→qc_ (qk_ S zf_ (zU_ (idV o.k o.t).l)).1 0 x=qc_ S 0 x:=fun x hx=>K6_ h.alls.good st (by decide) fun _=>⟨hx,fun e=>by cases e⟩
 have hu:=XE_ h.alls.ok h.alls.uniq st
 have hus:=h.used
 have ha:=h.alls.step st
 refine⟨r1,⟨ha,(Zh_ st).trans h.max,by simp at hu;omega,fun x d hv=> ?_,fun p hp=> ?_⟩, ?_⟩
 ·by_cases hx:zU_ x.l=zU_ (idV o.k o.t).l
  ·rw[hx,r2] at hv;cases hv
  ·exact h.names x d ((oth _ hx).symm.trans hv)
 ·obtain⟨p1,p2⟩:=hleft p hp
  obtain⟨m1,m2,m3⟩:=h.had p p1
  exact⟨m1,m2,(oth _ fun e=>p2 (aaB_ hno m2 k2 m1 k1 (afj_ e))).trans m3⟩
 ·have hrd:=QE_ ha.calm (idV o.k o.t)
  rw[r2] at hrd
  unfold Xy_
  rw[hrd,if_pos (by simp)]
theorem ahm_ (q:Int):qM_ (wt_ q)=0:=rfl
theorem apL_ (all:List ObL) (h:FulS (wt_ 1000000)):KeepI all (wt_ 1000000) [] 0:=
 ⟨h,rfl,by rw[ahm_];exact Nat.zero_le _,fun x d hv=>(by cases hv),fun o ho=>(by cases ho)⟩
end Go.Proofs
end
section
open Go Go.Proofs Go.Sx Go.StP Go.Dig
namespace Go.Proofs
set_option maxRecDepth 10000
set_option maxHeartbeats 1000000
set_option linter.unusedSimpArgs false
theorem atC_ (q:Int):wt_ q=ofD q []:=by
 unfold ofD wt_ setV
 simp only[List.foldl_nil]
 congr 1
 funext k
 split<;>rfl
theorem aqL_ {q:Int} {l:List FiL} (ok:DkOk (ofD q l)):FulS (ofD q l):=⟨ok,aq7_ q l,aqg_ q l,(arf_ q l).1,asf_ q l⟩
theorem ag3_ {q:Int} (ok:DkOk (wt_ q)):FulS (wt_ q):=by
 rw[atC_] at ok ⊢
 exact aqL_ ok
theorem arY_: ∀s:List UInt8,ltB s s=true→False:=fun s h=>by
 have:=(show SrtN [(s,0),(s,1)] from List.pairwise_cons.2 ⟨fun q hq=>by rw[List.mem_singleton.1 hq];exact h,List.pairwise_singleton _ _⟩).nodup
 simp at this
theorem aoI_ {l:NmL} (h:SrtN l) {nm:List UInt8} (h1: ∀x,x≠nm→zB_ l x=none) {n:Nat} (h2:zB_ l nm=some n):l.map Prod.fst= [nm]:=by
 have ha: ∀p,p∈l→p.1=nm:=fun p hp=>Classical.byContradiction fun hne=>by
  have:=Ja_ h.nodup (s:=p.1) (n:=p.2) hp
  rw[h1 p.1 hne] at this
  cases this
 match l,h,ha,h2 with
 | [],_,_,h2=>cases h2
 | [p],_,ha,_=>rw[List.map_cons,ha p List.mem_cons_self];rfl
 |p::q::r,h,ha,_=>
  have h3:=(List.pairwise_cons.1 h).1 q List.mem_cons_self
  rw[ha p List.mem_cons_self,ha q (List.mem_cons_of_mem _ List.mem_cons_self)] at h3
  exact absurd h3 (arY_ nm)
def abT:List UInt8:= [97,98]
theorem atl_:xH_ 1 abT=true:=by decide
structure AliveI (p:PutR) (q:Nat×DiskL):Prop where
 e:p.e=0
 x:p.x=idV 1 abT
 f:q.1=0
 got:Xy_ (qV_ q.2 []) p.x=⟨1,abT,0⟩
 list: (anm_ (qV_ q.2 [])).length=1
theorem ab2_ (ok:DkOk (wt_ 1000)):AliveI (putL (wt_ 1000) 1 abT) (Qg_ [(putL (wt_ 1000) 1 abT).x] (putL (wt_ 1000) 1 abT).S):=by
 have ha:=ag3_ ok
 have hv0: ∀x,qc_ (wt_ 1000) 0 x=none:=fun x=>rfl
 have hg: (Xy_ (wt_ 1000) (idV 1 abT)).e=6:=by
  have hrd:=QE_ ha.calm (idV 1 abT)
  rw[hv0] at hrd
  unfold Xy_
  rw[hrd,if_pos (by simp)]
 obtain⟨e,S',hp,a1,-,hoth,-,htm,hor⟩:=aci_ ha (kV_ (idV 1 abT)).1 (kV_ (idV 1 abT)).2 (Je_ 1 abT)
 have hlb: (Je_ 1 abT).length≤100:=by
  have h3:=zP_ (abT.length:Int)
  have h4:abT.length=2:=rfl
  have h5: (wW_ 1).length=1:=rfl
  unfold Je_ qw_ xg_
  rw[K2_]
  simp only[List.length_cons,List.length_append]
  omega
 obtain⟨rfl,h2⟩:e=0∧qc_ S' 0 (zU_ (idV 1 abT).l)=some (Je_ 1 abT):=by
  rcases hor with h| ⟨-,-,h⟩
  ·exact h
  ·exact absurd ⟨by omega,by rw[ahm_];show((0:Nat):Int)+_≤1000;omega⟩ h
 have ZY_:putL (wt_ 1000) 1 abT=⟨idV 1 abT,0,S'⟩:=by
  unfold putL
  rw[atl_,if_neg (by simp),hg,if_neg (by decide),hp]
  simp
 rw[ZY_]
 obtain⟨s1,s2,s3,s4,s5,n,s6⟩:=aew_ a1 (kV_ (idV 1 abT)).1 h2
 have hset:Qg_ [idV 1 abT] S'=(0,(zR_ (q0_ S' zf_ (zU_ (idV 1 abT).l)).1 zf_).1):=by rw[aik_ s1,s2]
 simp only
 rw[hset]
 generalize (zR_ (q0_ S' zf_ (zU_ (idV 1 abT).l)).1 zf_).1=S2 at*
 have hgot:Xy_ (qV_ S2 []) (idV 1 abT)=⟨1,abT,0⟩:=al6_ atl_ (ajG_ (by decide) (kV_ _).1 s6 [])
 refine⟨rfl,rfl,rfl,hgot, ?_⟩
 obtain⟨i,h3,h4⟩:=acD_ S2 [] (k:=0) (by decide)
 rw[s5] at h3
 obtain rfl:i=0:=by simpa using h3
 have h5: ((qV_ S2 []).dir 0).seen=(S'.dir 0).seen:=by
  rw[h4]
  show x5_ S2 0 0=_
  unfold x5_
  rw[s5];rfl
 have h6: ((qV_ S2 []).dir 0).seen.map Prod.fst= [zU_ (idV 1 abT).l]:=by
  rw[h5]
  refine aoI_ (n:=n) (a1.ok.seen 0 (by decide)) (fun x hx=> ?_) ?_
  ·by_cases hx2:x=js_ (zU_ (idV 1 abT).l)
   ·rw[hx2];exact KZ_ htm
   ·exact KZ_ ((hoth x hx hx2).trans (hv0 x))
  ·have:=s6.at_
   rw[s5] at this
   exact this
 have h7:Xj_ (qV_ S2 []) zf_= [zU_ (idV 1 abT).l]:=by
  have:=acr_ (S:=qV_ S2 []) (k:=0) (by decide)
  rw[acH_,if_neg (by decide),h6] at this
  exact this
 unfold anm_ Kn_
 rw[h7]
 have h8:looP (qV_ S2 []) (zU_ (idV 1 abT).l)=true:=by
  unfold looP
  rw[WH_ _ (idV 1 abT).h,show hexI (zU_ (idV 1 abT).l)=idV 1 abT from akQ_ (ZU_ _ (idV 1 abT).h),hgot]
  rfl
 rw[List.filter_cons,if_pos h8]
 rfl
end Go.Proofs
end
section
open Go Go.Proofs Go.Sx Go.StP Go.Flo
namespace Go.Proofs
set_option maxRecDepth 10000
set_option maxHeartbeats 400000
set_option linter.unusedSimpArgs false
set_option linter.defProp false
set_option linter.defProp false
set_option linter.defProp false
end Go.Proofs
end
section
open Go Go.Proofs Go.Sx Go.StP Go.Dig
namespace Go.Proofs
set_option maxRecDepth 10000
set_option maxHeartbeats 1000000
set_option linter.unusedSimpArgs false
theorem aoM_ {w:World} {x:IdL} {b:Nat} {E:TypeId} (h:w.heap[b]? =some (.cells (a8 x.l) E (0,0))):RowS 32 Z7_ id0 w (vsl b 0 1 1) [x] b 0 (a8 x.l) E (0,0):=
 RowS.sl rfl h fun k hk j hj=>by
  obtain rfl:k=0:=by simpa using hk
  rw[←aae_]
  simp
set_option linter.defProp false
def ki_:=And.intro (And.intro (And.intro (@jo_) (@qF_)) (And.intro (@qE_) (@qD_))) (And.intro (And.intro (@Sx.tup2_0) (@Sx.tup2_1)) (And.intro (@zp_) (And.intro (@zo_) (@xt_))))
theorem kP_ (m:Nat) (w:World) (hG:GlbA w m):Rets Tryz.prog 48 #[] w (fun v D=>v= .bool true∧D= []):=by
 refine Rets.enterV Tryz.func48 rfl (rs:= [.tmp 0]) Tryz.results48 Tryz.ntmps48 ?_
 refine kf ?_
 first|with_reducible refine ks [] @ki_ ?_|refine kp @ki_ ?_
 refine Ow.callC rfl rfl Tryz.call28 (fun w' hw'=>ab6_ 1000 w' (by decide) (hG.new hw' trivial).D) (fun B0 v0 D0 hA0 hB0 hN0 hS0=> ?_)
 obtain⟨G0,rfl,hP0⟩:=hS0
 rw[List.nil_append]
 have hE0:Ext w [] D0:=Ext.of_new (hN0.mono hB0)
 have hk0: ∀b,b∈keys D0→m≤b:=fun b hb=>Nat.le_trans hG.le (hE0.new0.le b hb)
 have hD0:DkA D0 G0 (wt_ 1000) 0:=⟨hP0,ahA_ 1000,alf_ 1000⟩
 obtain⟨a1,a2,a3,a4,a5⟩:=ab2_ hP0.ok
 generalize wt_ 1000=S0 at*
 refine ko @ki_ ?_
 first|with_reducible refine ks [] @ki_ ?_|refine kp @ki_ ?_
 refine Ow.build (obV 1 abT) rfl (adm_ 1 abT) ?_
 refine ko @ki_ ?_
 refine Ow.callX (X:=D0) (Y:= []) (List.append_nil _).symm rfl rfl Tryz.call60 (fun w' hw' hX' hn'=>aac_ D0 G0 S0 0 m 1 abT w' hX' hn' hD0 (by omega) (hG.new hw' hE0.new0) hk0) (fun v1 D1 hC1 hS1=> ?_)
 rw[List.append_nil]
 obtain⟨rfl,G1,hb1,hA1⟩:=hS1
 have hE1:=hE0.came0 hC1
 generalize putL S0 1 abT=p at*
 obtain⟨x,pe,S1⟩:=p
 simp only at a1 a2 a3 a4 a5 hA1 ⊢
 subst a1
 rw[←hb1]
 refine ko @ki_ ?_
 refine Ow.alloc rfl rfl vO_ fun b2 hb2 hw2=> ?_
 simp only[za_,List.nil_append,List.cons_append]
 have hx:=x.h
 have hi0:=id0.h
 refine Ow.permL (M:=(b2, .cells (a8 id0.l) 84 (0,0))::D1) (by classical exact List.perm_iff_count.2 fun a=>by simp only[List.count_append,List.count_cons,List.count_nil]<;>omega) ?_
 refine ko @ki_ ?_
 first|with_reducible refine ks [] @ki_ ?_|refine kp @ki_ ?_
 refine Ow.buildSlice (e:=84) (a8 x.l) rfl rfl (qA_ (cs:=x.l.map v8) Tryz.underlying106 QC_ vO_ (by decide) (by simp[x.h])) fun ba hba hwa=> ?_
 refine ko @ki_ ?_
 have h2a:b2<ba:=zi_ hba (by simp[keys])
 have hn1a:ba∉keys D1:=fun hm=>by
  have:=zi_ hba (show ba∈keys _ from List.mem_cons_of_mem _ hm)
  omega
 have hYE:Ext w [] (D1++ [(b2, .cells (a8 x.l) 84 (0,0)),(ba, .cells (a8 x.l) 84 (0,0))]):=ahf_ hE1 ⟨hw2,hwa,trivial⟩
 refine Ow.permL (M:=D1++ [(b2, .cells (a8 x.l) 84 (0,0)),(ba, .cells (a8 x.l) 84 (0,0))]) (by classical exact List.perm_iff_count.2 fun a=>by simp only[List.count_append,List.count_cons,List.count_nil]<;>omega) ?_
 refine Ow.callX (X:=D1) (Y:= [(b2, .cells (a8 x.l) 84 (0,0)),(ba, .cells (a8 x.l) 84 (0,0))]) rfl rfl rfl Tryz.call63 (fun w' hw' hX' hn'=>aao_ D1 G1 S1 (0+42) _ [x] ba 0 _ _ _ w' hX' hn' hA1 (by simp) (aoM_ (hw'.has ba (.cells (a8 x.l) 84 (0,0)) (by simp))) (fun _=>(Array.getElem?_eq_some_iff.1 (hw'.has ba (.cells (a8 x.l) 84 (0,0)) (by simp))).1) (fun _=>hn1a)) (fun v2 D2 hC2 hS2=> ?_)
 obtain⟨rfl,G2,hb2',hA2⟩:=hS2
 have hE2:=hYE.came hC2
 generalize Qg_ [x] S1=q at*
 obtain⟨qe,S2⟩:=q
 simp only at a3 a4 a5 hA2 ⊢
 subst a3
 rw[←hb2']
 refine ko @ki_ ?_
 first|with_reducible refine ks [] @ki_ ?_|refine kp @ki_ ?_
 refine Ow.callX (X:=D2) (Y:= [(b2, .cells (a8 x.l) 84 (0,0)),(ba, .cells (a8 x.l) 84 (0,0))]) rfl rfl rfl Tryz.call22 (fun w' hw' hX' hn'=>aeN_ D2 G2 S2 (.slice none 0 0) [] w' hX' hn' hA2.P (hG.new hw' hE2.new0).D (fun hm=>by have:=hE2.new0.le _ (show _∈keys _ by rw[zj_];exact List.mem_append_left _ hm);have:=hG.d;have:=hG.le;omega) ((Jo_ (q:=(S2,[])) hA2.B 3).b (by simp)) (.inl (SlV.nil w')) (fun h=>absurd rfl h) (by decide) (fun k hk=>⟨(hA2.H k).2,hA2.pend (by simp) k hk⟩)) (fun v3 D3 hC3 hS3=> ?_)
 obtain⟨G3,hb3,hP3⟩:=hS3
 have hE3:=hE2.came hC3
 have hA3:DkA D3 G3 (qV_ S2 []) (0+42+ [x].length+1):=⟨hP3,aiN_ hA2.H _,aky_ hA2.B _⟩
 generalize qV_ S2 []=S3 at*
 rw[←hb3]
 refine Ow.permL (M:=(b2, .cells (a8 x.l) 84 (0,0)):: (D3++ [(ba, .cells (a8 x.l) 84 (0,0))])) (by classical exact List.perm_iff_count.2 fun a=>by simp only[List.count_append,List.count_cons,List.count_nil]<;>omega) ?_
 have hE3p:Ext w [] ((b2, .cells (a8 x.l) 84 (0,0)):: (D3++ [(ba, .cells (a8 x.l) 84 (0,0))])):=hE3.perm (by classical exact List.perm_iff_count.2 fun a=>by simp only[List.count_append,List.count_cons,List.count_nil]<;>omega)
 refine Ow.world fun wz hwz=> ?_
 have hA4:DkA ((b2, .cells (a8 x.l) 84 (0,0)):: (D3++ [(ba, .cells (a8 x.l) 84 (0,0))])) G3 S3 (0+42+ [x].length+1):=hA3.mono fun b o h=>vq_ (A:= [(b2, .cells (a8 x.l) 84 (0,0))]) hwz.nodup (zk_ h)
 clear hwz
 generalize D3++ [(ba,Obj.cells (a8 x.l) 84 (0,0))]=D4 at*
 refine ko @ki_ ?_
 first|with_reducible refine ks [6] @ki_ ?_|refine kp @ki_ ?_
 refine Ow.callFV rfl Tryz.call62 (fun w' hw'=>kn_ w' G3 S3 x (hA4.P.world hw') hA4.P.ok (hG.new hw' hE3p.new0).C (hG.new hw' hE3p.new0).E) ?_
 rw[a4]
 refine ko @ki_ ?_
 refine Ow.alloc rfl rfl ZN_ fun b5 hb5 hw5=> ?_
 simp only[za_,List.nil_append,List.cons_append]
 have h25:b2<b5:=zi_ hb5 (by simp[keys])
 refine Ow.permL (M:=(b5, .cells #[vi 0,vs []] 82 (0,0)):: (b2, .cells (a8 x.l) 84 (0,0))::D4) (by classical exact List.perm_iff_count.2 fun a=>by simp only[List.count_append,List.count_cons,List.count_nil]<;>omega) ?_
 have hN5:New w.heap.size ((b5, .cells #[vi 1,vs abT] 82 (0,0)):: (b2, .cells (a8 x.l) 84 (0,0))::D4):=⟨hw5,hE3p.new0⟩
 have hA5:DkA ((b5, .cells #[vi 1,vs abT] 82 (0,0)):: (b2, .cells (a8 x.l) 84 (0,0))::D4) G3 S3 (0+42+ [x].length+1):=hA4.mono fun b o h=>vF_ hb5 h
 refine ko @ki_ ?_
 have z0: (((0:Nat):Int)==0)=true:=rfl
 have zb: (abT== [97,98])=true:=rfl
 refine Cw.regionS [b5,b2] [0,1,2,3,4,5,6,7,8,9,10,11,12,13,14,15,16,17,18,19,20,21,22,24,23,25,26,27,28] [] (by kernel_rfl) (by kernel_rfl) (by kernel_rfl) ?_
 simp only[zl_, ↓zg_, ↓zc_, ↓zx_, ↓zw_,zd_]
 refine kq (And.intro @ki_ (And.intro @z0 (@zb))) ?_
 refine Ow.soft rfl rfl rfl ?_
 refine Ow.callC rfl rfl Tryz.call64 (fun w' hw'=>aeQ_ G3 S3 m w' (hA5.P.world hw') hA5.P.ok (hA5.b (by simp)) (hG.new hw' hN5)) (fun B6 v6 D6 hA6 hB6 hN6 hS6=> ?_)
 have hN56:=hN5.app (hN6.mono hB6)
 have ln6:=we_ hS6
 rw[a5] at ln6
 with_reducible refine Ow.nil ?_
 refine⟨Zl_ (by simp[keys]), ?_⟩
 have z1: (((1:Nat):Int)==1)=true:=rfl
 refine kq (And.intro @ki_ (And.intro @ln6 (@z1))) ?_
 refine Ow.soft rfl rfl rfl ?_
 refine Ow.callFV rfl Tryz.call52 (fun w' hw'=>j9_ x.l hx w') ?_
 with_reducible refine Ow.nil ?_
 refine⟨by intro b hb;simp only[List.mem_cons,List.not_mem_nil,or_false] at hb;(try subst hb);rfl, ?_⟩
 refine kq @ki_ ?_
 refine Ow.soft rfl rfl rfl ?_
 refine Ow.callFV rfl Tryz.call53 (fun w' hw'=>aeC_ x.l hx w') ?_
 with_reducible refine Ow.nil ?_
 refine⟨by intro b hb;simp only[List.mem_cons,List.not_mem_nil,or_false] at hb;(try subst hb);rfl, ?_⟩
 refine kq (And.intro @ki_ @decide_true) ?_
 refine⟨_,(ke @ki_),hN56, ?_⟩
 rfl
end Go.Proofs
end
section
open Go Go.Proofs Go.Sx Go.StP Go.Dig
namespace Go.Proofs
set_option maxRecDepth 10000
set_option maxHeartbeats 1000000
set_option linter.unusedSimpArgs false
structure A5L where
 kind:Int
 n:Int
 ok:Int
 ot:List UInt8
 picks:PkL
def a5C (r:A5L):List Value:= [vi r.kind]++ ([vi r.n]++ ([vi r.ok]++ ([vs r.ot]++ ([r.picks.v]))))
def a50:A5L:=⟨0,0,0,[],pk0⟩
theorem JP_ (r:A5L): (a5C r).length=5:=by simp[a5C]
theorem abp_ (r:A5L):Value.cells (.agg (a5C r).toArray)=(a5C r).toArray:=za_ _
theorem arB_ (r:A5L): (a5C r).all Value.oneCell'=true:=by
 unfold a5C
 simp only[List.all_append,List.all_cons,List.all_nil,XL_,Bool.and_true,Bool.true_and]
 rw[r.picks.h.1];rfl
theorem zrA5:zM_ Tryz.prog 97=some (.agg (a5C a50).toArray):=id (by kernel_rfl)
theorem asz_ (r:A5L):a5C r=([]:List Value)++ (([vi r.kind])++ ([vi r.n]++ ([vi r.ok]++ ([vs r.ot]++ ([r.picks.v]))))):=by
 unfold a5C;simp only[List.append_assoc,List.nil_append,List.append_nil]
theorem abr_ (r:A5L) (n:Nat) (E:TypeId) (fz:Nat×Nat):zt_ (some (false,n)) (some (.cells (a5C r).toArray E fz)) 0=some (vi r.kind):=by
 rw[asz_];exact j4_ _ _ _ n E fz (by simp)
theorem asU_ (r:A5L):a5C r=(([vi r.kind]))++ (([vi r.n])++ ([vi r.ok]++ ([vs r.ot]++ ([r.picks.v])))):=by
 unfold a5C;simp only[List.append_assoc,List.nil_append,List.append_nil]
theorem abE_ (r:A5L) (n:Nat) (E:TypeId) (fz:Nat×Nat):zt_ (some (false,n)) (some (.cells (a5C r).toArray E fz)) 1=some (vi r.n):=by
 rw[asU_];exact j4_ _ _ _ n E fz (by simp)
theorem atq_ (r:A5L):a5C r=(([vi r.kind])++ ([vi r.n]))++ (([vi r.ok])++ ([vs r.ot]++ ([r.picks.v]))):=by
 unfold a5C;simp only[List.append_assoc,List.nil_append,List.append_nil]
theorem aaM_ (r:A5L) (n:Nat) (E:TypeId) (fz:Nat×Nat):zt_ (some (false,n)) (some (.cells (a5C r).toArray E fz)) 2=some (vi r.ok):=by
 rw[atq_];exact j4_ _ _ _ n E fz (by simp)
theorem atA_ (r:A5L):a5C r=(([vi r.kind])++ ([vi r.n])++ ([vi r.ok]))++ (([vs r.ot])++ ([r.picks.v])):=by
 unfold a5C;simp only[List.append_assoc,List.nil_append,List.append_nil]
theorem abF_ (r:A5L) (n:Nat) (E:TypeId) (fz:Nat×Nat):zt_ (some (false,n)) (some (.cells (a5C r).toArray E fz)) 3=some (vs r.ot):=by
 rw[atA_];exact j4_ _ _ _ n E fz (by simp)
theorem ass_ (r:A5L):a5C r=(([vi r.kind])++ ([vi r.n])++ ([vi r.ok])++ ([vs r.ot]))++ (([r.picks.v])++ (([]:List Value))):=by
 unfold a5C;simp only[List.append_assoc,List.nil_append,List.append_nil]
theorem aam_ (r:A5L) (n:Nat) (E:TypeId) (fz:Nat×Nat):zt_ (some (false,n)) (some (.cells (a5C r).toArray E fz)) 4=some (r.picks.v):=by
 rw[ass_];exact j4_ _ _ _ n E fz (by simp)
theorem agH_ (r:A5L) (E:TypeId) (fz:Nat×Nat):zt_ (some (true,5)) (some (.cells (a5C r).toArray E fz)) 0=some (.agg (a5C r).toArray):=kR_ _ E fz 5 (by rw[List.size_toArray,JP_])
theorem aoQ_ (old:Array Value) (r:A5L) (a:Bool) (E:TypeId) (h:old.size=5):zv_ (some (a,5)) (some (.cells old E (0,0))) 0 (.agg (a5C r).toArray)=some (.cells (a5C r).toArray E (0,0)):=ky_ _ a old E (JP_ r) (arB_ r) h
theorem amr_ (r r':A5L) (a:Bool) (E:TypeId):zv_ (some (a,5)) (some (.cells (a5C r').toArray E (0,0))) 0 (.agg (a5C r).toArray)=some (.cells (a5C r).toArray E (0,0)):=aoQ_ _ r a E (by rw[List.size_toArray,JP_])
theorem apM_ {w:World} {v:Value} {l:List A5L} {b off:Nat} {arr:Array Value} {E:TypeId} {fz:Nat×Nat} (h:RowS 5 a5C a50 w v l b off arr E fz) {k:Nat} (hk:k<l.length):zt_ (some (true,5)) (some (.cells arr E fz)) (off+k*5)=some (.agg (a5C (l.getD k a50)).toArray):=RowS.load h JP_ (by omega) hk
def a5O (r:A5L):ObL:=⟨r.ok,r.ot⟩
theorem aaq_ (r:A5L) (E:TypeId) (fz:Nat×Nat):zt_ (some (true,2)) (some (.cells (a5C r).toArray E fz)) 2=some (obV r.ok r.ot):=rfl
theorem aqF_ {w:World} {v:Value} {l:List A5L} {b off:Nat} {arr:Array Value} {E:TypeId} {fz:Nat×Nat} (h:RowS 5 a5C a50 w v l b off arr E fz) {k:Nat} (hk:k<l.length):zt_ (some (true,2)) (some (.cells arr E fz)) (off+k*5+2)=some (obV (l.getD k a50).ok (l.getD k a50).ot):=by
 rw[RowS.part h JP_ hk (by omega) (by omega)];rfl
abbrev A5Sl (w:World) (v:Value) (l:List A5L):Prop:=SlV 5 a5C a50 w v l
structure A5Ok (w:World) (a:A5L):Prop where
 pk:PkS w a.picks.v a.picks.l
 n: -9223372036854775808≤a.n∧a.n<9223372036854775808
def w6_ (a:A5L):Bool:=decide ((5000:Int)< (a.ot.length:Int)) ||decide ((100:Int)< (a.picks.l.length:Int))
set_option linter.defProp false
def abc_:=And.intro (And.intro (And.intro (@zp_) (@zo_)) (And.intro (@agH_) (And.intro (@abr_) (@abE_)))) (And.intro (And.intro (@aaM_) (@abF_)) (And.intro (@aam_) (And.intro (@aaq_) (@abp_))))
theorem Xa_ (a:A5L) (w:World) (ha:A5Ok w a):Rets Tryz.prog 59 #[.agg (a5C a).toArray] w (fun v D=>v= .bool (w6_ a)∧D= []):=by
 have lnp:=ha.pk.len
 refine Rets.enterV Tryz.func59 rfl (rs:= [.tmp 2]) Tryz.results59 Tryz.ntmps59 ?_
 refine kf ?_
 first|with_reducible refine ks [1] @abc_ ?_|refine kp @abc_ ?_
 refine Ow.box rfl rfl fun b1 hb1 hw1=> ?_
 simp only[zY_,zV_,zX_,za_,List.nil_append,List.cons_append]
 refine Ow.go rfl ?_
 simp(disch:=(first|assumption|omega| (simp only[kK_,kw_,UInt64.reduceToNat];try omega))) only[↓Sx.S0,Sx.S1,Tryz.fx,abc_,Nat.reduceAdd,Nat.reducePow,Int.reducePow,Nat.reduceBEq, ↓reduceIte,UInt8.reduceToNat,UInt16.reduceToNat,UInt32.reduceToNat,UInt64.reduceToNat,Int.reduceToNat]
 unfold w6_
 cases h1:decide ((5000:Int)< (a.ot.length:Int)) with
 |true=>
  first|with_reducible refine ks [] (And.intro @abc_ @h1) ?_|refine kp (And.intro @abc_ @h1) ?_
  refine⟨_,(ke @abc_),⟨hw1,trivial⟩, ?_⟩
  rfl
 |false=>
  first|with_reducible refine ks [] (And.intro @abc_ (And.intro @h1 (@lnp))) ?_|refine kp (And.intro @abc_ (And.intro @h1 (@lnp))) ?_
  refine⟨_,(ke @abc_),⟨hw1,trivial⟩, ?_⟩
  rfl
end Go.Proofs
end
section
open Go Go.Proofs Go.Sx Go.StP Go.Dig
namespace Go.Proofs
set_option maxRecDepth 10000
set_option maxHeartbeats 1000000
set_option linter.unusedSimpArgs false
def Vr_ (l:List A5L):List ObL:=(l.filter fun a=> !w6_ a).map a5O
def Xh_ (l:List A5L):List ObL:=Vr_ (l.take 60)
theorem aiz_ {l:List A5L} {k:Nat} (h:k<l.length):Vr_ (l.take (k+1))=Vr_ (l.take k)++ (if w6_ (l.getD k a50)=true then [] else [a5O (l.getD k a50)]):=by
 unfold Vr_
 rw[StP.take_snoc (z:=a50) h,List.filter_append,List.map_append]
 generalize l.getD k a50=s
 cases hp:w6_ s<;>simp[hp]
theorem ac5_ (l:List A5L): (Vr_ l).length≤l.length:=by
 unfold Vr_
 rw[List.length_map]
 exact List.length_filter_le _ _
theorem alN_ {l:List A5L} {i:Nat} (h:i<l.length) (h6:i<60) (hg:w6_ (l.getD i a50)=false):a5O (l.getD i a50)∈Xh_ l:=by
 have hm:l.getD i a50∈l.take 60:=by
  rw[List.getD_eq_getElem?_getD,List.getElem?_eq_getElem h]
  exact List.mem_iff_getElem.2 ⟨i,by rw[List.length_take];omega,by rw[List.getElem_take];rfl⟩
 exact List.mem_map.2 ⟨_,List.mem_filter.2 ⟨hm,by rw[hg];rfl⟩,rfl⟩
theorem A5Ok.old {w w':World} {L:zb_} {a:A5L} (h:A5Ok w a) (hw:Hp w L w') (hn:New w.heap.size L):A5Ok w' a:=
 ⟨h.pk.old hw fun hl b hb hm=>by have:=hn.le b hm;have:=h.pk.blk hl hb;omega,h.n⟩
structure ObaG where
 i:Nat
 v:Value
 D:zb_
 DG:zb_
set_option linter.defProp false
def vA_:=And.intro (And.intro (And.intro (@zp_) (@zo_)) (And.intro (@agH_) (And.intro (@abr_) (@abE_)))) (And.intro (And.intro (@aaM_) (@abF_)) (And.intro (@aam_) (And.intro (@aaq_) (@abp_))))
theorem V5_ (v:Value) (l:List A5L) (w:World) (hv:A5Sl w v l) (ha: ∀a,a∈l→A5Ok w a):
  Rets Tryz.prog 58 #[v] w (XS w [] (fun v D=>GrI D 82 2 v (Xh_ l).length ((Xh_ l).map obC).flatten)):=by
 have ln:=hv.len
 obtain⟨rb,off,arr,E,fz,hr⟩:=hv.row
 refine Rets.enterX Tryz.func58 rfl (rs:= [.tmp 2]) Tryz.results58 Tryz.ntmps58 (fun p hp=>by cases hp) (by simp[keys]) ?_
 refine kf ?_
 first|with_reducible refine ks [] @vA_ ?_|refine kp @vA_ ?_
 refine Cw.permL (M:= []++ []) (List.Perm.refl _) ?_
 refine Cw.loopG (G:=ObaG) [5,6,7,8,9,10,11,12,15,16,17,18,19,20,21,22,23,24,25,26,27,28,3,13,14,4] (fun g=> [(3,g.v),(4,vi g.i)]) (fun g=>g.D++g.DG) (fun g=>g.i≤l.length∧g.i≤60∧New w.heap.size g.D∧New w.heap.size g.DG∧Gr g.D 82 2 g.v (Vr_ (l.take g.i)).length ((Vr_ (l.take g.i)).map obC).flatten) (fun g=>l.length - g.i) ⟨0, .slice none 0 0,[],[]⟩ rfl rfl ?_ ?_
 ·exact⟨Nat.zero_le _,Nat.zero_le _,trivial,trivial,Gr.nl⟩
 intro g j hg
 refine kv ?_
 obtain⟨i,vo,D,DG⟩:=g
 simp only at hg ⊢
 obtain⟨hi,h6,hN,hNG,hGr⟩:=hg
 by_cases hlt:i<l.length
 ·have d1:decide ((i:Int)< (l.length:Int))=true:=decide_eq_true (by omega)
  by_cases hl6:i<60
  ·have d2:decide ((i:Int)<60)=true:=decide_eq_true (by omega)
   have hrl:=hr.lt (by omega)
   have ix:=hr.idx true i hlt
   have ld:=apM_ hr hlt
   have ldo:=aqF_ hr hlt
   have hhas:=hr.has (show 0<l.length by omega)
   have rdl: ∀L,New w.heap.size L→zz_ w L rb=some (.cells arr E fz):=fun L hL=>by rw[qN_ (hL.not hrl)];exact hhas
   have rd1:=rdl _ (hN.app hNG)
   have hak:=ha (l.getD i a50) (xQ_ (z:=a50) hlt)
   have hsn:=aiz_ hlt
   have hol:=ac5_ (l.take i)
   rw[List.length_take,Nat.min_eq_left (by omega)] at hol
   generalize l.getD i a50=a at*
   generalize Vr_ (l.take i)=os at*
   first|with_reducible refine ks [6] (And.intro @vA_ (And.intro @d1 (And.intro @d2 (And.intro @ln (And.intro @ix (And.intro @rd1 (@ld))))))) ?_|refine kp (And.intro @vA_ (And.intro @d1 (And.intro @d2 (And.intro @ln (And.intro @ix (And.intro @rd1 (@ld))))))) ?_
   refine Ow.callFV rfl Tryz.call59 (fun w' hw'=>Xa_ a w' (hak.old hw' (hN.app hNG))) ?_
   cases hg:w6_ a with
   |true=>
    rw[hg,if_pos rfl,List.append_nil] at hsn
    refine ko @vA_ ?_
    first|with_reducible refine ks [] @vA_ ?_|refine kp @vA_ ?_
    exact Again.mk ⟨i+1,vo,D,DG⟩ (by show l.length - (i+1)<l.length - i;omega) ⟨hlt,hl6,hN,hNG,by rw[hsn];exact hGr⟩ rfl rfl
   |false=>
    rw[hg,if_neg (by simp)] at hsn
    refine ko @vA_ ?_
    first|with_reducible refine ks [] (And.intro @vA_ (And.intro @ln (And.intro @ix (And.intro @rd1 (@ldo))))) ?_|refine kp (And.intro @vA_ (And.intro @ln (And.intro @ix (And.intro @rd1 (@ldo))))) ?_
    refine Ow.buildSlice (e:=82) #[vi a.ok,vs a.ot] rfl rfl (qA_ (cs:=obC (a5O a)) Tryz.underlying94 Tryz.ag82 ZN_ (by decide) rfl) fun bc hbc hwc=> ?_
    refine ko @vA_ ?_
    refine Ow.permL (M:=D++ (DG++ [(bc, .cells #[vi a.ok,vs a.ot] 82 (0,0))])) (by classical exact List.perm_iff_count.2 fun a=>by simp only[List.count_append,List.count_cons,List.count_nil]<;>omega) ?_
    refine Ow.appendXG (e:=82) (k:=1) (new:=obC (a5O a)) (X:=D) vo rfl rfl rfl rfl Tryz.underlying94 Tryz.ag82 (by kernel_rfl) ZN_ (by rw[obV,za_];rfl) Tryz.underlying94 (by intro k h;cases h) hGr (fun w' hw'=>AppX.one1 (hw'.has bc (.cells (obC (a5O a)).toArray 82 (0,0)) (by simp[obC,a5O])) (jC_ _) (wZ_ _)) (by omega) (fun B5 v5 D5 hA5 hB5 hG5 hk51 hk52 hlk5=> ?_)
    have hN5:New w.heap.size D5:=New.of_le fun q hq=>by
     rcases hk52 q hq with h|h
     ·exact hN.le q h
     ·omega
    refine ko @vA_ ?_
    first|with_reducible refine ks [] @vA_ ?_|refine kp @vA_ ?_
    exact Again.mk ⟨i+1,v5,D5,DG++ [(bc, .cells #[vi a.ok,vs a.ot] 82 (0,0))]⟩ (by show l.length - (i+1)<l.length - i;omega) ⟨hlt,hl6,hN5,hNG.app ⟨hwc,trivial⟩,by rw[hsn];simpa using hG5⟩ rfl rfl
  ·have d2:decide ((i:Int)<60)=false:=decide_eq_false (by omega)
   obtain rfl:i=60:=by omega
   first|with_reducible refine ks [] (And.intro @vA_ (And.intro @d1 (And.intro @d2 (@ln)))) ?_|refine kp (And.intro @vA_ (And.intro @d1 (And.intro @d2 (@ln)))) ?_
   refine⟨_,(ke @vA_), ?_⟩
   exact⟨Ext.of_new (hN.app hNG),hGr.i fun p hp=>by simp[hp]⟩
 ·have d1:decide ((i:Int)< (l.length:Int))=false:=decide_eq_false (by omega)
  obtain rfl:i=l.length:=by omega
  have he:Xh_ l=Vr_ (l.take l.length):=by
   unfold Xh_
   rw[List.take_of_length_le (by omega),List.take_of_length_le (Nat.le_refl _)]
  first|with_reducible refine ks [] (And.intro @vA_ (And.intro @d1 (@ln))) ?_|refine kp (And.intro @vA_ (And.intro @d1 (@ln))) ?_
  refine⟨_,(ke @vA_), ?_⟩
  rw[he]
  exact⟨Ext.of_new (hN.app hNG),hGr.i fun p hp=>by simp[hp]⟩
end Go.Proofs
end
section
open Go Go.Proofs Go.Sx Go.StP Go.Dig
namespace Go.Proofs
set_option maxRecDepth 10000
set_option maxHeartbeats 1000000
set_option linter.unusedSimpArgs false
set_option linter.defProp false
end Go.Proofs
end
section
open Go Go.Proofs Go.Sx Go.StP Go.Dig
namespace Go.Proofs
set_option maxRecDepth 10000
set_option maxHeartbeats 1000000
set_option linter.unusedSimpArgs false
set_option linter.defProp false
end Go.Proofs
end
