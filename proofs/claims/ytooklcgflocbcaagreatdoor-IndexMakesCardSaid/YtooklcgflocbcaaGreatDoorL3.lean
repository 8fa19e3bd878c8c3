/-
  Part 3 of the walk: contracts of the functions that the law reaches, and the calculus they stand on.
  No conditions.
-/
import Derived.Test.YtooklcgflocbcaaGreatDoorL2
import Derived.Laws.MakeOwn
section
open Go Go.Proofs Go.Sx Go.StP Go.Flo
namespace Go.Proofs
set_option maxRecDepth 10000
set_option maxHeartbeats 400000
set_option linter.unusedSimpArgs false
def pcAt (p:PcL) (b:Int):Nat×Nat:=match cpV p b with|some q=>q|none=>(0,0)
theorem aqp_ (p:PcL) (b:Int):cpO p b= .tuple #[vi (pcAt p b).1,vi (pcAt p b).2, .bool (cpV p b).isSome]:=by
 unfold cpO pcAt
 cases cpV p b<;>rfl
theorem aks_ (p:PcL) (base:List UInt8): (pcAt p base.length).1+ (pcAt p base.length).2≤base.length:=by
 unfold pcAt cpV
 split
 ·rename_i q h
  split at h
  ·rename_i hc;cases h;simp only;omega
  ·cases h
 ·simp
theorem ap6_ (base:List UInt8) (p:PcL):pcT base p=(base.take ((pcAt p base.length).1+ (pcAt p base.length).2)).drop (pcAt p base.length).1++p.x:=by
 unfold pcT pcAt
 cases h:cpV p base.length with
 |none=>simp
 |some q=>
  simp only
  rw[List.drop_take,Nat.add_sub_cancel_left]
theorem aoC_ (base:List UInt8) (p:PcL) (h:jc_ p base.length≠0): (pcT base p).length=jc_ p base.length:=by
 have hle:=aks_ p base
 unfold jc_ at h ⊢
 unfold pcT
 unfold pcAt at hle
 split at h
 ·rename_i hc
  rw[if_pos hc]
  have hn:cpV p base.length=none:=by unfold cpV;rw[if_neg (by omega)]
  rw[hn]
 ·rename_i hc
  rw[if_neg hc]
  cases hq:cpV p base.length with
  |none=>rw[hq] at h;exact absurd rfl h
  |some q=>
   rw[hq] at hle
   simp only at hle ⊢
   have hx:p.x= []:=by
    unfold cpV at hq
    split at hq
    ·rename_i h2;exact h2.2.2.1
    ·cases hq
   rw[hx,List.append_nil,List.length_take,List.length_drop]
   omega
theorem acc_ {base:List UInt8} {l:List PcL} {g:Nat} (h:g<l.length):txtP base (l.take (g+1))=txtP base (l.take g)++pcT base (l.getD g pc0):=by
 rw[take_snoc (z:=pc0) h];unfold txtP;simp
theorem Z9_ {base:List UInt8}: ∀ {l:List PcL},anyZ base.length l=false→(txtP base l).length=kM_ base.length l
 | [],_=>rfl
 |p::l,h=>by
  unfold anyZ at h
  rw[List.any_cons,Bool.or_eq_false_iff] at h
  have h1:=Z9_ (base:=base) (l:=l) h.2
  have h2:=aoC_ base p (by simpa using h.1)
  unfold txtP kM_ at h1 ⊢
  rw[List.map_cons,List.flatten_cons,List.length_append,List.map_cons,List.sum_cons,h1,h2]
theorem wP_ {b:Int} {l:List PcL} {g:Nat}:kM_ b (l.take g)≤kM_ b l:=by
 have:=alU_ b (l.take g) (l.drop g)
 rw[List.take_append_drop] at this
 omega
theorem ahW_ {b:Int} {l:List PcL} {g:Nat} (h:anyZ b l=false):anyZ b (l.take g)=false:=by
 unfold anyZ at h ⊢
 rw[List.any_eq_false] at h ⊢
 exact fun x hx=>h x (List.mem_of_mem_take hx)
theorem an3_ (a b:List UInt8):ZA_ Tryz.prog 57 2 [(0,vs a),(1,vs b)]=some (9, #[vs a,vs b]):=by
 have hz:zE_ Tryz.prog 9=some (vs []):=Tryz.zr9
 have hI: ∀I:Array Value,I.size=2→(I.setIfInBounds 0 (vs a)).setIfInBounds 1 (vs b)= #[vs a,vs b]:=by
  intro I h
  apply Array.ext
  ·simp[h]
  ·intro i h1 h2
   have h3:i<2:=by simpa using h2
   match i,h3 with
   |0,_=>simp[h]
   |1,_=>simp[h]
 have hc: ∀s:List UInt8,(vs s).cells= #[vs s]:=fun s=>rfl
 simp only[ZA_,Tryz.underlying57,Tryz.ag9,hz,Option.map_some]
 simp[Instr.fill,hc]
 exact hI _ (by simp)
theorem BldAt.zeroK (b:Nat) {L:ze_} (h:Sx.look L b=some (.cells #[.pointer none, .slice none 0 0] 123 (0,0))):BldAt b [] L:=
 ⟨_,_,h, .inl rfl, .nl,fun h=>by cases h⟩
theorem aaK_ {w0:World} {L X D:ze_} (hC:Came w0 L X D) (hX:New w0.heap.size X):New w0.heap.size D:=New.of_le fun c hc=>by
 rcases hC.new c hc with h| ⟨-,h⟩
 ·exact hX.le c h
 ·exact h
structure TxG where
 g:Nat
 D:ze_
 E:ze_
set_option linter.defProp false
def j8_:=And.intro (And.intro (And.intro (@zi_) (@zh_)) (And.intro (@xL_) (And.intro (@xK_) (@k8_)))) (And.intro (And.intro (@jH_) (And.intro (@Sx.tup2_0) (@Sx.tup2_1))) (And.intro (@Sx.tup3_0) (And.intro (@Sx.tup3_1) (@Sx.tup3_2))))
theorem ahJ_ (base:List UInt8) (v:Value) (l:List PcL) (w:World) (hv:PcSl w v l) (hl:BndP l) (hn:l.length<1000000000):
  Rets Tryz.prog 206 #[vs base,v] w (fun v' D=>v'= .tuple #[vs (if(vH_ base.length l).2=0 then txtP base l else []),vi (vH_ base.length l).2]∧D= []):=by
 obtain⟨bb,off,arr,E,fz,hr⟩:=hv.row
 have ln:=hv.len
 refine Rets.enterV Tryz.func206 rfl (rs:= [.tmp 4, .tmp 5]) Tryz.results206 Tryz.ntmps206 ?_
 refine kf ?_
 first|with_reducible refine ks [] @j8_ ?_|refine kp @j8_ ?_
 refine Ow.callFV rfl Tryz.call226 (fun w' hw'=>Wd_ (base.length:Int) v l w' (hv.oldN hw' trivial) hl hn) ?_
 by_cases he: (vH_ base.length l).2=0
 ·obtain⟨m,hm⟩: ∃m,vH_ base.length l=(m,0):=⟨(vH_ base.length l).1,by rw[←he]⟩
  obtain⟨-,hb4,hz,hs4,-,hl4⟩:=QS_ hm
  rw[if_pos he,hm]
  have e0: ((0:Int) !=0)=false:=rfl
  refine ko @j8_ ?_
  first|with_reducible refine ks [] (And.intro @j8_ @e0) ?_|refine kp (And.intro @j8_ @e0) ?_
  refine Ow.alloc rfl rfl Tryz.zr123 fun b8 hb8 hw8=> ?_
  have hZ:BldAt b8 [] [(b8, .cells #[.pointer none, .slice none 0 0] 123 (0,0))]:=BldAt.zeroK b8 (zT_ _ _ _)
  refine ko @j8_ ?_
  first|with_reducible refine ks [] (And.intro @j8_ @ln) ?_|refine kp (And.intro @j8_ @ln) ?_
  refine Cw.loopG (G:=TxG) [27,28,29,10,31,32,33,34,30,35,36,37,11,12,13,38,39,40,41,42,43,44,45,46,47,48,26] (fun g=> [(8,vp b8 0),(26,vi g.g)]) (fun g=>g.D++g.E) (fun g=>g.g≤l.length∧New w.heap.size (g.D++g.E)∧BldAt b8 (txtP base (l.take g.g)) g.D) (fun g=>l.length - g.g) ⟨0,[(b8, .cells #[.pointer none, .slice none 0 0] 123 (0,0))],[]⟩ rfl rfl ?_ ?_
  ·exact⟨Nat.zero_le _,⟨hw8,trivial⟩,hZ⟩
  intro g j hg
  refine kv ?_
  obtain⟨g,D,E2⟩:=g
  simp only at hg ⊢
  obtain⟨hgl,hN,hB⟩:=hg
  by_cases hlt:g<l.length
  ·have hb0:0<l.length:=by omega
   have hbl:=hr.lt hb0
   have rd:zA_ w (D++E2) bb=some (.cells arr E fz):=by rw[jh_ (hN.not hbl)];exact hr.has hb0
   have i2:=hr.idx true g hlt
   have ld:=hr.load xb_ (by omega) hlt
   obtain⟨hpb,hpx⟩:=hl g hlt
   have htk:=acc_ (base:=base) hlt
   have htl:=Z9_ (base:=base) (ahW_ (g:=g+1) hz)
   have hsl:=wP_ (b:=(base.length:Int)) (l:=l) (g:=g+1)
   generalize hp:l.getD g pc0=p at*
   have hat:=aks_ p base
   have hpt:=ap6_ base p
   rw[htk,List.length_append] at htl
   have hptl: (pcT base p).length≤4099:=by omega
   have d3:decide ((g:Int)< (l.length:Int))=true:=decide_eq_true (by omega)
   first|with_reducible refine ks [] (And.intro @j8_ (And.intro @d3 (And.intro @i2 (And.intro @rd (@ld))))) ?_|refine kp (And.intro @j8_ (And.intro @d3 (And.intro @i2 (And.intro @rd (@ld))))) ?_
   refine Ow.alloc rfl rfl zrPc fun b9 hb9 hw9=> ?_
   simp only[zc_,List.nil_append,List.cons_append]
   have hD9:b9∉keys D:=fun h=>Nat.lt_irrefl _ (zf_ hb9 (by rw[zk_];exact List.mem_append_left _ h))
   have h89:b8∈keys D:=by obtain⟨p,v,hlk,-⟩:=hB;exact zx_ hlk
   refine Ow.permL (M:=(b9, .cells (pcC pc0).toArray 300 (0,0)):: (D++E2)) (by classical exact List.perm_iff_count.2 fun a=>by simp only[List.count_append,List.count_cons,List.count_nil]<;>omega) ?_
   have hsp:=Wl_ p pc0 300
   refine ko (And.intro @j8_ @hsp) ?_
   first|with_reducible refine ks [] @j8_ ?_|refine kp @j8_ ?_
   refine Ow.callFV rfl Tryz.call227 (fun w' hw'=>Z2_ p (base.length:Int) w' hpb (by omega) (by omega)) ?_
   rw[aqp_]
   generalize hA: (pcAt p base.length).1=A at*
   generalize hNn: (pcAt p base.length).2=Nn at*
   refine ko @j8_ ?_
   first|with_reducible refine ks [] @j8_ ?_|refine kp @j8_ ?_
   refine Cw.permL (M:=D++ ((b9, .cells (pcC p).toArray 300 (0,0))::E2)) (by classical exact List.perm_iff_count.2 fun a=>by simp only[List.count_append,List.count_cons,List.count_nil]<;>omega) ?_
   have rd9:zA_ w (D++ ((b9, .cells (pcC p).toArray 300 (0,0))::E2)) b9=some (.cells (pcC p).toArray 300 (0,0)):=z6_ (by rw[qJ_ hD9];exact zT_ _ _ _)
   have hsum: (A:Int)+ (Nn:Int)=((A+Nn:Nat):Int):=by omega
   refine Cw.regionO [0,1,2,3,4,5,6,7,8,9] [8,9] rfl (by kernel_rfl) (by kernel_rfl) ?_
   simp only[zg_, ↓zd_, ↓zb_, ↓zp_, ↓zq_,za_]
   refine kq (And.intro @j8_ (And.intro @hsum (@rd9))) ?_
   refine Ow.buildSlice (e:=9) #[vs ((base.take (A+Nn)).drop A),vs p.x] rfl rfl (an3_ _ _) fun b11 hb11 hw11=> ?_
   have hD11:b11∉keys D:=fun h=>Nat.lt_irrefl _ (zf_ hb11 (by rw[zk_];exact List.mem_append_left _ h))
   rw[List.append_assoc]
   simp only[List.cons_append,List.nil_append]
   have hX1:=fun(w':World) (hw':Hp w (D++ ((b9,Obj.cells (pcC p).toArray 300 (0,0)):: (E2++ [(b11, .cells #[vs ((base.take (A+Nn)).drop A),vs p.x] 9 (0,0))]))) w')=>hw'.has b11 (.cells #[vs ((base.take (A+Nn)).drop A),vs p.x] 9 (0,0)) (by simp)
   have hpt2: [(base.take (A+Nn)).drop A,p.x].flatten=pcT base p:=by rw[hpt];simp
   refine kq @j8_ ?_
   refine Ow.callX (Y:=((b9,Obj.cells (pcC p).toArray 300 (0,0)):: (E2++ [(b11, .cells #[vs ((base.take (A+Nn)).drop A),vs p.x] 9 (0,0))]))) (by simp) rfl rfl Tryz.call60 (fun w' hw' hX hn=>vk_ b8 D _ _ b11 0 [(base.take (A+Nn)).drop A,p.x] _ _ _ w' hB hX hn (StrS.lit [(base.take (A+Nn)).drop A,p.x] rfl rfl (hX1 w' hw')) (fun _=>hD11) (by rw[hpt2];omega) (by simp)) (fun v12 D12 hC12 hS12=> ?_)
   obtain⟨rfl,hB12⟩:=hS12
   rw[hpt2,←htk] at hB12
   have hN0:New w.heap.size D:=New.of_le fun c hc=>hN.le c (by rw[zk_];exact List.mem_append_left _ hc)
   have hE0:New w.heap.size E2:=New.of_le fun c hc=>hN.le c (by rw[zk_];exact List.mem_append_right _ hc)
   have hN12:New w.heap.size D12:=aaK_ hC12 hN0
   refine kq @j8_ ?_
   try with_reducible refine Ow.nil ?_
   first|with_reducible refine ks [] @j8_ ?_|refine kp @j8_ ?_
   refine Again.mk (TxG.mk (g+1) D12 ((b9,Obj.cells (pcC p).toArray 300 (0,0)):: (E2++ [(b11, .cells #[vs ((base.take (A+Nn)).drop A),vs p.x] 9 (0,0))]))) (by show l.length - (g+1)<l.length - g;omega) ⟨hlt,hN12.app ⟨hw9,hE0.app ⟨hw11,trivial⟩⟩,hB12⟩ rfl rfl
  ·obtain rfl:g=l.length:=by omega
   have d3:decide ((l.length:Int)< (l.length:Int))=false:=by simp
   rw[List.take_length] at hB
   have htl:=Z9_ hz
   first|with_reducible refine ks [] (And.intro @j8_ @d3) ?_|refine kp (And.intro @j8_ @d3) ?_
   refine Ow.callX (Y:=E2) (by simp) rfl rfl Tryz.call64 (fun w' hw' hX hn=>kZ_ b8 D _ w' hB hX hn (by omega)) (fun v12 D12 hC12 hS12=> ?_)
   have hS12':v12=vs (txtP base l):=hS12
   subst hS12'
   have hN0:New w.heap.size D:=New.of_le fun c hc=>hN.le c (by rw[zk_];exact List.mem_append_left _ hc)
   have hE0:New w.heap.size E2:=New.of_le fun c hc=>hN.le c (by rw[zk_];exact List.mem_append_right _ hc)
   have hN12:New w.heap.size D12:=aaK_ hC12 hN0
   refine ko @j8_ ?_
   first|with_reducible refine ks [] @j8_ ?_|refine kp @j8_ ?_
   refine⟨_,(ke @j8_),hN12.app hE0, ?_⟩
   rfl
 ·have e1: ((vH_ base.length l).2 !=0)=true:=by rw[bne_iff_ne];exact he
  rw[if_neg he]
  refine ko @j8_ ?_
  first|with_reducible refine ks [] (And.intro @j8_ @e1) ?_|refine kp (And.intro @j8_ @e1) ?_
  refine⟨_,(ke @j8_),trivial, ?_⟩
  rfl
end Go.Proofs
end
namespace Go.Sx
open Go
section
variable {α:Type} {m:Nat} {enc:α→List Value} {z:α}
end
section
variable {P:Program} {w0:World} {f:Fr} {L:ze_} {N:Fr→ze_→Prop} {ops:Array Oper} {rest:List Oper} {md:Md} {d:Option Tmp} {ty:TypeId} {ps:String} {af:Array Edge} {g:Option (Nat×Bool)}
theorem Ow.makeSlice {t e:TypeId} {m:Bool×Nat} {z:Value} {x y:Operand} {n c:Nat} {md':Md} (he:md.turn=some md') (hs:zn_ ops f ⟨d, .makeSlice t x y,ty,ps,af,g⟩=false)
  (hu:P.underlying t=some (.slice e)) (hm:z2_ P e=some m) (hi:k9_ P e=true) (hz:zE_ P e=some z) (hx:ev f x=vi n) (hy:ev f y=vi c) (hnc:n≤c) (hbig:c≤2^38)
  (hn: ∀b,xB_ L b→w0.heap.size≤b→Ow P w0 ops md' rest (qC_ f d (vsl b 0 n c)) (L++ [(b, .cells (madeCells z.cells (c*m.2)) e (0,0))]) N):
  Ow P w0 ops md (⟨d, .makeSlice t x y,ty,ps,af,g⟩::rest) f L N:=by
 refine Ow.step he rfl hs fun w hw=> .inl ⟨vsl w.heap.size 0 n c,w.alloc (.cells (madeCells z.cells (c*m.2)) e (0,0)),_, ?_,hw.alloc _,hn _ (qu_ fun b hb=>hw.lt hb) hw.size⟩
 obtain⟨i,hie,-,hb⟩:=wz_ hi hbig
 have hiz:i.zero=some z:=by
  unfold zE_ at hz
  rw[hie] at hz
  exact hz
 have him:i.size=m.2:=by
  unfold z2_ at hm
  rw[hie] at hm
  split at hm
  ·rename_i h1 h2
   cases h2
   cases hm
   rfl
  ·cases hm
 have hbb: (i.bytes:Int)* (c:Int)≤281474976710656:=by
  have: ((i.bytes*c:Nat):Int)≤281474976710656:=by rw[Nat.mul_comm];exact Int.ofNat_le.2 hb
  rwa [Int.natCast_mul] at this
 have hr:=run_make (P:=P) w t e i z hu hie hiz .i64 .i64 (n:Int) (c:Int) (by omega) (by omega) hbb (by omega)
 simp only[Int.toNat_natCast,him] at hr
 show(execOp (ev f) _).run P w=_
 simp only[execOp,Sem.run_bind]
 rw[hx,hy]
 show((Instr.makeSlice t (.int .i64 (n:Int)) (.int .i64 (c:Int))).run P w).andThen _=_
 rw[hr]
 rfl
theorem Ow.appendXG {ts tx e:TypeId} {m:Bool×Nat} {z:Value} {s x:Operand} {n k:Nat} {cs new:List Value} {dx:TypeDesc} {md':Md} {X Y:ze_} (sv:Value) (hL:L=X++Y) (hsv:ev f s=sv) (he:md.turn=some md')
  (hs:zn_ ops f ⟨d, .call ⟨.builtin .append, #[s,x], #[ts,tx]⟩,ty,ps,af,g⟩=false)
  (hu:P.underlying ts=some (.slice e)) (hm:z2_ P e=some m) (hi:k9_ P e=true) (hz:zE_ P e=some z) (hzs:z.cells.size=m.2) (hux:P.underlying tx=some dx) (hnx: ∀k,dx≠ .int k)
  (hB:Gr X e m.2 sv n cs) (hX: ∀w,Hp w0 L w→AppX P w m.2 (ev f x) k new) (hbig:2* (n+k)+768≤2^38)
  (hn: ∀B v' D,xB_ L B→w0.heap.size≤B→Gr D e m.2 v' (n+k) (cs++new)→(∀c,c∈keys X→c∈keys D)→(∀c,c∈keys D→c∈keys X∨B≤c)→(∀c o,slB sv≠some c→look X c=some o→look D c=some o)→Ow P w0 ops md' rest (qC_ f d v') (D++Y) N):
  Ow P w0 ops md (⟨d, .call ⟨.builtin .append, #[s,x], #[ts,tx]⟩,ty,ps,af,g⟩::rest) f L N:=by
 subst hL
 refine Ow.step he rfl hs fun w hw=> ?_
 have hp:=hw.part
 have hA:xB_ (X++Y) w.heap.size:=qu_ fun b hb=>hw.lt hb
 have fin: ∀v' w' D,(Builtin.append_ #[ts,tx] ty #[sv,ev f x]).run P w= .ok v' w'→Hp w D w'→Gr D e m.2 v' (n+k) (cs++new)→(∀c,c∈keys X→c∈keys D)→(∀c,c∈keys D→c∈keys X∨w.heap.size≤c)→(∀c o,slB sv≠some c→look X c=some o→look D c=some o)→
   (∃v w' L',(execOp (ev f) ⟨d, .call ⟨.builtin .append, #[s,x], #[ts,tx]⟩,ty,ps,af,g⟩).run P w= .ok (.value v) w'∧Hp w0 L' w'∧Ow P w0 ops md' rest (qC_ f d v) L' N):=by
  intro v' w' D hr hD hb h1 h2 h3
  refine⟨v',w',D++Y, ?_,hw.join hD h1 h2,hn w.heap.size v' D hA hw.size hb h1 h2 h3⟩
  simp only[execOp,resolve,Sem.run_bind,Sem.run_pure,Result.andThen_ok,invoke,builtin,List.map_toArray,List.map_cons,List.map_nil,hsv]
  rw[hr]
  rfl
 rcases hB with hB| ⟨rfl,rfl,b,rfl,hlk⟩
 ·obtain⟨v',w',D,hr,hD,hb,hg,-⟩:=Jk_ (w0:=w) (L:=X) (ty:=ty) (x:=ev f x) hp hu hm hi hz hzs hux hnx hB (fun w2 hw2=>hX w2 (by
   refine hw.join hw2 (fun c hc=>hc) (fun c hc=> .inl hc))) hbig
  exact .inl (fin v' w' D hr hD (.inl hb) hg.keys (fun c hc=>(hg.new c hc).imp id And.right) hg.look)
 ·rcases wW_ (w0:=w) (L:=X) (ty:=ty) (b:=b) (x:=ev f x) hp hu hm hi hz hzs hux hnx (fun w2 hw2=>hX w2 (by
   refine hw.join hw2 (fun c hc=>hc) (fun c hc=> .inl hc))) hbig with⟨h0,hr⟩ | ⟨-,v',w',D,hr,hD,hb,hg,-⟩
  ·subst h0
   have hnw:=(hX w hw).size
   obtain rfl:new= []:=List.eq_nil_of_length_eq_zero (by rw[hnw,Nat.zero_mul])
   exact .inl (fin _ w X hr hp (.inr ⟨rfl,rfl,b,rfl,hlk⟩) (fun c hc=>hc) (fun c hc=> .inl hc) (fun c o _ hl=>hl))
  ·exact .inl (fin v' w' D hr hD (.inl hb) hg.keys (fun c hc=>(hg.new c hc).imp id And.right) (fun c o _ hl=>hg.look c o (by simp[slB]) hl))
end
theorem New.perm {n:Nat} {D D':ze_} (h:New n D) (hp:D.Perm D'):New n D':=New.of_le fun c hc=>h.le c ((hp.map Prod.fst).mem_iff.2 hc)
end Go.Sx
section
open Go Go.Proofs Go.Sx Go.StP Go.Flo
namespace Go.Proofs
set_option maxRecDepth 10000
set_option maxHeartbeats 400000
set_option linter.unusedSimpArgs false
def dB (d:List UInt8):Int×Nat×Int:=zr_ d 0 0 4099
def dM (d:List UInt8):Int×Nat×Int:=zr_ d (dB d).2.1 (dB d).2.2 4099
theorem wQ_ (d:List UInt8):x5_ d=if(dM d).2.2≠0 then none else if(pcs d (dM d).2.1).2.2≠0 then none else if vH_ (dB d).1 (pcs d (dM d).2.1).1=((dM d).1,0) then some ((dB d).1.toNat,(pcs d (dM d).2.1).1) else none:=rfl
structure EG where
 lab:Nat
 br:Nat
 a:Nat
 e:Int
 out:List PcL
 v:Value
 D:ze_
def drO (d:List UInt8) (a e:Int):Obj:= .cells #[vs d,vi a,vi e] 212 (0,0)
def EJ (d:List UInt8) (n:Nat) (g:EG):Prop:=
 (g.lab=1∧n≤g.br∧New n g.D∧g.br∉keys g.D∧Gr g.D 300 2 g.v g.out.length (g.out.map pcC).flatten∧g.a≤d.length∧BndP g.out∧g.out.length≤4099∧
  ((g.e≠0∧x5_ d=none)∨(g.e=0∧(dM d).2.2=0∧pcs d (dM d).2.1=(g.out++ (pcs d g.a).1,(pcs d g.a).2))))∨
 (g.lab=0∧n≤g.br∧New n g.D∧g.br∉keys g.D∧Gr g.D 300 2 g.v g.out.length (g.out.map pcC).flatten∧BndP g.out∧g.out.length≤4099∧(dM d).2.2=0∧pcs d (dM d).2.1=(g.out,d.length,0))∨
 (g.lab=2∧New n g.D∧x5_ d=none)
def EH (d:List UInt8) (g:EG):ze_:=match g.lab with
 |1=>(g.br,drO d g.a g.e)::g.D
 |0=>(g.br,drO d g.a g.e)::g.D
 |_=>g.D
def ES (d:List UInt8) (g:EG):List (Nat×Value):=match g.lab with
 |1=> [(5,vp g.br 0),(6,vi (dB d).1),(7,vi (dM d).1),(8,g.v)]
 |0=> [(6,vi (dB d).1),(7,vi (dM d).1),(8,g.v)]
 |_=> []
def EL (g:EG):Nat:=match g.lab with
 |1=>1
 |0=>0
 |_=>2
def VI_ (d:List UInt8) (v:Value) (D:ze_):Prop:=match x5_ d with
 |some p=> ∃x,v= .tuple #[vi p.1,x,vi 0]∧BndP p.2∧p.2.length≤4099∧p.1≤4099∧GrI D 300 2 x p.2.length (p.2.map pcC).flatten
 |none=>v= .tuple #[vi 0, .slice none 0 0,vi 2]
def pcE (d:List UInt8) (a:Nat) (e:Int):PcL×Nat×Int:=
 if(zr_ d a e 8199).1%2=1 then
  (⟨(zr_ d (zr_ d a e 8199).2.1 (zr_ d a e 8199).2.2 4099).1.toNat,((zr_ d a e 8199).1 / 2).toNat,[]⟩,(zr_ d (zr_ d a e 8199).2.1 (zr_ d a e 8199).2.2 4099).2)
 else(⟨0,0,(qD_ d (zr_ d a e 8199).2.1 (zr_ d a e 8199).2.2 ((zr_ d a e 8199).1 / 2)).1⟩,(qD_ d (zr_ d a e 8199).2.1 (zr_ d a e 8199).2.2 ((zr_ d a e 8199).1 / 2)).2)
theorem ak8_ (d:List UInt8) (a:Nat):pcE d a 0=pcR d a:=rfl
theorem aqw_ {d:List UInt8} {a:Nat} {e:Int} (he:e≠0): (pcE d a e).2.2=e:=by
 have h1:=ZD_ (s:=d) (a:=a) (most:=8199) he
 unfold pcE
 split
 ·simp only[h1]
  rw[ZD_ (s:=d) (a:=a) (most:=4099) he]
 ·simp only[h1]
  rw[VY_ (s:=d) (a:=a) he]
theorem aio_ (a n:Nat):qp_ (x3_ Tryz.prog 300) (zE_ Tryz.prog 300) [(0,cx a n)]=some (.agg (pcC ⟨a,n,[]⟩).toArray):=by
 rw[show x3_ Tryz.prog 300=some [(0,1),(1,1)] from id (by kernel_rfl),zrPc];rfl
theorem ah6_ (x:List UInt8):qp_ (x3_ Tryz.prog 300) (zE_ Tryz.prog 300) [(1,vs x)]=some (.agg (pcC ⟨0,0,x⟩).toArray):=by
 rw[show x3_ Tryz.prog 300=some [(0,1),(1,1)] from id (by kernel_rfl),zrPc];rfl
theorem aen_ (p:PcL):ZA_ Tryz.prog 263 1 [(0, .agg (pcC p).toArray)]=some (300,(pcC p).toArray):=
 zR_ Tryz.underlying263 (id (by kernel_rfl)) zrPc (by decide) (xb_ p)
theorem vU_ {d:List UInt8} {a:Nat} {out:List PcL} (hrel:pcs d (dM d).2.1=(out++ (pcs d a).1,(pcs d a).2)) (h: (pcs d a).2.2≠0∨4099< (out++ (pcs d a).1).length):x5_ d=none:=by
 rw[wQ_]
 split
 ·rfl
 ·split
  ·rfl
  ·rename_i h2
   rw[hrel] at h2 ⊢
   simp only at h2 ⊢
   rcases h with h|h
   ·exact absurd h h2
   ·rw[if_neg]
    intro hc
    have:=(QS_ hc).2.2.2.2.2
    omega
set_option linter.defProp false
def zW_:=And.intro (And.intro (And.intro (@zi_) (And.intro (@zh_) (@xL_))) (And.intro (@xK_) (And.intro (@k8_) (@jH_)))) (And.intro (And.intro (@Sx.tup2_0) (And.intro (@Sx.tup2_1) (@Sx.tup3_0))) (And.intro (@Sx.tup3_1) (And.intro (@Sx.tup3_2) (@kv_))))
theorem ahc_ (d:List UInt8) (w:World) (hd:d.length<9223372036854775808):Rets Tryz.prog 205 #[vs d] w (XS w [] (VI_ d)):=by
 refine Rets.enterX Tryz.func205 rfl (rs:= [.tmp 2, .tmp 3, .tmp 4]) Tryz.results205 Tryz.ntmps205 (fun p hp=>by cases hp) (by simp[keys]) ?_
 refine kf ?_
 first|with_reducible refine ks [] @zW_ ?_|refine kp @zW_ ?_
 refine Cw.scopeL (G:=EG) (fun g=>EL g) [12,13,5,14,15,16,17,6,7,8,9,10,11,18,19,20,21,22,23,24,25,26,27,28,29,30,31,32,33,34,35,36,37,38,39,40,41,42,43,44,45,46,47,48,49,50,51,52,54,55,56,53,57,58,59,60,61,62,63,64,65,66,67,2,3,4] (fun g=>ES d g) (fun g=>EH d g) (fun g=>EJ d w.heap.size g) (fun g=>(if g.lab=1 then d.length - g.a+1 else 0)) ?_ ?_ ?_
 ·intro g
  unfold EL
  split<;>rfl
 ·intro g j hg
  rcases hg with hg|hg|hg
  ·obtain⟨lab,br,a,e,out,v,D⟩:=g
   obtain⟨hlab,hg⟩:=hg
   simp only at hlab
   subst hlab
   simp only[EL,ES,EH] at hg ⊢
   obtain⟨hwr,hN,hbD,hGr,hal,hB,hol,hrel⟩:=hg
   simp only[drO]
   simp only[kF_,Jn_,Bool.or_false,Bool.false_or,Bool.or_true,Bool.true_or,Nat.reduceBEq,beq_self_eq_true, ↓reduceIte,Bool.false_eq_true]
   refine kv ?_
   try with_reducible refine qv_ ?_
   first|with_reducible refine ks [] @zW_ ?_|refine kp @zW_ ?_
   by_cases hA:e=0∧ ¬a<d.length
   ·obtain⟨rfl,hAl⟩:=hA
    have hE: (if(0:Int)≠0 then(0:Int) else if(a:Int)<d.length then 5 else 0)=0:=by rw[if_neg (by simp),if_neg (by omega)]
    have e00: ((0:Int)==0)=true:=rfl
    refine Ow.callFV rfl Tryz.call74 (fun w' hw'=>Kc_ br d a 0 w' (hw'.has _ _ List.mem_cons_self)) ?_
    rw[hE]
    refine ko (And.intro @zW_ @e00) ?_
    first|with_reducible refine ks [] @zW_ ?_|refine kp @zW_ ?_
    refine Jump.mk ⟨0,br,a,0,out,v,D⟩ rfl (by show 0<d.length - a+1;omega) (.inr (.inl ⟨rfl,hwr,hN,hbD,hGr,hB,hol, ?_⟩)) rfl rfl
    rcases hrel with h| ⟨-,h1,h2⟩
    ·exact absurd rfl h.1
    ·rw[WB_ hAl,List.append_nil] at h2
     exact⟨h1,by rw[h2,show a=d.length by omega]⟩
   ·obtain⟨E1,hE1,hE0⟩: ∃E1,(if e≠0 then e else if(a:Int)<d.length then 5 else 0)=E1∧(E1==0)=false:=by
     refine⟨_,rfl, ?_⟩
     rw[beq_eq_false_iff_ne]
     split
     ·assumption
     ·rename_i he
      rw[if_pos (by
       have:e=0:=by simpa using he
       have:a<d.length:=by
        rcases Nat.lt_or_ge a d.length with h|h
        ·exact h
        ·exact absurd ⟨this,by omega⟩ hA
       omega)]
      decide
    refine Ow.callFV rfl Tryz.call74 (fun w' hw'=>Kc_ br d a e w' (hw'.has _ _ List.mem_cons_self)) ?_
    rw[hE1]
    refine ko (And.intro @zW_ @hE0) ?_
    first|with_reducible refine ks [] @zW_ ?_|refine kp @zW_ ?_
    have hq:=z9_ (s:=d) (a:=a) (e:=e) (most:=8199) (by omega)
    have hle1:=zO_ (s:=d) (a:=a) (e:=e) (most:=8199) hal
    have hpE:pcE d a e=pcE d a e:=rfl
    conv at hpE=>rhs;unfold pcE
    refine Ow.callM rfl rfl Tryz.call95 (by simp[keys]) (fun w' hw'=>q8_ br d a e 8199 w' hal hd (hw'.has _ _ List.mem_cons_self)) ?_
    generalize zr_ d a e 8199=q at*
    obtain⟨q1,a1,e1⟩:=q
    simp only at hq hle1 hpE ⊢
    obtain⟨Q,rfl⟩: ∃Q:Nat,q1=(Q:Int):=⟨q1.toNat,by omega⟩
    have hQ:Q≤8199:=by omega
    refine kn ?_
    refine ko @zW_ ?_
    by_cases hodd: (Q:Int)%2=1
    ·have d1: (((Q:Nat):Int)%2==1)=true:=by rw[beq_iff_eq];exact hodd
     rw[if_pos hodd] at hpE
     first|with_reducible refine ks [] (And.intro @zW_ @d1) ?_|refine kp (And.intro @zW_ @d1) ?_
     have hm2:=z9_ (s:=d) (a:=a1) (e:=e1) (most:=4099) (by omega)
     have hle2:=zO_ (s:=d) (a:=a1) (e:=e1) (most:=4099) hle1.2
     refine Ow.callM rfl rfl Tryz.call95 (by simp[keys]) (fun w' hw'=>q8_ br d a1 e1 4099 w' hle1.2 hd (hw'.has _ _ List.mem_cons_self)) ?_
     generalize zr_ d a1 e1 4099=x at*
     obtain⟨x1,a2,e2⟩:=x
     simp only at hm2 hle2 hpE ⊢
     obtain⟨X,rfl⟩: ∃X:Nat,x1=(X:Int):=⟨x1.toNat,by omega⟩
     rw[Int.toNat_natCast,show((Q:Int) / 2).toNat=Q / 2 by omega] at hpE
     refine kn ?_
     refine Ow.convIF rfl rfl cvIF Tryz.underlying3 Tryz.underlying301 rfl ?_
     refine ko @zW_ ?_
     rw[show(Q:Int) / 2=((Q / 2:Nat):Int) by omega]
     refine Ow.convIF rfl rfl cvIF Tryz.underlying3 Tryz.underlying301 rfl ?_
     refine Ow.complexB (a:=(X:Nat)) (b:=(Q / 2:Nat)) rfl rfl rfl ?_
     refine Ow.build (.agg (pcC ⟨X,Q / 2,[]⟩).toArray) rfl (aio_ X (Q / 2)) ?_
     have hpB:PcB (⟨X,Q / 2,[]⟩:PcL)∧(⟨X,Q / 2,[]⟩:PcL).x.length<9223372036854775808:=⟨⟨by show X≤4099;omega,by show Q / 2≤4099;omega⟩,by show 0<9223372036854775808;omega⟩
     generalize (⟨X,Q / 2,[]⟩:PcL)=p at*
     refine Ow.buildSlice (e:=300) (pcC p).toArray rfl rfl (aen_ p) fun b9 hb9 hw9=> ?_
     have h9:br<b9:=zf_ hb9 (by simp[keys])
     refine Ow.permL (M:=D++ [(br, .cells #[vs d,vi a2,vi e2] 212 (0,0)),(b9, .cells (pcC p).toArray 300 (0,0))]) (by classical exact List.perm_iff_count.2 fun a=>by simp only[List.count_append,List.count_cons,List.count_nil]<;>omega) ?_
     refine ko @zW_ ?_
     refine Ow.appendXG (e:=300) (k:=1) (new:=pcC p) (X:=D) v rfl rfl rfl rfl Tryz.underlying263 (id (by kernel_rfl):z2_ Tryz.prog 300=some (true,2)) (by kernel_rfl) zrPc (by rw[jH_,List.size_toArray,xb_]) Tryz.underlying263 (by intro k h;cases h) hGr (fun w' hw'=>AppX.one1 (hw'.has b9 (.cells (pcC p).toArray 300 (0,0)) (by simp)) (xb_ p) (WZ_ p)) (by omega) (fun B3 v3 D3 hA3 hB3 hG3 hk13 hk23 hlk3=> ?_)
     have hN3:New w.heap.size D3:=New.of_le fun q hq=>by
      rcases hk23 q hq with h|h
      ·exact hN.le q h
      ·omega
     have hbD3:br∉keys D3:=fun hm=>by
      rcases hk23 br hm with h|h
      ·exact hbD h
      ·exact Nat.lt_irrefl _ (Nat.lt_of_lt_of_le (zf_ hA3 (by rw[zk_];exact List.mem_append_right _ (by simp[keys]))) h)
     have hG4:Gr (D3++ [(b9, .cells (pcC p).toArray 300 (0,0))]) 300 2 v3 (out++ [p]).length ((out++ [p]).map pcC).flatten:=by
      have:=hG3.app (M:= [(b9,Obj.cells (pcC p).toArray 300 (0,0))])
      simpa using this
     have hN4:New w.heap.size (D3++ [(b9,Obj.cells (pcC p).toArray 300 (0,0))]):=hN3.app ⟨hw9,trivial⟩
     have hbD4:br∉keys (D3++ [(b9,Obj.cells (pcC p).toArray 300 (0,0))]):=fun hm=>by
      rw[zk_] at hm
      rcases List.mem_append.1 hm with h|h
      ·exact hbD3 h
      ·simp[keys] at h;omega
     refine Ow.permL (M:=(br, .cells #[vs d,vi a2,vi e2] 212 (0,0)):: (D3++ [(b9, .cells (pcC p).toArray 300 (0,0))])) (by classical exact List.perm_iff_count.2 fun a=>by simp only[List.count_append,List.count_cons,List.count_nil]<;>omega) ?_
     generalize (D3++ [(b9,Obj.cells (pcC p).toArray 300 (0,0))])=D4 at*
     refine ko @zW_ ?_
     first|with_reducible refine ks [] @zW_ ?_|refine kp @zW_ ?_
     refine Ow.callFV rfl Tryz.call137 (fun w' hw'=>xR_ br d a2 e2 w' (hw'.has _ _ List.mem_cons_self)) ?_
     have hlen4: ∀m,X4_ (.sl m) v3=some (vi (out++ [p]).length):=fun m=>hG4.len m
     have hB4:BndP (out++ [p]):=by
      intro g hg
      rw[List.length_append,List.length_cons,List.length_nil] at hg
      by_cases hgl:g<out.length
      ·rw[jL_ hgl];exact hB g hgl
      ·rw[qy_ (by omega),show g - out.length=0 by omega]
       exact hpB
     have hle0:e2=0→e=0:=fun h=>by
      by_cases he:e=0
      ·exact he
      ·have:=aqw_ (d:=d) (a:=a) he
       rw[hpE] at this
       exact absurd (this.symm.trans h) he
     have hNw:New w.heap.size ((br,Obj.cells #[vs d,vi a2,vi e2] 212 (0,0))::D4):=⟨hwr,hN4⟩
     by_cases he2:e2=0
     ·have he0:=hle0 he2
      subst he2
      subst he0
      have hlt:a<d.length:=by
       rcases Nat.lt_or_ge a d.length with h|h
       ·exact h
       ·exact absurd ⟨rfl,by omega⟩ hA
      have e00: ((0:Int) !=0)=false:=rfl
      rw[ak8_] at hpE
      have hr0: (pcR d a).2.2=0:=by rw[hpE]
      have hup:=KE_ hal hr0
      rw[hpE] at hup
      have hup2:a<a2:=hup
      obtain⟨-,hm0,hpc⟩: (0:Int)=0∧(dM d).2.2=0∧pcs d (dM d).2.1=(out++ (pcs d a).1,(pcs d a).2):=by
       rcases hrel with h|h
       ·exact absurd rfl h.1
       ·exact h
      rw[abC_ hlt hr0,hpE] at hpc
      have hpc':pcs d (dM d).2.1=((out++ [p])++ (pcs d a2).1,(pcs d a2).2):=by rw[hpc];simp
      by_cases hlen:4099< (out++ [p]).length
      ·have d5:decide ((4099:Int)< ((out++ [p]).length:Int))=true:=decide_eq_true (by omega)
       refine ko (And.intro @zW_ (And.intro @e00 (And.intro @hlen4 (@d5)))) ?_
       first|with_reducible refine ks [] (And.intro @zW_ (And.intro @e00 (And.intro @hlen4 (@d5)))) ?_|refine kp (And.intro @zW_ (And.intro @e00 (And.intro @hlen4 (@d5)))) ?_
       refine Jump.mk ⟨2,br,a2,0,out,v3,(br, .cells #[vs d,vi a2,vi 0] 212 (0,0))::D4⟩ rfl (by show 0<d.length - a+1;omega) (.inr (.inr ⟨rfl,hNw,vU_ hpc' (.inr ?_)⟩)) rfl rfl
       rw[List.length_append];omega
      ·have d5:decide ((4099:Int)< ((out++ [p]).length:Int))=false:=decide_eq_false (by omega)
       refine ko (And.intro @zW_ (And.intro @e00 (And.intro @hlen4 (@d5)))) ?_
       first|with_reducible refine ks [] (And.intro @zW_ (And.intro @e00 (And.intro @hlen4 (@d5)))) ?_|refine kp (And.intro @zW_ (And.intro @e00 (And.intro @hlen4 (@d5)))) ?_
       refine Jump.mk ⟨1,br,a2,0,out++ [p],v3,D4⟩ rfl (by show d.length - a2+1<d.length - a+1;omega) (.inl ⟨rfl,hwr,hN4,hbD4,hG4,hle2.2,hB4,by show(out++ [p]).length≤4099;omega, .inr ⟨rfl,hm0,hpc'⟩⟩) rfl rfl
     ·have e00: (e2 !=0)=true:=by rw[bne_iff_ne];exact he2
      have hno:x5_ d=none:=by
       rcases hrel with h| ⟨rfl,hm0,hpc⟩
       ·exact h.2
       ·have hlt:a<d.length:=by
         rcases Nat.lt_or_ge a d.length with h|h
         ·exact h
         ·exact absurd ⟨rfl,by omega⟩ hA
        rw[ak8_] at hpE
        refine vU_ hpc (.inl ?_)
        rw[XG_ hlt (by rw[hpE];exact he2),hpE];exact he2
      refine ko (And.intro @zW_ @e00) ?_
      first|with_reducible refine ks [] (And.intro @zW_ @e00) ?_|refine kp (And.intro @zW_ @e00) ?_
      exact Jump.mk ⟨2,br,a2,0,out,v3,(br, .cells #[vs d,vi a2,vi e2] 212 (0,0))::D4⟩ rfl (by show 0<d.length - a+1;omega) (.inr (.inr ⟨rfl,hNw,hno⟩)) rfl rfl
    ·have d1: (((Q:Nat):Int)%2==1)=false:=by rw[beq_eq_false_iff_ne];exact hodd
     rw[if_neg hodd] at hpE
     first|with_reducible refine ks [] (And.intro @zW_ @d1) ?_|refine kp (And.intro @zW_ @d1) ?_
     have hle2:=kG_ (s:=d) (a:=a1) (e:=e1) (n:=(Q:Int) / 2) hle1.2
     have hxl: (qD_ d a1 e1 ((Q:Int) / 2)).1.length<9223372036854775808:=by
      unfold qD_
      split
      ·simp
      ·split
       ·simp
       ·split
        ·simp
        ·simp only[List.length_take,List.length_drop];omega
     refine Ow.callM rfl rfl Tryz.call94 (by simp[keys]) (fun w' hw'=>wB_ br d a1 e1 ((Q:Int) / 2) w' hle1.2 hd (hw'.has _ _ List.mem_cons_self)) ?_
     generalize qD_ d a1 e1 ((Q:Int) / 2)=x at*
     obtain⟨x1,a2,e2⟩:=x
     simp only at hle2 hxl hpE ⊢
     refine kn ?_
     refine Ow.build (.agg (pcC ⟨0,0,x1⟩).toArray) rfl (ah6_ x1) ?_
     have hpB:PcB (⟨0,0,x1⟩:PcL)∧(⟨0,0,x1⟩:PcL).x.length<9223372036854775808:=⟨⟨Nat.zero_le _,Nat.zero_le _⟩,hxl⟩
     generalize (⟨0,0,x1⟩:PcL)=p at*
     refine Ow.buildSlice (e:=300) (pcC p).toArray rfl rfl (aen_ p) fun b9 hb9 hw9=> ?_
     have h9:br<b9:=zf_ hb9 (by simp[keys])
     refine Ow.permL (M:=D++ [(br, .cells #[vs d,vi a2,vi e2] 212 (0,0)),(b9, .cells (pcC p).toArray 300 (0,0))]) (by classical exact List.perm_iff_count.2 fun a=>by simp only[List.count_append,List.count_cons,List.count_nil]<;>omega) ?_
     refine ko @zW_ ?_
     refine Ow.appendXG (e:=300) (k:=1) (new:=pcC p) (X:=D) v rfl rfl rfl rfl Tryz.underlying263 (id (by kernel_rfl):z2_ Tryz.prog 300=some (true,2)) (by kernel_rfl) zrPc (by rw[jH_,List.size_toArray,xb_]) Tryz.underlying263 (by intro k h;cases h) hGr (fun w' hw'=>AppX.one1 (hw'.has b9 (.cells (pcC p).toArray 300 (0,0)) (by simp)) (xb_ p) (WZ_ p)) (by omega) (fun B3 v3 D3 hA3 hB3 hG3 hk13 hk23 hlk3=> ?_)
     have hN3:New w.heap.size D3:=New.of_le fun q hq=>by
      rcases hk23 q hq with h|h
      ·exact hN.le q h
      ·omega
     have hbD3:br∉keys D3:=fun hm=>by
      rcases hk23 br hm with h|h
      ·exact hbD h
      ·exact Nat.lt_irrefl _ (Nat.lt_of_lt_of_le (zf_ hA3 (by rw[zk_];exact List.mem_append_right _ (by simp[keys]))) h)
     have hG4:Gr (D3++ [(b9, .cells (pcC p).toArray 300 (0,0))]) 300 2 v3 (out++ [p]).length ((out++ [p]).map pcC).flatten:=by
      have:=hG3.app (M:= [(b9,Obj.cells (pcC p).toArray 300 (0,0))])
      simpa using this
     have hN4:New w.heap.size (D3++ [(b9,Obj.cells (pcC p).toArray 300 (0,0))]):=hN3.app ⟨hw9,trivial⟩
     have hbD4:br∉keys (D3++ [(b9,Obj.cells (pcC p).toArray 300 (0,0))]):=fun hm=>by
      rw[zk_] at hm
      rcases List.mem_append.1 hm with h|h
      ·exact hbD3 h
      ·simp[keys] at h;omega
     refine Ow.permL (M:=(br, .cells #[vs d,vi a2,vi e2] 212 (0,0)):: (D3++ [(b9, .cells (pcC p).toArray 300 (0,0))])) (by classical exact List.perm_iff_count.2 fun a=>by simp only[List.count_append,List.count_cons,List.count_nil]<;>omega) ?_
     generalize (D3++ [(b9,Obj.cells (pcC p).toArray 300 (0,0))])=D4 at*
     refine ko @zW_ ?_
     first|with_reducible refine ks [] @zW_ ?_|refine kp @zW_ ?_
     refine Ow.callFV rfl Tryz.call137 (fun w' hw'=>xR_ br d a2 e2 w' (hw'.has _ _ List.mem_cons_self)) ?_
     have hlen4: ∀m,X4_ (.sl m) v3=some (vi (out++ [p]).length):=fun m=>hG4.len m
     have hB4:BndP (out++ [p]):=by
      intro g hg
      rw[List.length_append,List.length_cons,List.length_nil] at hg
      by_cases hgl:g<out.length
      ·rw[jL_ hgl];exact hB g hgl
      ·rw[qy_ (by omega),show g - out.length=0 by omega]
       exact hpB
     have hle0:e2=0→e=0:=fun h=>by
      by_cases he:e=0
      ·exact he
      ·have:=aqw_ (d:=d) (a:=a) he
       rw[hpE] at this
       exact absurd (this.symm.trans h) he
     have hNw:New w.heap.size ((br,Obj.cells #[vs d,vi a2,vi e2] 212 (0,0))::D4):=⟨hwr,hN4⟩
     by_cases he2:e2=0
     ·have he0:=hle0 he2
      subst he2
      subst he0
      have hlt:a<d.length:=by
       rcases Nat.lt_or_ge a d.length with h|h
       ·exact h
       ·exact absurd ⟨rfl,by omega⟩ hA
      have e00: ((0:Int) !=0)=false:=rfl
      rw[ak8_] at hpE
      have hr0: (pcR d a).2.2=0:=by rw[hpE]
      have hup:=KE_ hal hr0
      rw[hpE] at hup
      have hup2:a<a2:=hup
      obtain⟨-,hm0,hpc⟩: (0:Int)=0∧(dM d).2.2=0∧pcs d (dM d).2.1=(out++ (pcs d a).1,(pcs d a).2):=by
       rcases hrel with h|h
       ·exact absurd rfl h.1
       ·exact h
      rw[abC_ hlt hr0,hpE] at hpc
      have hpc':pcs d (dM d).2.1=((out++ [p])++ (pcs d a2).1,(pcs d a2).2):=by rw[hpc];simp
      by_cases hlen:4099< (out++ [p]).length
      ·have d5:decide ((4099:Int)< ((out++ [p]).length:Int))=true:=decide_eq_true (by omega)
       refine ko (And.intro @zW_ (And.intro @e00 (And.intro @hlen4 (@d5)))) ?_
       first|with_reducible refine ks [] (And.intro @zW_ (And.intro @e00 (And.intro @hlen4 (@d5)))) ?_|refine kp (And.intro @zW_ (And.intro @e00 (And.intro @hlen4 (@d5)))) ?_
       refine Jump.mk ⟨2,br,a2,0,out,v3,(br, .cells #[vs d,vi a2,vi 0] 212 (0,0))::D4⟩ rfl (by show 0<d.length - a+1;omega) (.inr (.inr ⟨rfl,hNw,vU_ hpc' (.inr ?_)⟩)) rfl rfl
       rw[List.length_append];omega
      ·have d5:decide ((4099:Int)< ((out++ [p]).length:Int))=false:=decide_eq_false (by omega)
       refine ko (And.intro @zW_ (And.intro @e00 (And.intro @hlen4 (@d5)))) ?_
       first|with_reducible refine ks [] (And.intro @zW_ (And.intro @e00 (And.intro @hlen4 (@d5)))) ?_|refine kp (And.intro @zW_ (And.intro @e00 (And.intro @hlen4 (@d5)))) ?_
       refine Jump.mk ⟨1,br,a2,0,out++ [p],v3,D4⟩ rfl (by show d.length - a2+1<d.length - a+1;omega) (.inl ⟨rfl,hwr,hN4,hbD4,hG4,hle2.2,hB4,by show(out++ [p]).length≤4099;omega, .inr ⟨rfl,hm0,hpc'⟩⟩) rfl rfl
     ·have e00: (e2 !=0)=true:=by rw[bne_iff_ne];exact he2
      have hno:x5_ d=none:=by
       rcases hrel with h| ⟨rfl,hm0,hpc⟩
       ·exact h.2
       ·have hlt:a<d.length:=by
         rcases Nat.lt_or_ge a d.length with h|h
         ·exact h
         ·exact absurd ⟨rfl,by omega⟩ hA
        rw[ak8_] at hpE
        refine vU_ hpc (.inl ?_)
        rw[XG_ hlt (by rw[hpE];exact he2),hpE];exact he2
      refine ko (And.intro @zW_ @e00) ?_
      first|with_reducible refine ks [] (And.intro @zW_ @e00) ?_|refine kp (And.intro @zW_ @e00) ?_
      exact Jump.mk ⟨2,br,a2,0,out,v3,(br, .cells #[vs d,vi a2,vi e2] 212 (0,0))::D4⟩ rfl (by show 0<d.length - a+1;omega) (.inr (.inr ⟨rfl,hNw,hno⟩)) rfl rfl
  ·obtain⟨lab,br,a,e,out,v,D⟩:=g
   obtain⟨hlab,hg⟩:=hg
   simp only at hlab
   subst hlab
   simp only[EL,ES,EH] at hg ⊢
   obtain⟨hwr,hN,hbD,hGr,hB,hol,hm0,hpc⟩:=hg
   simp only[drO]
   simp only[kF_,Jn_,Bool.or_false,Bool.false_or,Bool.or_true,Bool.true_or,Nat.reduceBEq,beq_self_eq_true, ↓reduceIte,Bool.false_eq_true]
   refine kv ?_
   try with_reducible refine qv_ ?_
   first|with_reducible refine ks [] @zW_ ?_|refine kp @zW_ ?_
   have hNw:New w.heap.size ((br,Obj.cells #[vs d,vi a,vi e] 212 (0,0))::D):=⟨hwr,hN⟩
   have hdl:x5_ d=if vH_ (dB d).1 out=((dM d).1,0) then some ((dB d).1.toNat,out) else none:=by
    rw[wQ_,if_neg (by rw[hm0];simp),hpc,if_neg (by simp)]
   refine Ow.callFV rfl Tryz.call226 (fun w' hw'=>Wd_ (dB d).1 v out w' (GrI.slV (Gr.i (X:=D) hGr fun q hq=>List.mem_cons_of_mem _ hq) hw' rfl rfl xb_) hB (by omega)) ?_
   by_cases hc:vH_ (dB d).1 out=((dM d).1,0)
   ·rw[if_pos hc] at hdl
    have hb0:=z9_ (s:=d) (a:=0) (e:=0) (most:=4099) (by omega)
    change 0≤ (dB d).1∧(dB d).1≤4099 at hb0
    have e1: ((dM d).1==(dM d).1)=true:=by simp
    have e00: ((0:Int)==0)=true:=rfl
    rw[hc]
    refine ko @zW_ ?_
    first|with_reducible refine ks [] (And.intro @zW_ (And.intro @e00 (@e1))) ?_|refine kp (And.intro @zW_ (And.intro @e00 (@e1))) ?_
    refine⟨_,(ke @zW_), ?_⟩
    refine⟨Ext.of_new hNw, ?_⟩
    unfold VI_
    rw[hdl]
    refine⟨v, ?_,hB,hol,by show(dB d).1.toNat≤4099;omega,Gr.i (X:=D) hGr fun q hq=>List.mem_cons_of_mem _ hq⟩
    rw[show((((dB d).1.toNat,out).1:Nat):Int)=(dB d).1 by show(((dB d).1.toNat:Nat):Int)=_;omega]
    rfl
   ·rw[if_neg hc] at hdl
    have hfin:VI_ d (.tuple #[vi 0, .slice none 0 0,vi 2]) ((br,Obj.cells #[vs d,vi a,vi e] 212 (0,0))::D):=by unfold VI_;rw[hdl]
    by_cases he: (vH_ (dB d).1 out).2=0
    ·have e00: ((vH_ (dB d).1 out).2==0)=true:=by rw[beq_iff_eq];exact he
     have e1: ((vH_ (dB d).1 out).1==(dM d).1)=false:=by
      rw[beq_eq_false_iff_ne]
      intro h
      exact hc (by rw[←h,←he])
     refine ko @zW_ ?_
     first|with_reducible refine ks [] (And.intro @zW_ (And.intro @e00 (@e1))) ?_|refine kp (And.intro @zW_ (And.intro @e00 (@e1))) ?_
     refine⟨_,(ke @zW_), ?_⟩
     exact⟨Ext.of_new hNw,hfin⟩
    ·have e00: ((vH_ (dB d).1 out).2==0)=false:=by rw[beq_eq_false_iff_ne];exact he
     refine ko @zW_ ?_
     first|with_reducible refine ks [] (And.intro @zW_ @e00) ?_|refine kp (And.intro @zW_ @e00) ?_
     refine⟨_,(ke @zW_), ?_⟩
     exact⟨Ext.of_new hNw,hfin⟩
  ·obtain⟨lab,br,a,e,out,v,D⟩:=g
   obtain⟨hlab,hg⟩:=hg
   simp only at hlab
   subst hlab
   simp only[EL,ES,EH] at hg ⊢
   obtain⟨hN,hno⟩:=hg
   simp only[kF_,Jn_,Bool.or_false,Bool.false_or,Bool.or_true,Bool.true_or,Nat.reduceBEq,beq_self_eq_true, ↓reduceIte,Bool.false_eq_true]
   refine kv ?_
   try with_reducible refine qv_ ?_
   first|with_reducible refine ks [] @zW_ ?_|refine kp @zW_ ?_
   refine⟨_,(ke @zW_), ?_⟩
   refine⟨Ext.of_new hN, ?_⟩
   unfold VI_
   rw[hno];rfl
 ·intro key
  repeat ((try with_reducible refine Cw.go [999999] ?_);(simp(disch:=(first|assumption|omega| (simp only[xg_,xe_,UInt64.reduceToNat];try omega))) only[↓Sx.S0,Sx.S1,Tryz.fx,zW_,Nat.reduceAdd,Nat.reducePow,Int.reducePow,Nat.reduceBEq, ↓reduceIte,UInt8.reduceToNat,UInt16.reduceToNat,UInt32.reduceToNat,UInt64.reduceToNat,Int.reduceToNat]))
  refine Ow.callF rfl rfl Tryz.call71 (S:=fun B v D=> ∃b',B≤b'∧v=vp b' 0∧D= [(b', .cells #[vs d,vi 0,vi 0] 212 (0,0))]) (fun w' hw'=>wL_ d w') ?_
  rintro B v D hab hB ⟨br,hbr,rfl,rfl⟩
  refine⟨_,Mrg.fresh (by intro q hq;simp only[keys,List.map_cons,List.map_nil,List.mem_singleton] at hq;omega), ?_⟩
  simp only[List.cons_append,List.nil_append]
  have hwr:w.heap.size≤br:=by omega
  refine ko @zW_ ?_
  repeat ((try with_reducible refine Cw.go [999999] ?_);(simp(disch:=(first|assumption|omega| (simp only[xg_,xe_,UInt64.reduceToNat];try omega))) only[↓Sx.S0,Sx.S1,Tryz.fx,zW_,Nat.reduceAdd,Nat.reducePow,Int.reducePow,Nat.reduceBEq, ↓reduceIte,UInt8.reduceToNat,UInt16.reduceToNat,UInt32.reduceToNat,UInt64.reduceToNat,Int.reduceToNat]))
  have hle1:=zO_ (s:=d) (a:=0) (e:=0) (most:=4099) (Nat.zero_le _)
  refine Ow.callM rfl rfl Tryz.call95 (by simp[keys]) (fun w' hw'=>q8_ br d 0 0 4099 w' (Nat.zero_le _) hd (hw'.has _ _ List.mem_cons_self)) ?_
  rw[show zr_ d 0 0 4099=dB d from rfl] at hle1 ⊢
  have hle2:=zO_ (s:=d) (a:=(dB d).2.1) (e:=(dB d).2.2) (most:=4099) hle1.2
  refine kn ?_
  refine ko @zW_ ?_
  refine Ow.callM rfl rfl Tryz.call95 (by simp[keys]) (fun w' hw'=>q8_ br d (dB d).2.1 (dB d).2.2 4099 w' hle1.2 hd (hw'.has _ _ List.mem_cons_self)) ?_
  rw[show zr_ d (dB d).2.1 (dB d).2.2 4099=dM d from rfl] at hle2 ⊢
  refine kn ?_
  refine ko @zW_ ?_
  repeat ((try with_reducible refine Cw.go [999999] ?_);(simp(disch:=(first|assumption|omega| (simp only[xg_,xe_,UInt64.reduceToNat];try omega))) only[↓Sx.S0,Sx.S1,Tryz.fx,zW_,Nat.reduceAdd,Nat.reducePow,Int.reducePow,Nat.reduceBEq, ↓reduceIte,UInt8.reduceToNat,UInt16.reduceToNat,UInt32.reduceToNat,UInt64.reduceToNat,Int.reduceToNat]))
  have key0:=fun f'=>key (⟨1,br,(dM d).2.1,(dM d).2.2,[], .slice none 0 0,[]⟩) f'
  simp only[kF_,Jn_,Bool.or_false,Bool.false_or,Bool.or_true,Bool.true_or,Nat.reduceBEq,beq_self_eq_true, ↓reduceIte,Bool.false_eq_true] at key0
  clear key
  refine Cw.label ?_
  refine key0 _ (.inl ⟨rfl,hwr,trivial,by simp[keys],Gr.nl,hle2.2,fun g hg=>by simp at hg,by simp, ?_⟩) ?_
  ·by_cases hm: (dM d).2.2=0
   ·exact .inr ⟨hm,hm,by simp⟩
   ·refine .inl ⟨hm, ?_⟩
    rw[wQ_,if_pos hm]
  ·rfl
end Go.Proofs
end
section
open Go Go.Proofs Go.Sx Go.StP Go.Flo
namespace Go.Proofs
set_option maxRecDepth 10000
set_option maxHeartbeats 400000
set_option linter.unusedSimpArgs false
theorem Q5_ {d:List UInt8} {p:Nat×List PcL} (h:x5_ d=some p): ∃m,vH_ (p.1:Nat) p.2=(m,0):=by
 rw[wQ_] at h
 split at h
 ·cases h
 ·split at h
  ·cases h
  ·split at h
   ·rename_i hc
    cases h
    have hb0:=z9_ (s:=d) (a:=0) (e:=0) (most:=4099) (by omega)
    change 0≤ (dB d).1∧(dB d).1≤4099 at hb0
    refine⟨(dM d).1, ?_⟩
    rw[show(((dB d).1.toNat:Nat):Int)=(dB d).1 by omega]
    exact hc
   ·cases h
set_option linter.defProp false
def wH_:=And.intro (And.intro (And.intro (@zi_) (@zh_)) (And.intro (@xL_) (And.intro (@xK_) (@k8_)))) (And.intro (And.intro (@jH_) (And.intro (@Sx.tup2_0) (@Sx.tup2_1))) (And.intro (@Sx.tup3_0) (And.intro (@Sx.tup3_1) (@Sx.tup3_2))))
theorem agI_ (base d:List UInt8) (w:World) (hd:d.length<9223372036854775808):
  Rets Tryz.prog 177 #[vs base,vs d] w (fun v D=>v= .tuple #[vs (qN_ base d).1,vi (qN_ base d).2]∧D= []):=by
 refine Rets.enterV Tryz.func177 rfl (rs:= [.tmp 4, .tmp 5]) Tryz.results177 Tryz.ntmps177 ?_
 refine kf ?_
 first|with_reducible refine ks [] @wH_ ?_|refine kp @wH_ ?_
 refine Ow.callC rfl rfl Tryz.call205 (fun w' hw'=>ahc_ d w' hd) (fun B1 v1 D1 hA1 hB1 hN1 hS1=> ?_)
 have hN1':=hN1.mono hB1
 unfold VI_ at hS1
 cases hr:x5_ d with
 |none=>
  rw[hr] at hS1
  have hS1':v1= .tuple #[vi 0, .slice none 0 0,vi 2]:=hS1
  subst hS1'
  have hap:qN_ base d=([],2):=by unfold qN_;rw[hr]
  have e0: ((2:Int) !=0)=true:=rfl
  refine ko @wH_ ?_
  first|with_reducible refine ks [] (And.intro @wH_ @e0) ?_|refine kp (And.intro @wH_ @e0) ?_
  refine⟨_,(ke @wH_),hN1', ?_⟩
  rw[hap];rfl
 |some p=>
  rw[hr] at hS1
  obtain⟨x,rfl,hB,hl4,hp4,hg⟩:=hS1
  have e0: ((0:Int) !=0)=false:=rfl
  by_cases hb:p.1=base.length
  ·have e1: (((p.1:Nat):Int) !=((base.length:Nat):Int))=false:=by rw[hb];exact bne_self_eq_false _
   obtain⟨m,hm⟩:=Q5_ hr
   rw[hb] at hm
   have hap:qN_ base d=(txtP base p.2,0):=by unfold qN_;rw[hr];simp only;rw[if_neg (by simp[hb])]
   refine ko @wH_ ?_
   first|with_reducible refine ks [] (And.intro @wH_ (And.intro @e0 (@e1))) ?_|refine kp (And.intro @wH_ (And.intro @e0 (@e1))) ?_
   refine Ow.callFV rfl Tryz.call206 (fun w' hw'=>ahJ_ base x p.2 w' (GrI.slV (hg.mono fun q hq=>by simp[hq]) hw' rfl rfl xb_) hB (by omega)) ?_
   rw[hm,if_pos rfl]
   refine ko @wH_ ?_
   first|with_reducible refine ks [] @wH_ ?_|refine kp @wH_ ?_
   refine⟨_,(ke @wH_),hN1', ?_⟩
   rw[hap];rfl
  ·have e1: (((p.1:Nat):Int) !=((base.length:Nat):Int))=true:=by rw[bne_iff_ne];omega
   have hap:qN_ base d=([],19):=by unfold qN_;rw[hr];simp only;rw[if_pos hb]
   refine ko @wH_ ?_
   first|with_reducible refine ks [] (And.intro @wH_ (And.intro @e0 (@e1))) ?_|refine kp (And.intro @wH_ (And.intro @e0 (@e1))) ?_
   refine⟨_,(ke @wH_),hN1', ?_⟩
   rw[hap];rfl
end Go.Proofs
end
section
open Go Go.Proofs Go.Sx Go.StP Go.Flo
namespace Go.Proofs
set_option maxRecDepth 10000
set_option maxHeartbeats 400000
set_option linter.unusedSimpArgs false
structure PartL where
 d:Bool
 b:Int
 x:List UInt8
def z5_:PartL:=⟨false,0,[]⟩
def zv_ (p:PartL):List Value:= [.bool p.d,vi p.b,vs p.x]
theorem jv_ (p:PartL): (zv_ p).length=3:=rfl
theorem wG_ (p:PartL): (zv_ p).all Value.oneCell'=true:=rfl
def qG_ (l:List PartL):Nat→Nat→Except Int (List Nat)
 |0,_=> .error 11
 |k+1,at_=>
  if(l.getD at_ z5_).d=true then
   (if(l.getD at_ z5_).b<0∨(at_:Int)≤ (l.getD at_ z5_).b then .error 2
   else if k=0 then .error 11
   else(qG_ l k (l.getD at_ z5_).b.toNat).map (at_:: ·))
  else if(l.getD at_ z5_).b≠0 then .error 2 else .ok [at_]
def q0_ (l:List PartL) (at_:Int):Except Int (List Nat):=
 if 200<l.length∨at_<0∨(l.length:Int)≤at_ then .error 1 else qG_ l 5 at_.toNat
theorem Xn_ {l:List PartL}: ∀ (k a:Nat) (p:List Nat),qG_ l k a= .ok p→qG_ l (k+1) a= .ok p
 |0,_,_,h=>by cases h
 |k+1,a,p,h=>by
  unfold qG_ at h ⊢
  split at h
  ·rename_i hd
   rw[if_pos hd]
   split at h
   ·cases h
   ·rename_i hb
    rw[if_neg hb,if_neg (by omega)]
    split at h
    ·cases h
    ·cases hp:qG_ l k (l.getD a z5_).b.toNat with
     |error e=>rw[hp] at h;cases h
     |ok q=>
      rw[hp] at h
      rw[Xn_ k _ q hp]
      exact h
  ·rename_i hd
   rw[if_neg hd]
   exact h
theorem xx_ {l:List PartL} {a:Nat} (ha:a<l.length) {p:List Nat} (h:q0_ l a= .ok p):
  (p= [a]∧(l.getD a z5_).d=false∧(l.getD a z5_).b=0)∨ ∃b q,p=a::q∧(l.getD a z5_).d=true∧(l.getD a z5_).b=(b:Nat)∧b<a∧q0_ l b= .ok q:=by
 unfold q0_ at h
 split at h
 ·cases h
 ·rename_i hc
  rw[Int.toNat_natCast] at h
  unfold qG_ at h
  split at h
  ·rename_i hd
   split at h
   ·cases h
   ·rename_i hb
    rw[if_neg (by omega)] at h
    cases hp:qG_ l 4 (l.getD a z5_).b.toNat with
    |error e=>rw[hp] at h;cases h
    |ok q=>
     rw[hp] at h
     right
     refine⟨(l.getD a z5_).b.toNat,q, ?_,hd,by omega,by omega, ?_⟩
     ·cases h;rfl
     ·unfold q0_
      rw[if_neg (by omega),Int.toNat_natCast]
      exact Xn_ 4 _ _ hp
  ·rename_i hd
   split at h
   ·cases h
   ·rename_i hb
    left
    cases h
    exact⟨rfl,by simpa using hd,by simpa using hb⟩
def q2_ (p:PartL) (base:List UInt8):List UInt8×Int:=if p.d=true then qN_ base p.x else if 4099<p.x.length then([],19) else(p.x,0)
def xZ_ (l:List PartL):List Nat→Except Int (List UInt8)
 | []=> .ok []
 |a::p=>(xZ_ l p).bind fun s=>if(q2_ (l.getD a z5_) s).2=0 then .ok (q2_ (l.getD a z5_) s).1 else .error (q2_ (l.getD a z5_) s).2
def partV (l:List PartL) (at_:Int):Except Int (List UInt8):=(q0_ l at_).bind (xZ_ l)
def kx_ (l:List PartL):Nat→Except Int (List (List UInt8))
 |0=> .ok []
 |k+1=>(kx_ l k).bind fun ts=>(partV l (k:Nat)).map fun s=>ts++ [s]
def ZC_ (l:List PartL):Except Int (List (List UInt8)):=if 200<l.length then .error 1 else kx_ l l.length
theorem wp_ {l:List PartL}: ∀ (k:Nat) (ts:List (List UInt8)),kx_ l k= .ok ts→ts.length=k
 |0,ts,h=>by cases h;rfl
 |k+1,ts,h=>by
  unfold kx_ at h
  cases hg:kx_ l k with
  |error e=>rw[hg] at h;cases h
  |ok us=>
   rw[hg] at h
   have:=wp_ k us hg
   change(partV l (k:Nat)).map (fun s=>us++ [s])= .ok ts at h
   cases hp:partV l (k:Nat) with
   |error e=>rw[hp] at h;cases h
   |ok s=>rw[hp] at h;cases h;simp[this]
theorem vQ_ {l:List PartL}: ∀ (k:Nat) (ts:List (List UInt8)),kx_ l k= .ok ts→ ∀j,j<k→partV l (j:Nat)= .ok (ts.getD j [])
 |0,_,_,j,hj=>by omega
 |k+1,ts,h,j,hj=>by
  unfold kx_ at h
  cases hg:kx_ l k with
  |error e=>rw[hg] at h;cases h
  |ok us=>
   rw[hg] at h
   have hl:=wp_ k us hg
   change(partV l (k:Nat)).map (fun s=>us++ [s])= .ok ts at h
   cases hp:partV l (k:Nat) with
   |error e=>rw[hp] at h;cases h
   |ok s=>
    rw[hp] at h
    cases h
    by_cases hjk:j<k
    ·rw[vQ_ k us hg j hjk,jL_ (by omega)]
    ·obtain rfl:j=k:=by omega
     rw[hp,qy_ (by omega),hl,Nat.sub_self]
     rfl
theorem ado_ {l:List PartL} {k:Nat} {ts:List (List UInt8)} (hk:k<l.length) (h:kx_ l k= .ok ts) {p:List Nat} (hp:q0_ l (k:Nat)= .ok p):
  partV l (k:Nat)=(if(q2_ (l.getD k z5_) (if 1<p.length then ts.getD (p.getD 1 0) [] else [])).2=0 then .ok (q2_ (l.getD k z5_) (if 1<p.length then ts.getD (p.getD 1 0) [] else [])).1 else .error (q2_ (l.getD k z5_) (if 1<p.length then ts.getD (p.getD 1 0) [] else [])).2):=by
 unfold partV
 rw[hp]
 rcases xx_ hk hp with⟨rfl,hd,hb⟩ | ⟨b,q,rfl,hd,hb,hlt,hq⟩
 ·rfl
 ·have h1:=vQ_ k ts h b hlt
  unfold partV at h1
  rw[hq] at h1
  have hq0: ∃r,q=b::r:=by
   rcases xx_ (by omega) hq with⟨rfl,-⟩ | ⟨b2,q2,rfl,-⟩
   ·exact⟨[],rfl⟩
   ·exact⟨q2,rfl⟩
  obtain⟨r,rfl⟩:=hq0
  change xZ_ l (b::r)=_ at h1
  show xZ_ l (k::b::r)=_
  rw[xZ_,h1]
  rw[if_pos (show 1< (k::b::r).length by simp)]
  rfl
end Go.Proofs
end
section
open Go Go.Proofs Go.Sx Go.StP Go.Flo
namespace Go.Proofs
set_option maxRecDepth 10000
set_option maxHeartbeats 400000
set_option linter.unusedSimpArgs false
def Jh_ (n:Nat):List Value:= [vi n]
theorem kY_ (n:Nat): (Jh_ n).length=1:=rfl
abbrev k3_ (w:World) (v:Value) (l:List PartL):Prop:=SlV 3 zv_ z5_ w v l
theorem jJ_ (p:PartL) (E:TypeId) (n:Nat):zs_ (some (false,n)) (some (.cells (zv_ p).toArray E (0,0))) 0=some (.bool p.d):=(rfl)
theorem jF_ (p:PartL) (E:TypeId) (n:Nat):zs_ (some (false,n)) (some (.cells (zv_ p).toArray E (0,0))) 1=some (vi p.b):=(rfl)
theorem jB_ (p:PartL) (E:TypeId) (n:Nat):zs_ (some (false,n)) (some (.cells (zv_ p).toArray E (0,0))) 2=some (vs p.x):=(rfl)
theorem qf_ (p:PartL):Value.cells (.agg (zv_ p).toArray)=(zv_ p).toArray:=zc_ _
theorem vq_:zE_ Tryz.prog 114=some (.agg (zv_ z5_).toArray):=id (by kernel_rfl)
theorem xz_ (p q:PartL) (E:TypeId):zl_ (some (true,3)) (some (.cells (zv_ q).toArray E (0,0))) 0 (.agg (zv_ p).toArray)=some (.cells (zv_ p).toArray E (0,0)):=
 kK_ (zv_ p) (n:=3) true (zv_ q).toArray E rfl (wG_ p) rfl
structure PaG where
 lab:Nat
 at_:Nat
 out:List Nat
 v:Value
 b7:Nat
 q:PartL
 e:Int
 D:ze_
def PaJ (l:List PartL) (a0:Int) (n:Nat) (g:PaG):Prop:=
 (g.lab=1∧n≤g.b7∧New n g.D∧g.b7∉keys g.D∧Gr g.D 3 1 g.v g.out.length (g.out.map Jh_).flatten∧g.at_<l.length∧l.length≤200∧g.out.length≤4∧
  q0_ l a0=(qG_ l (5 - g.out.length) g.at_).map (g.out++ ·))∨
 (g.lab=0∧New n g.D∧q0_ l a0= .error g.e)
def PaH (g:PaG):ze_:=match g.lab with
 |1=>(g.b7, .cells (zv_ g.q).toArray 114 (0,0))::g.D
 |_=>g.D
def PaS (g:PaG):List (Nat×Value):=match g.lab with
 |1=> [(1,vi g.at_),(6,g.v),(7,vp g.b7 0),(8,vi 1)]
 |_=> [(8,vi g.e)]
def PaL (g:PaG):Nat:=match g.lab with
 |1=>1
 |_=>0
def JM_ (l:List PartL) (a0:Int) (v:Value) (D:ze_):Prop:=match q0_ l a0 with
 | .ok p=> ∃x,v= .tuple #[x,vi 0]∧p.length≤5∧GrI D 3 1 x p.length (p.map Jh_).flatten
 | .error e=>v= .tuple #[.slice none 0 0,vi e]
set_option linter.defProp false
def jS_:=And.intro (And.intro (And.intro (@zi_) (@zh_)) (And.intro (@jJ_) (@jF_))) (And.intro (And.intro (@jB_) (@qf_)) (And.intro (@Sx.tup2_0) (@Sx.tup2_1)))
theorem aj6_ (v0:Value) (l:List PartL) (a0:Int) (w:World) (hv:k3_ w v0 l) (hl:l.length<1000000):
  Rets Tryz.prog 153 #[v0,vi a0] w (XS w [] (JM_ l a0)):=by
 obtain⟨bb,off,arr,E,fz,hr⟩:=hv.row
 have ln:=hv.len
 refine Rets.enterX Tryz.func153 rfl (rs:= [.tmp 4, .tmp 5]) Tryz.results153 Tryz.ntmps153 (fun p hp=>by cases hp) (by simp[keys]) ?_
 refine kf ?_
 first|with_reducible refine ks [] @jS_ ?_|refine kp @jS_ ?_
 refine Cw.scopeL (G:=PaG) (fun g=>PaL g) [6,7,8,9,10,11,12,13,14,15,16,17,18,19,20,21,22,23,24,25,26,27,28,29,31,32,33,34,35,36,37,38,39,40,41,42,43,30,44,45,46,47,48,49,50,51,53,54,55,52,56,4,5,58,59,60,57,61,62,1,63] (fun g=>PaS g) (fun g=>PaH g) (fun g=>PaJ l a0 w.heap.size g) (fun g=>(if g.lab=1 then 6 - g.out.length else 0)) ?_ ?_ ?_
 ·intro g
  unfold PaL
  split<;>rfl
 ·intro g j hg
  rcases hg with hg|hg
  ·obtain⟨lab,a,out,v,b7,q,e,D⟩:=g
   obtain⟨hlab,hg⟩:=hg
   simp only at hlab
   subst hlab
   simp only[PaL,PaS,PaH] at hg ⊢
   obtain⟨hw7,hN,hbD,hGr,hal,h200,hol,hpv⟩:=hg
   have hb0:0<l.length:=by omega
   have hbl:=hr.lt hb0
   have i2:=hr.idx true a hal
   have ld:=hr.load jv_ (by omega) hal
   simp only[kF_,Jn_,Bool.or_false,Bool.false_or,Bool.or_true,Bool.true_or,Nat.reduceBEq,beq_self_eq_true, ↓reduceIte,Bool.false_eq_true]
   refine kv ?_
   try with_reducible refine qv_ ?_
   first|with_reducible refine ks [] @jS_ ?_|refine kp @jS_ ?_
   refine Ow.buildSlice (e:=3) #[vi a] rfl rfl (by kernel_rfl) fun b9 hb9 hw9=> ?_
   have h79:b7<b9:=zf_ hb9 (by simp[keys])
   refine Ow.permL (M:=D++ [(b7, .cells (zv_ q).toArray 114 (0,0)),(b9, .cells #[vi a] 3 (0,0))]) (by classical exact List.perm_iff_count.2 fun a=>by simp only[List.count_append,List.count_cons,List.count_nil]<;>omega) ?_
   refine ko @jS_ ?_
   refine Ow.appendXG (e:=3) (k:=1) (new:=Jh_ a) (X:=D) v rfl rfl rfl rfl Tryz.underlying28 (id (by kernel_rfl):z2_ Tryz.prog 3=some (false,1)) (by kernel_rfl) (id (by kernel_rfl):zE_ Tryz.prog 3=some (vi 0)) rfl Tryz.underlying28 (by intro k h;cases h) hGr (fun w' hw'=>AppX.one1 (hw'.has b9 (.cells #[vi a] 3 (0,0)) (by simp)) (kY_ a) rfl) (by omega) (fun B3 v3 D3 hA3 hB3 hG3 hk13 hk23 hlk3=> ?_)
   have hN3:New w.heap.size D3:=New.of_le fun c hc=>by
    rcases hk23 c hc with h|h
    ·exact hN.le c h
    ·omega
   have hbD3:b7∉keys D3:=fun hm=>by
    rcases hk23 b7 hm with h|h
    ·exact hbD h
    ·exact Nat.lt_irrefl _ (Nat.lt_of_lt_of_le (zf_ hA3 (by rw[zk_];exact List.mem_append_right _ (by simp[keys]))) h)
   have hG4:Gr (D3++ [(b9, .cells #[vi a] 3 (0,0))]) 3 1 v3 (out++ [a]).length ((out++ [a]).map Jh_).flatten:=by
    have:=hG3.app (M:= [(b9,Obj.cells #[vi a] 3 (0,0))])
    simpa using this
   have hN4:New w.heap.size (D3++ [(b9,Obj.cells #[vi a] 3 (0,0))]):=hN3.app ⟨hw9,trivial⟩
   have hbD4:b7∉keys (D3++ [(b9,Obj.cells #[vi a] 3 (0,0))]):=fun hm=>by
    rw[zk_] at hm
    rcases List.mem_append.1 hm with h|h
    ·exact hbD3 h
    ·simp[keys] at h;omega
   refine Ow.permL (M:=(b7, .cells (zv_ q).toArray 114 (0,0)):: (D3++ [(b9, .cells #[vi a] 3 (0,0))])) (by classical exact List.perm_iff_count.2 fun a=>by simp only[List.count_append,List.count_cons,List.count_nil]<;>omega) ?_
   generalize (D3++ [(b9,Obj.cells #[vi a] 3 (0,0))])=D4 at*
   have rd:zA_ w ((b7,Obj.cells (zv_ q).toArray 114 (0,0))::D4) bb=some (.cells arr E fz):=by
    rw[jh_ (by simp only[keys,List.map_cons,List.mem_cons,not_or];exact⟨by omega,hN4.not hbl⟩)];exact hr.has hb0
   have hk5:qG_ l (5 - out.length) a=qG_ l (5 - out.length - 1+1) a:=by congr 1;omega
   rw[hk5,qG_] at hpv
   generalize hp:l.getD a z5_=p at*
   have hst:=xz_ p q 114
   have hlen4: ∀m,X4_ (.sl m) v3=some (vi (out++ [a]).length):=fun m=>hG4.len m
   have hN7:New w.heap.size ((b7,Obj.cells (zv_ p).toArray 114 (0,0))::D4):=⟨hw7,hN4⟩
   cases hd:p.d
   ·rw[hd,if_neg (by simp)] at hpv
    by_cases hb:p.b=0
    ·have e1: (p.b !=0)=false:=by rw[hb];rfl
     have nf: (!false)=true:=rfl
     rw[if_neg (by simp[hb])] at hpv
     refine ko @jS_ ?_
     first|with_reducible refine ks [] (And.intro @jS_ (And.intro @i2 (And.intro @rd (And.intro @ld (And.intro @hst (And.intro @hd (And.intro @e1 (@nf)))))))) ?_|refine kp (And.intro @jS_ (And.intro @i2 (And.intro @rd (And.intro @ld (And.intro @hst (And.intro @hd (And.intro @e1 (@nf)))))))) ?_
     refine⟨_,(ke @jS_), ?_⟩
     refine⟨Ext.of_new hN7, ?_⟩
     unfold JM_
     rw[hpv]
     refine⟨v3,rfl,by show(out++ [a]).length≤5;rw[List.length_append];simp;omega,Gr.i (X:=D4) hG4 fun c hc=>List.mem_cons_of_mem _ hc⟩
    ·have e1: (p.b !=0)=true:=by rw[bne_iff_ne];exact hb
     have nf: (!false)=true:=rfl
     rw[if_pos hb] at hpv
     refine ko @jS_ ?_
     first|with_reducible refine ks [] (And.intro @jS_ (And.intro @i2 (And.intro @rd (And.intro @ld (And.intro @hst (And.intro @hd (And.intro @e1 (@nf)))))))) ?_|refine kp (And.intro @jS_ (And.intro @i2 (And.intro @rd (And.intro @ld (And.intro @hst (And.intro @hd (And.intro @e1 (@nf)))))))) ?_
     exact Jump.mk ⟨0,0,[],v3,0,p,2,(b7, .cells (zv_ p).toArray 114 (0,0))::D4⟩ rfl (by show 0<6 - out.length;omega) (.inr ⟨rfl,hN7,hpv⟩) rfl rfl
   ·rw[hd,if_pos rfl] at hpv
    have nt: (!true)=false:=rfl
    by_cases hb:p.b<0
    ·have e1:decide (p.b<0)=true:=decide_eq_true hb
     rw[if_pos (.inl hb)] at hpv
     refine ko @jS_ ?_
     first|with_reducible refine ks [] (And.intro @jS_ (And.intro @i2 (And.intro @rd (And.intro @ld (And.intro @hst (And.intro @hd (And.intro @e1 (@nt)))))))) ?_|refine kp (And.intro @jS_ (And.intro @i2 (And.intro @rd (And.intro @ld (And.intro @hst (And.intro @hd (And.intro @e1 (@nt)))))))) ?_
     exact Jump.mk ⟨0,0,[],v3,0,p,2,(b7, .cells (zv_ p).toArray 114 (0,0))::D4⟩ rfl (by show 0<6 - out.length;omega) (.inr ⟨rfl,hN7,hpv⟩) rfl rfl
    ·have e1:decide (p.b<0)=false:=decide_eq_false hb
     by_cases hb2: (a:Int)≤p.b
     ·have e2:decide ((a:Int)≤p.b)=true:=decide_eq_true hb2
      rw[if_pos (.inr hb2)] at hpv
      refine ko @jS_ ?_
      first|with_reducible refine ks [] (And.intro @jS_ (And.intro @i2 (And.intro @rd (And.intro @ld (And.intro @hst (And.intro @hd (And.intro @e1 (And.intro @e2 (@nt))))))))) ?_|refine kp (And.intro @jS_ (And.intro @i2 (And.intro @rd (And.intro @ld (And.intro @hst (And.intro @hd (And.intro @e1 (And.intro @e2 (@nt))))))))) ?_
      exact Jump.mk ⟨0,0,[],v3,0,p,2,(b7, .cells (zv_ p).toArray 114 (0,0))::D4⟩ rfl (by show 0<6 - out.length;omega) (.inr ⟨rfl,hN7,hpv⟩) rfl rfl
     ·have e2:decide ((a:Int)≤p.b)=false:=decide_eq_false hb2
      rw[if_neg (by omega)] at hpv
      by_cases ho:out.length=4
      ·have e3:decide ((4:Int)< ((out++ [a]).length:Int))=true:=by rw[List.length_append];exact decide_eq_true (by simp;omega)
       rw[if_pos (by omega)] at hpv
       refine ko @jS_ ?_
       first|with_reducible refine ks [] (And.intro @jS_ (And.intro @i2 (And.intro @rd (And.intro @ld (And.intro @hst (And.intro @hd (And.intro @e1 (And.intro @e2 (And.intro @nt (And.intro @hlen4 (@e3))))))))))) ?_|refine kp (And.intro @jS_ (And.intro @i2 (And.intro @rd (And.intro @ld (And.intro @hst (And.intro @hd (And.intro @e1 (And.intro @e2 (And.intro @nt (And.intro @hlen4 (@e3))))))))))) ?_
       exact Jump.mk ⟨0,0,[],v3,0,p,11,(b7, .cells (zv_ p).toArray 114 (0,0))::D4⟩ rfl (by show 0<6 - out.length;omega) (.inr ⟨rfl,hN7,hpv⟩) rfl rfl
      ·have e3:decide ((4:Int)< ((out++ [a]).length:Int))=false:=by rw[List.length_append];exact decide_eq_false (by simp;omega)
       rw[if_neg (by omega)] at hpv
       obtain⟨Bn,hBn⟩: ∃Bn:Nat,p.b=(Bn:Int):=⟨p.b.toNat,by omega⟩
       have hol2: (out++ [a]).length=out.length+1:=by simp
       refine ko @jS_ ?_
       first|with_reducible refine ks [] (And.intro @jS_ (And.intro @i2 (And.intro @rd (And.intro @ld (And.intro @hst (And.intro @hd (And.intro @e1 (And.intro @e2 (And.intro @nt (And.intro @hlen4 (@e3))))))))))) ?_|refine kp (And.intro @jS_ (And.intro @i2 (And.intro @rd (And.intro @ld (And.intro @hst (And.intro @hd (And.intro @e1 (And.intro @e2 (And.intro @nt (And.intro @hlen4 (@e3))))))))))) ?_
       rw[hBn]
       refine Jump.mk ⟨1,Bn,out++ [a],v3,b7,p,1,D4⟩ rfl (by show 6 - (out++ [a]).length<6 - out.length;omega) (.inl ⟨rfl,hw7,hN4,hbD4,hG4,by show Bn<l.length;omega,h200,by show(out++ [a]).length≤4;omega, ?_⟩) rfl rfl
       show q0_ l a0=(qG_ l (5 - (out++ [a]).length) Bn).map ((out++ [a])++ ·)
       rw[hpv,hBn,Int.toNat_natCast,show 5 - (out++ [a]).length=5 - out.length - 1 by omega]
       cases qG_ l (5 - out.length - 1) Bn with
       |error x=>rfl
       |ok x=>show Except.ok _=Except.ok _;simp
  ·obtain⟨lab,a,out,v,b7,q,e,D⟩:=g
   obtain⟨hlab,hg⟩:=hg
   simp only at hlab
   subst hlab
   simp only[PaL,PaS,PaH] at hg ⊢
   obtain⟨hN,hno⟩:=hg
   simp only[kF_,Jn_,Bool.or_false,Bool.false_or,Bool.or_true,Bool.true_or,Nat.reduceBEq,beq_self_eq_true, ↓reduceIte,Bool.false_eq_true]
   refine kv ?_
   try with_reducible refine qv_ ?_
   first|with_reducible refine ks [] @jS_ ?_|refine kp @jS_ ?_
   refine⟨_,(ke @jS_), ?_⟩
   refine⟨Ext.of_new hN, ?_⟩
   unfold JM_
   rw[hno];rfl
 ·intro key
  repeat ((try with_reducible refine Cw.go [999999] ?_);(simp(disch:=(first|assumption|omega| (simp only[xg_,xe_,UInt64.reduceToNat];try omega))) only[↓Sx.S0,Sx.S1,Tryz.fx,jS_,Nat.reduceAdd,Nat.reducePow,Int.reducePow,Nat.reduceBEq, ↓reduceIte,UInt8.reduceToNat,UInt16.reduceToNat,UInt32.reduceToNat,UInt64.reduceToNat,Int.reduceToNat]))
  refine Ow.alloc rfl rfl vq_ fun b7 hb7 hw7=> ?_
  simp only[zc_,List.nil_append,List.cons_append]
  refine ko @jS_ ?_
  by_cases h1:200<l.length
  ·have d1:decide ((200:Int)< (l.length:Int))=true:=decide_eq_true (by omega)
   have hpv:q0_ l a0= .error 1:=by unfold q0_;rw[if_pos (.inl h1)]
   repeat ((try with_reducible refine Cw.go [999999] ?_);(simp(disch:=(first|assumption|omega| (simp only[xg_,xe_,UInt64.reduceToNat];try omega))) only[↓Sx.S0,Sx.S1,Tryz.fx,jS_,Nat.reduceAdd,Nat.reducePow,Int.reducePow,Nat.reduceBEq, ↓reduceIte,UInt8.reduceToNat,UInt16.reduceToNat,UInt32.reduceToNat,UInt64.reduceToNat,Int.reduceToNat,ln,d1]))
   exact Jump.mk ⟨0,0,[], .slice none 0 0,0,z5_,1,[(b7, .cells (zv_ z5_).toArray 114 (0,0))]⟩ rfl trivial (.inr ⟨rfl,⟨hw7,trivial⟩,hpv⟩) rfl rfl
  ·have d1:decide ((200:Int)< (l.length:Int))=false:=decide_eq_false (by omega)
   by_cases h2:a0<0
   ·have d2:decide (a0<0)=true:=decide_eq_true h2
    have hpv:q0_ l a0= .error 1:=by unfold q0_;rw[if_pos (.inr (.inl h2))]
    repeat ((try with_reducible refine Cw.go [999999] ?_);(simp(disch:=(first|assumption|omega| (simp only[xg_,xe_,UInt64.reduceToNat];try omega))) only[↓Sx.S0,Sx.S1,Tryz.fx,jS_,Nat.reduceAdd,Nat.reducePow,Int.reducePow,Nat.reduceBEq, ↓reduceIte,UInt8.reduceToNat,UInt16.reduceToNat,UInt32.reduceToNat,UInt64.reduceToNat,Int.reduceToNat,ln,d1,d2]))
    exact Jump.mk ⟨0,0,[], .slice none 0 0,0,z5_,1,[(b7, .cells (zv_ z5_).toArray 114 (0,0))]⟩ rfl trivial (.inr ⟨rfl,⟨hw7,trivial⟩,hpv⟩) rfl rfl
   ·have d2:decide (a0<0)=false:=decide_eq_false h2
    by_cases h3: (l.length:Int)≤a0
    ·have d3:decide ((l.length:Int)≤a0)=true:=decide_eq_true h3
     have hpv:q0_ l a0= .error 1:=by unfold q0_;rw[if_pos (.inr (.inr h3))]
     repeat ((try with_reducible refine Cw.go [999999] ?_);(simp(disch:=(first|assumption|omega| (simp only[xg_,xe_,UInt64.reduceToNat];try omega))) only[↓Sx.S0,Sx.S1,Tryz.fx,jS_,Nat.reduceAdd,Nat.reducePow,Int.reducePow,Nat.reduceBEq, ↓reduceIte,UInt8.reduceToNat,UInt16.reduceToNat,UInt32.reduceToNat,UInt64.reduceToNat,Int.reduceToNat,ln,d1,d2,d3]))
     exact Jump.mk ⟨0,0,[], .slice none 0 0,0,z5_,1,[(b7, .cells (zv_ z5_).toArray 114 (0,0))]⟩ rfl trivial (.inr ⟨rfl,⟨hw7,trivial⟩,hpv⟩) rfl rfl
    ·have d3:decide ((l.length:Int)≤a0)=false:=decide_eq_false h3
     obtain⟨A,rfl⟩: ∃A:Nat,a0=(A:Int):=⟨a0.toNat,by omega⟩
     repeat ((try with_reducible refine Cw.go [999999] ?_);(simp(disch:=(first|assumption|omega| (simp only[xg_,xe_,UInt64.reduceToNat];try omega))) only[↓Sx.S0,Sx.S1,Tryz.fx,jS_,Nat.reduceAdd,Nat.reducePow,Int.reducePow,Nat.reduceBEq, ↓reduceIte,UInt8.reduceToNat,UInt16.reduceToNat,UInt32.reduceToNat,UInt64.reduceToNat,Int.reduceToNat,ln,d1,d2,d3]))
     have key0:=fun f'=>key (⟨1,A,[], .slice none 0 0,b7,z5_,1,[]⟩) f'
     simp only[kF_,Jn_,Bool.or_false,Bool.false_or,Bool.or_true,Bool.true_or,Nat.reduceBEq,beq_self_eq_true, ↓reduceIte,Bool.false_eq_true] at key0
     clear key
     refine Cw.label ?_
     refine key0 _ (.inl ⟨rfl,hw7,trivial,by simp[keys],Gr.nl,by show A<l.length;omega,by omega,by simp, ?_⟩) ?_
     ·show q0_ l (A:Int)=(qG_ l 5 A).map ([]++ ·)
      unfold q0_
      rw[if_neg (by omega),Int.toNat_natCast]
      cases qG_ l 5 A with
      |error x=>rfl
      |ok x=>rfl
     ·rfl
end Go.Proofs
end
section
open Go Go.Proofs Go.Sx Go.StP Go.Flo
namespace Go.Proofs
set_option maxRecDepth 10000
set_option maxHeartbeats 400000
set_option linter.unusedSimpArgs false
theorem We_ {l:List PartL}: ∀ (k a:Nat) (e:Int),qG_ l k a= .error e→e≠0
 |0,_,e,h=>by cases h;decide
 |k+1,a,e,h=>by
  unfold qG_ at h
  split at h
  ·split at h
   ·cases h;decide
   ·split at h
    ·cases h;decide
    ·cases hp:qG_ l k (l.getD a z5_).b.toNat with
     |error x=>rw[hp] at h;cases h;exact We_ k _ _ hp
     |ok q=>rw[hp] at h;cases h
  ·split at h
   ·cases h;decide
   ·cases h
theorem KN_ {l:List PartL} {a:Int} {e:Int} (h:q0_ l a= .error e):e≠0:=by
 unfold q0_ at h
 split at h
 ·cases h;decide
 ·exact We_ _ _ _ h
theorem aaQ_ {l:List PartL}: ∀ (k a:Nat) (p:List Nat),a<l.length→qG_ l k a= .ok p→ ∀x,x∈p→x<l.length
 |0,_,_,_,h=>by cases h
 |k+1,a,p,ha,h=>by
  unfold qG_ at h
  split at h
  ·split at h
   ·cases h
   ·rename_i hb
    split at h
    ·cases h
    ·cases hp:qG_ l k (l.getD a z5_).b.toNat with
     |error x=>rw[hp] at h;cases h
     |ok q=>
      rw[hp] at h
      cases h
      intro x hx
      rcases List.mem_cons.1 hx with rfl|hx
      ·exact ha
      ·exact aaQ_ k _ q (by omega) hp x hx
  ·split at h
   ·cases h
   ·cases h
    intro x hx
    rw[List.mem_singleton] at hx
    omega
theorem aml_ {l:List PartL} {a:Int} {p:List Nat} (h:q0_ l a= .ok p): ∀x,x∈p→x<l.length:=by
 unfold q0_ at h
 split at h
 ·cases h
 ·exact aaQ_ _ _ _ (by omega) h
theorem Q4_ {l:List PartL} {e:Int}: ∀ (p:List Nat) (i:Nat),xZ_ l (p.drop i)= .error e→xZ_ l p= .error e
 | [],i,h=>by rw[List.drop_nil] at h;exact h
 |a::p,0,h=>h
 |a::p,i+1,h=>by
  have:=Q4_ p i h
  unfold xZ_
  rw[this];rfl
theorem aoU_ {w0 w:World} {L D:ze_} {E:TypeId} {v:Value} {l:List Nat} (h:GrI D E 1 v l.length (l.map Jh_).flatten) (hD: ∀p,p∈D→p∈L) (hw:Hp w0 L w):l.length=0∨ ∃b c rest,v=vsl b 0 l.length c∧b∈keys D∧zA_ w0 L b=some (rowO Jh_ E rest l):=by
 obtain⟨X,hX,h| ⟨h0,-⟩⟩:=h
 ·rcases h.inv with⟨-,h0,-⟩ | ⟨b,c,rest,rfl,hl,h1,h2,h3,h4⟩
  ·exact .inl h0
  ·exact .inr ⟨b,c,rest,rfl,List.mem_map_of_mem (f:=Prod.fst) (hX _ (zJ_ hl)),z6_ (xA_ hw.nodup (hD _ (hX _ (zJ_ hl))))⟩
 ·exact .inl h0
theorem aeX_ {E:TypeId} {rest:List Value} {l:List Nat} (n i:Nat) (hi:i<l.length):zs_ (some (false,n)) (some (rowO Jh_ E rest l)) i=some (vi (l.getD i 0)):=by
 unfold rowO zs_
 have e: (l.map Jh_).flatten=l.map fun n=>vi (n:Nat):=by
  clear hi
  induction l with
  |nil=>rfl
  |cons a l ih=>rw[List.map_cons,List.flatten_cons,List.map_cons,ih];rfl
 simp only[e]
 rw[List.getElem?_toArray,List.getElem?_append_left (by simpa using hi),List.getElem?_map,List.getElem?_eq_getElem hi,List.getD_eq_getElem?_getD,List.getElem?_eq_getElem hi]
 rfl
def BndL (l:List PartL):Prop:= ∀g,g<l.length→(l.getD g z5_).x.length<9223372036854775808
set_option linter.defProp false
def ZU_:=And.intro (And.intro (And.intro (@zi_) (@zh_)) (And.intro (@jJ_) (@jF_))) (And.intro (And.intro (@jB_) (@qf_)) (And.intro (@Sx.tup2_0) (@Sx.tup2_1)))
theorem aaL_ (p:PartL) (base:List UInt8) (w:World) (hx:p.x.length<9223372036854775808):
  Rets Tryz.prog 154 #[.agg (zv_ p).toArray,vs base] w (fun v D=>v= .tuple #[vs (q2_ p base).1,vi (q2_ p base).2]∧D= []):=by
 refine Rets.enterV Tryz.func154 rfl (rs:= [.tmp 4, .tmp 5]) Tryz.results154 Tryz.ntmps154 ?_
 refine kf ?_
 first|with_reducible refine ks [] @ZU_ ?_|refine kp @ZU_ ?_
 refine Ow.box rfl rfl fun b2 hb2 hw2=> ?_
 simp only[z8_,z3_,z4_,zc_,List.nil_append,List.cons_append]
 refine Ow.go rfl ?_
 simp(disch:=(first|assumption|omega| (simp only[xg_,xe_,UInt64.reduceToNat];try omega))) only[↓Sx.S0,Sx.S1,Tryz.fx,ZU_,Nat.reduceAdd,Nat.reducePow,Int.reducePow,Nat.reduceBEq, ↓reduceIte,UInt8.reduceToNat,UInt16.reduceToNat,UInt32.reduceToNat,UInt64.reduceToNat,Int.reduceToNat]
 cases hd:p.d
 ·by_cases hl:4099<p.x.length
  ·have d1:decide ((4099:Int)< (p.x.length:Int))=true:=decide_eq_true (by omega)
   first|with_reducible refine ks [] (And.intro @ZU_ (And.intro @hd (@d1))) ?_|refine kp (And.intro @ZU_ (And.intro @hd (@d1))) ?_
   refine⟨_,(ke @ZU_),⟨hw2,trivial⟩, ?_⟩
   unfold q2_;rw[if_neg (by simp[hd]),if_pos hl];rfl
  ·have d1:decide ((4099:Int)< (p.x.length:Int))=false:=decide_eq_false (by omega)
   first|with_reducible refine ks [] (And.intro @ZU_ (And.intro @hd (@d1))) ?_|refine kp (And.intro @ZU_ (And.intro @hd (@d1))) ?_
   refine⟨_,(ke @ZU_),⟨hw2,trivial⟩, ?_⟩
   unfold q2_;rw[if_neg (by simp[hd]),if_neg hl];rfl
 ·first|with_reducible refine ks [] (And.intro @ZU_ @hd) ?_|refine kp (And.intro @ZU_ @hd) ?_
  refine Ow.callFV rfl Tryz.call177 (fun w' hw'=>agI_ base p.x w' hx) ?_
  refine ko @ZU_ ?_
  first|with_reducible refine ks [] @ZU_ ?_|refine kp @ZU_ ?_
  refine⟨_,(ke @ZU_),⟨hw2,trivial⟩, ?_⟩
  unfold q2_;rw[if_pos hd];rfl
def W6_ (r:Except Int (List UInt8)):Value:=match r with
 | .ok s=> .tuple #[vs s,vi 0]
 | .error e=> .tuple #[vs [],vi e]
end Go.Proofs
end
section
open Go Go.Proofs Go.Sx Go.StP Go.Flo
namespace Go.Proofs
set_option maxRecDepth 10000
set_option maxHeartbeats 400000
set_option linter.unusedSimpArgs false
def WC_:Nat→List (List UInt8)→List (Int×List UInt8)
 |_,[]=> []
 |i,t::ts=>((i:Int),t)::WC_ (i+1) ts
def tabT (ts:List (List UInt8)):List (Int×List UInt8):=WC_ 0 ts
theorem aaS_ (s:List UInt8): ∀ (ts:List (List UInt8)) (i:Nat),updG (((i+ts.length:Nat)):Int) s (WC_ i ts)=WC_ i (ts++ [s])
 | [],i=>rfl
 |t::ts,i=>by
  show updG _ s (((i:Int),t)::WC_ (i+1) ts)=((i:Int),t)::WC_ (i+1) (ts++ [s])
  unfold updG
  rw[if_neg (by rw[beq_iff_eq];simp only[List.length_cons];omega),←aaS_ s ts (i+1),List.length_cons,show i+1+ts.length=i+ (ts.length+1) by omega]
theorem ae6_ (s:List UInt8) (ts:List (List UInt8)) {k:Nat} (hk:ts.length=k):updG (k:Int) s (tabT ts)=tabT (ts++ [s]):=by
 have:=aaS_ s ts 0
 rw[Nat.zero_add,hk] at this
 exact this
theorem abP_ (z:List UInt8): ∀ (ts:List (List UInt8)) (i b:Nat),b<ts.length→getG ((i+b:Nat):Int) z (WC_ i ts)=ts.getD b []
 | [],_,_,h=>by simp at h
 |t::ts,i,0,_=>by
  unfold WC_ getG
  rw[List.find?_cons]
  simp
 |t::ts,i,b+1,h=>by
  have:=abP_ z ts (i+1) b (by simpa using h)
  rw[show i+1+b=i+ (b+1) by omega] at this
  rw[List.getD_cons_succ,←this]
  have e: (((i+ (b+1):Nat):Int)==(i:Int))=false:=by rw[beq_eq_false_iff_ne];omega
  show getG _ z (((i:Int),t)::WC_ (i+1) ts)=_
  unfold getG
  rw[List.find?_cons]
  simp only[e]
theorem and_ (z:List UInt8) {ts:List (List UInt8)} {b:Nat} (h:b<ts.length):getG (b:Int) z (tabT ts)=ts.getD b []:=by
 have:=abP_ z ts 0 b h
 rwa [Nat.zero_add] at this
theorem af6_ {b d:List UInt8} (h: (qN_ b d).2≠0): (qN_ b d).1= []:=by
 unfold qN_ at h ⊢
 split
 ·rfl
 ·rename_i p hp
  rw[hp] at h
  simp only at h ⊢
  split
  ·rfl
  ·rename_i hb;rw[if_neg hb] at h;exact absurd rfl h
theorem ach_ {p:PartL} {b:List UInt8} (h: (q2_ p b).2≠0): (q2_ p b).1= []:=by
 unfold q2_ at h ⊢
 split
 ·rename_i hd;rw[if_pos hd] at h;exact af6_ h
 ·rename_i hd
  rw[if_neg hd] at h
  split
  ·rfl
  ·rename_i hl;rw[if_neg hl] at h;exact absurd rfl h
theorem akk_ {w:World} {X D:ze_} (h:New w.heap.size D):Ext w X (X++D):=⟨fun c hc=>by
 rw[zk_] at hc
 exact(List.mem_append.1 hc).imp id (h.le c),fun c hc=>by rw[zk_];exact List.mem_append_left _ hc⟩
theorem ao0_ {l:List PartL} {k:Nat} {p:List Nat} (hk:k<l.length) (hp:q0_ l (k:Nat)= .ok p) (h:1<p.length):p.getD 1 0<k:=by
 rcases xx_ hk hp with⟨rfl,-⟩ | ⟨b,q,rfl,-,-,hlt,hq⟩
 ·simp at h
 ·rcases xx_ (by omega) hq with⟨rfl,-⟩ | ⟨b2,q2,rfl,-⟩<;>exact hlt
abbrev MapT (o:Obj) (ts:List (List UInt8)):Prop:=MapG vi vs o (tabT ts)
def clX (b1 bk bm:Nat) (v0:Value) (o:Obj):ze_:= [(b1, .cells #[v0] 22 (0,0)),(bk, .cells #[vm bm] 228 (0,0)),(bm,o)]
def ClS (l:List PartL) (k:Nat) (ts:List (List UInt8)) (b1 bk bm:Nat) (v0:Value) (v:Value) (D:ze_):Prop:=
 v=W6_ (partV l (k:Nat))∧ ∃o D',D=clX b1 bk bm v0 o++D'∧ ∀s,partV l (k:Nat)= .ok s→MapT o (ts++ [s])
theorem ajs_ (v:Value) (E:TypeId) (n:Nat):zs_ (some (false,n)) (some (.cells #[v] E (0,0))) 0=some v:=(rfl)
set_option linter.defProp false
def xv_:=And.intro (And.intro (And.intro (@zi_) (@zh_)) (And.intro (@ajs_) (@jJ_))) (And.intro (And.intro (@jF_) (@jB_)) (And.intro (@qf_) (And.intro (@Sx.tup2_0) (@Sx.tup2_1))))
theorem ah4_ (b1 bk bm:Nat) (o:Obj) (v0:Value) (l:List PartL) (k:Nat) (ts:List (List UInt8)) (w:World) (h1k:b1<bk) (hne1:b1≠bm) (hne2:bk≠bm)
  (hv:k3_ w v0 l) (hb:BndL l) (hl:l.length<1000000) (hk:k<l.length) (hts:kx_ l k= .ok ts) (ho:MapT o ts) (hv1: ∀b,slB v0=some b→b∉keys (clX b1 bk bm v0 o))
  (hX: ∀p,p∈clX b1 bk bm v0 o→w.heap[p.1]? =some p.2) (hnd: (keys (clX b1 bk bm v0 o)).Nodup):
  Rets Tryz.prog 158 #[vi k,vp b1 0,vp bk 0] w (XS w (clX b1 bk bm v0 o) (ClS l k ts b1 bk bm v0)):=by
 obtain⟨bb,off,cc,arr,E,fz,hr,-,hvv⟩:=id hv
 have hbX:bb∉keys (clX b1 bk bm v0 o):=by
  rcases hvv with⟨e1,e2,e3⟩ | ⟨e1,-,-⟩
  ·exfalso;subst_vars;simp at hk
  ·exact hv1 bb (by rw[e1];rfl)
 have htl:=wp_ k ts hts
 have hva: ∀w',Hp w (clX b1 bk bm v0 o) w'→k3_ w' v0 l:=fun w' hw'=>hv.old hw' fun b hb _=>hv1 b hb
 unfold clX at hX hnd hva hbX ⊢
 refine Rets.enterX Tryz.func158 rfl (rs:= [.tmp 4, .tmp 5]) Tryz.results158 Tryz.ntmps158 hX hnd ?_
 refine kf ?_
 first|with_reducible refine ks [] @xv_ ?_|refine kp @xv_ ?_
 refine Ow.callC rfl rfl Tryz.call153 (fun w' hw'=>aj6_ v0 l (k:Int) w' (hva w' hw') hl) (fun B1 v1 D1 hA1 hB1 hN1 hS1=> ?_)
 have hN1':=hN1.mono hB1
 unfold JM_ at hS1
 cases hp:q0_ l (k:Nat) with
 |error e=>
  rw[hp] at hS1
  have hS1':v1= .tuple #[.slice none 0 0,vi e]:=hS1
  subst hS1'
  have e0: (e !=0)=true:=by rw[bne_iff_ne];exact KN_ hp
  refine ko (And.intro @xv_ @e0) ?_
  first|with_reducible refine ks [] @xv_ ?_|refine kp @xv_ ?_
  refine⟨_,(ke @xv_), ?_⟩
  refine⟨akk_ (X:= [_,_,_]) hN1', ?_⟩
  refine⟨by unfold partV;rw[hp];rfl,o,D1,rfl,fun s hs=> ?_⟩
  unfold partV at hs
  rw[hp] at hs
  cases hs
 |ok p=>
  rw[hp] at hS1
  obtain⟨x,rfl,hp5,hg⟩:=hS1
  have hpk:=ado_ hk hts hp
  have hlen: ∀m,X4_ (.sl m) x=some (vi p.length):=fun m=>by
   obtain⟨X,-,h⟩:=hg;exact h.len m
  have hb0:0<l.length:=by omega
  have hbl:=hr.lt hb0
  have i2:=hr.idx true k hk
  have ld:=hr.load jv_ (by omega) hk
  have hpx:=hb k hk
  have rd:zA_ w ((b1,Obj.cells #[v0] 22 (0,0)):: (bk,Obj.cells #[vm bm] 228 (0,0)):: (bm,o)::D1) bb=some (.cells arr E fz):=by
   have hno:bb∉keys ([(b1,Obj.cells #[v0] 22 (0,0)),(bk,Obj.cells #[vm bm] 228 (0,0)),(bm,o)]++D1):=by rw[zk_,List.mem_append,not_or];exact⟨hbX,hN1'.not hbl⟩
   exact(jh_ hno).trans (hr.has hb0)
  generalize l.getD k z5_=pt at*
  have hlk:Sx.look ((b1,Obj.cells #[v0] 22 (0,0)):: (bk,Obj.cells #[vm bm] 228 (0,0)):: (bm,o)::D1) bm=some o:=by rw[qw_ _ _ _ _ hne1,qw_ _ _ _ _ hne2];exact zT_ _ _ _
  have hset: ∀o1,setB ((b1,Obj.cells #[v0] 22 (0,0)):: (bk,Obj.cells #[vm bm] 228 (0,0)):: (bm,o)::D1) bm o1=((b1,Obj.cells #[v0] 22 (0,0)):: (bk,Obj.cells #[vm bm] 228 (0,0)):: (bm,o1)::D1):=fun o1=>by
   rw[jK_ _ _ _ _ _ hne1,jK_ _ _ _ _ _ hne2,j1_]
  have ext_new': ∀ {o1:Obj},New w.heap.size D1→Ext w [(b1,Obj.cells #[v0] 22 (0,0)),(bk,Obj.cells #[vm bm] 228 (0,0)),(bm,o)] ((b1,Obj.cells #[v0] 22 (0,0)):: (bk,Obj.cells #[vm bm] 228 (0,0)):: (bm,o1)::D1):=fun h=>(akk_ (X:= [_,_,_]) h).keys rfl
  by_cases h1:1<p.length
  ·have d1:decide ((1:Int)< (p.length:Int))=true:=decide_eq_true (by omega)
   rw[if_pos h1] at hpk
   refine ko (And.intro @xv_ (And.intro @hlen (@d1))) ?_
   first|with_reducible refine ks [] @xv_ ?_|refine kp @xv_ ?_
   refine Cw.world fun wz hwz=> ?_
   rcases aoU_ hg (fun q hq=>by simp[hq]) hwz with h0| ⟨bp,cp,rp,rfl,hkp,rdp⟩
   ·omega
   have lp:=aeX_ (E:=3) (rest:=rp) 1 1 h1
   have hz:zE_ Tryz.prog 9=some (vs []):=Tryz.zr9
   have hbase:p.getD 1 0<ts.length:=by have:=ao0_ hk hp h1;omega
   have hge:=and_ [] hbase
   refine Cw.regionS [bk,bp] [1,2,0,3,4,5] [] (by kernel_rfl) (by kernel_rfl) (by kernel_rfl) ?_
   simp only[zg_, ↓zd_, ↓zb_, ↓zp_, ↓zq_,za_]
   refine kq (And.intro @xv_ (And.intro @rdp (@lp))) ?_
   refine Ow.soft rfl rfl rfl ?_
   refine Ow.mapGetG (k:=((p.getD 1 0:Nat):Int)) (z:= []) rfl rfl Tryz.underlying228 (KeyOk.int Tryz.underlying3) hz rfl rfl (z6_ hlk) ho ?_
   rw[hge]
   with_reducible refine Ow.nil ?_
   refine⟨by intro b hb;simp only[List.mem_cons,List.not_mem_nil,or_false] at hb;(try subst hb);rfl, ?_⟩
   refine kq (And.intro @xv_ (And.intro @i2 (And.intro @rd (@ld)))) ?_
   refine Ow.callFV rfl Tryz.call154 (fun w' hw'=>aaL_ pt (ts.getD (p.getD 1 0) []) w' hpx) ?_
   refine ko @xv_ ?_
   first|with_reducible refine ks [] @xv_ ?_|refine kp @xv_ ?_
   refine Ow.mapUpdateG (k:=(k:Int)) (v:=(q2_ pt (ts.getD (p.getD 1 0) [])).1) rfl rfl Tryz.underlying228 (KeyOk.int Tryz.underlying3) rfl rfl rfl hlk ho (fun o1 ho1=> ?_)
   rw[ae6_ _ _ htl] at ho1
   rw[hset o1]
   refine ko @xv_ ?_
   first|with_reducible refine ks [] @xv_ ?_|refine kp @xv_ ?_
   refine⟨_,(ke @xv_), ?_⟩
   refine⟨ext_new' hN1', ?_⟩
   refine⟨?_,o1,D1,rfl,fun s hs=> ?_⟩
   ·rw[hpk]
    by_cases he: (q2_ pt (ts.getD (p.getD 1 0) [])).2=0
    ·rw[if_pos he,he];rfl
    ·rw[if_neg he,ach_ he];rfl
   ·rw[hpk] at hs
    split at hs
    ·cases hs;exact ho1
    ·cases hs
  ·have d1:decide ((1:Int)< (p.length:Int))=false:=decide_eq_false (by omega)
   rw[if_neg h1] at hpk
   refine ko (And.intro @xv_ (And.intro @hlen (@d1))) ?_
   first|with_reducible refine ks [] (And.intro @xv_ (And.intro @i2 (And.intro @rd (@ld)))) ?_|refine kp (And.intro @xv_ (And.intro @i2 (And.intro @rd (@ld)))) ?_
   refine Ow.callFV rfl Tryz.call154 (fun w' hw'=>aaL_ pt [] w' hpx) ?_
   refine ko @xv_ ?_
   first|with_reducible refine ks [] @xv_ ?_|refine kp @xv_ ?_
   refine Ow.mapUpdateG (k:=(k:Int)) (v:=(q2_ pt []).1) rfl rfl Tryz.underlying228 (KeyOk.int Tryz.underlying3) rfl rfl rfl hlk ho (fun o1 ho1=> ?_)
   rw[ae6_ _ _ htl] at ho1
   rw[hset o1]
   refine ko @xv_ ?_
   first|with_reducible refine ks [] @xv_ ?_|refine kp @xv_ ?_
   refine⟨_,(ke @xv_), ?_⟩
   refine⟨ext_new' hN1', ?_⟩
   refine⟨?_,o1,D1,rfl,fun s hs=> ?_⟩
   ·rw[hpk]
    by_cases he: (q2_ pt []).2=0
    ·rw[if_pos he,he];rfl
    ·rw[if_neg he,ach_ he];rfl
   ·rw[hpk] at hs
    split at hs
    ·cases hs;exact ho1
    ·cases hs
end Go.Proofs
end
section
open Go Go.Proofs Go.Sx Go.StP Go.Flo
namespace Go.Proofs
set_option maxRecDepth 10000
set_option maxHeartbeats 400000
set_option linter.unusedSimpArgs false
theorem aa3_ {l:List PartL} {e:Int}: ∀ (p:List Nat),xZ_ l p= .error e→e≠0
 | [],h=>by cases h
 |a::p,h=>by
  unfold xZ_ at h
  cases hp:xZ_ l p with
  |error x=>rw[hp] at h;cases h;exact aa3_ p hp
  |ok s=>
   rw[hp] at h
   change(if(q2_ (l.getD a z5_) s).2=0 then _ else _)=_ at h
   split at h
   ·cases h
   ·rename_i hne;cases h;exact hne
theorem X7_ {l:List PartL} {a e:Int} (h:partV l a= .error e):e≠0:=by
 unfold partV at h
 cases hp:q0_ l a with
 |error x=>rw[hp] at h;cases h;exact KN_ hp
 |ok p=>rw[hp] at h;exact aa3_ p h
theorem ae9_ {l:List PartL} {k:Nat} {ts:List (List UInt8)} {s:List UInt8} (h:kx_ l k= .ok ts) (hs:partV l (k:Nat)= .ok s):kx_ l (k+1)= .ok (ts++ [s]):=by
 unfold kx_;rw[h];show(partV l (k:Nat)).map _=_;rw[hs];rfl
theorem aaa_ {l:List PartL} {k:Nat} {ts:List (List UInt8)} {e:Int} (h:kx_ l k= .ok ts) (hs:partV l (k:Nat)= .error e): ∀j,k<j→kx_ l j= .error e
 |0,hj=>by omega
 |j+1,hj=>by
  unfold kx_
  by_cases hjk:j=k
  ·subst hjk;rw[h];show(partV l (j:Nat)).map _=_;rw[hs];rfl
  ·rw[aaa_ h hs j (by omega)];rfl
def strC (s:List UInt8):List Value:= [vs s]
theorem afh_ (s:List UInt8): (strC s).length=1:=rfl
structure AlG where
 ts:List (List UInt8)
 v:Value
 o:Obj
 D:ze_
def AllS (l:List PartL) (v:Value) (D:ze_):Prop:=match ZC_ l with
 | .ok ts=> ∃x,v= .tuple #[x,vi 0]∧GrI D 9 1 x ts.length (ts.map strC).flatten
 | .error e=>v= .tuple #[.slice none 0 0,vi e]
theorem arn_:zE_ Tryz.prog 228=some (.map none):=id (by kernel_rfl)
theorem agJ_ (b:Nat) (E:TypeId) (x:Value):zl_ (some (false,1)) (some (.cells #[x] E (0,0))) 0 (vm b)=some (.cells #[vm b] E (0,0)):=(rfl)
set_option linter.defProp false
def xh_:=And.intro (And.intro (@zi_) (And.intro (@zh_) (@ajs_))) (And.intro (@agJ_) (And.intro (@Sx.tup2_0) (@Sx.tup2_1)))
theorem aja_ (v0:Value) (l:List PartL) (w:World) (hv:k3_ w v0 l) (hb:BndL l) (hl:l.length<1000000):
  Rets Tryz.prog 125 #[v0] w (XS w [] (AllS l)):=by
 have ln:=hv.len
 have hcl:v0.cells= #[v0]:=by
  obtain⟨bb,off,cc,arr,E,fz,hr,-,hvv⟩:=id hv
  rcases hvv with⟨e1,-,-⟩ | ⟨e1,-,-⟩<;>rw[e1]<;>rfl
 have hvb: ∀b,slB v0=some b→b<w.heap.size:=by
  intro b hb
  obtain⟨bb,off,cc,arr,E,fz,hr,-,hvv⟩:=id hv
  rcases hvv with⟨e1,-,-⟩ | ⟨e1,hh,-⟩
  ·rw[e1] at hb;cases hb
  ·rw[e1] at hb;cases hb;exact(Array.getElem?_eq_some_iff.1 hh).1
 refine Rets.enterX Tryz.func125 rfl (rs:= [.tmp 2, .tmp 3]) Tryz.results125 Tryz.ntmps125 (fun p hp=>by cases hp) (by simp[keys]) ?_
 refine kf ?_
 first|with_reducible refine ks [] @xh_ ?_|refine kp @xh_ ?_
 refine Ow.box rfl rfl fun b1 hb1 hw1=> ?_
 simp only[z8_,z3_,z4_,zc_,List.nil_append,List.cons_append]
 refine Ow.go rfl ?_
 simp(disch:=(first|assumption|omega| (simp only[xg_,xe_,UInt64.reduceToNat];try omega))) only[↓Sx.S0,Sx.S1,Tryz.fx,xh_,Nat.reduceAdd,Nat.reducePow,Int.reducePow,Nat.reduceBEq, ↓reduceIte,UInt8.reduceToNat,UInt16.reduceToNat,UInt32.reduceToNat,UInt64.reduceToNat,Int.reduceToNat]
 rw[hcl]
 by_cases h2:200<l.length
 ·have d1:decide ((200:Int)< (l.length:Int))=true:=decide_eq_true (by omega)
  first|with_reducible refine ks [] (And.intro @xh_ (And.intro @ln (@d1))) ?_|refine kp (And.intro @xh_ (And.intro @ln (@d1))) ?_
  refine⟨_,(ke @xh_), ?_⟩
  refine⟨Ext.of_new ⟨hw1,trivial⟩, ?_⟩
  unfold AllS ZC_;rw[if_pos h2];rfl
 ·have d1:decide ((200:Int)< (l.length:Int))=false:=decide_eq_false (by omega)
  first|with_reducible refine ks [] (And.intro @xh_ (And.intro @ln (@d1))) ?_|refine kp (And.intro @xh_ (And.intro @ln (@d1))) ?_
  refine Ow.makeMapG (encK:=vi) (encV:=vs) rfl rfl fun bm o hbm hwm hm0=> ?_
  rw[List.cons_append,List.nil_append]
  refine ko @xh_ ?_
  first|with_reducible refine ks [] @xh_ ?_|refine kp @xh_ ?_
  refine Ow.alloc rfl rfl arn_ fun bk hbk hwk=> ?_
  simp only[zc_,List.nil_append,List.cons_append]
  rw[show Value.cells (.map none)= #[.map none] from rfl]
  have hbmk:bm<bk:=zf_ hbk (by simp[keys])
  have hb1m:b1<bm:=zf_ hbm (by simp[keys])
  have hb1k:b1<bk:=by omega
  have hv1: ∀o b,slB v0=some b→b∉keys (clX b1 bk bm v0 o):=by
   intro o b hbb
   have:=hvb b hbb
   simp only[clX,keys,List.map_cons,List.map_nil,List.mem_cons,List.not_mem_nil,or_false,not_or]
   omega
  have hXn: ∀o,New w.heap.size (clX b1 bk bm v0 o):=fun o=>⟨hw1,hwk,hwm,trivial⟩
  refine Ow.permL (M:= [(b1,Obj.cells #[v0] 22 (0,0)),(bk, .cells #[.map none] 228 (0,0)),(bm,o)]) (by classical exact List.perm_iff_count.2 fun a=>by simp only[List.count_append,List.count_cons,List.count_nil]<;>omega) ?_
  refine ko @xh_ ?_
  first|with_reducible refine ks [] (And.intro @xh_ @ln) ?_|refine kp (And.intro @xh_ @ln) ?_
  simp only[List.map_toArray,List.map_cons,List.map_nil,z8_,z4_,z3_]
  refine Cw.loopG (G:=AlG) [18,19,7,21,22,23,20,24,25,8,9,26,27,28,2,3,29,30,31,32,6,33,17] (fun g=> [(6,g.v),(17,vi g.ts.length)]) (fun g=>(b1,Obj.cells #[v0] 22 (0,0)):: (bk, .cells #[vm bm] 228 (0,0)):: (bm,g.o)::g.D) (fun g=>g.ts.length≤l.length∧kx_ l g.ts.length= .ok g.ts∧MapT g.o g.ts∧New w.heap.size g.D∧Gr g.D 9 1 g.v g.ts.length (g.ts.map strC).flatten) (fun g=>l.length - g.ts.length) ⟨[], .slice none 0 0,o,[]⟩ rfl rfl ?_ ?_
  ·exact⟨Nat.zero_le _,rfl,hm0,trivial,Gr.nl⟩
  intro g j hg
  refine kv ?_
  obtain⟨ts,v,o,D⟩:=g
  simp only at hg ⊢
  obtain⟨hgl,hgo,hM,hN,hG⟩:=hg
  by_cases hlt:ts.length<l.length
  ·have d2:decide ((ts.length:Int)< (l.length:Int))=true:=decide_eq_true (by omega)
   first|with_reducible refine ks [] (And.intro @xh_ @d2) ?_|refine kp (And.intro @xh_ @d2) ?_
   refine Ow.callFnXC (b:=vi ts.length) (ars:= #[vi ts.length,vp b1 0,vp bk 0]) rfl (X:=clX b1 bk bm v0 o) (Y:=D) (S:=ClS l ts.length ts b1 bk bm v0) rfl rfl rfl rfl rfl Tryz.call158 (fun w' hw' hX hn=>ah4_ b1 bk bm o v0 l ts.length ts w' hb1k (by omega) (by omega) (hv.oldN hw' ((hXn o).app hN)) hb hl hlt hgo hM (hv1 o) hX hn) (fun v2 D2 hC hS=> ?_)
   obtain⟨rfl,o2,D3,rfl,hok⟩:=hS
   have hN3:New w.heap.size D3:=New.of_le fun c hc=>by
    rcases hC.new c (by rw[zk_];exact List.mem_append_right _ hc) with h|h
    ·exact(hXn o).le c h
    ·exact h.2
   have hpm: (clX b1 bk bm v0 o2++D3)++D=(b1,Obj.cells #[v0] 22 (0,0)):: (bk, .cells #[vm bm] 228 (0,0)):: (bm,o2):: (D3++D):=rfl
   rw[hpm]
   cases hp:partV l (ts.length:Nat) with
   |error e=>
    have hal:ZC_ l= .error e:=by unfold ZC_;rw[if_neg h2];exact aaa_ hgo hp _ hlt
    have e0: (e !=0)=true:=by rw[bne_iff_ne];exact X7_ hp
    unfold W6_
    refine ko @xh_ ?_
    first|with_reducible refine ks [] (And.intro @xh_ @e0) ?_|refine kp (And.intro @xh_ @e0) ?_
    refine⟨_,(ke @xh_), ?_⟩
    refine⟨Ext.of_new ⟨hw1,hwk,hwm,hN3.app hN⟩, ?_⟩
    unfold AllS;rw[hal];rfl
   |ok s=>
    have e0: ((0:Int) !=0)=false:=rfl
    unfold W6_
    refine ko @xh_ ?_
    first|with_reducible refine ks [] (And.intro @xh_ @e0) ?_|refine kp (And.intro @xh_ @e0) ?_
    refine Ow.buildSlice (e:=9) #[vs s] rfl rfl (by kernel_rfl) fun b9 hb9 hw9=> ?_
    have hM2:=hok s hp
    refine Ow.permL (M:=D++ ((b1,Obj.cells #[v0] 22 (0,0)):: (bk, .cells #[vm bm] 228 (0,0)):: (bm,o2):: (D3++ [(b9, .cells #[vs s] 9 (0,0))]))) (by classical exact List.perm_iff_count.2 fun a=>by simp only[List.count_append,List.count_cons,List.count_nil]<;>omega) ?_
    refine ko @xh_ ?_
    refine Ow.appendXG (e:=9) (k:=1) (new:=strC s) (X:=D) v rfl rfl rfl rfl Tryz.underlying57 (id (by kernel_rfl):z2_ Tryz.prog 9=some (false,1)) (by kernel_rfl) (id (by kernel_rfl):zE_ Tryz.prog 9=some (vs [])) rfl Tryz.underlying57 (by intro k h;cases h) hG (fun w' hw'=>AppX.one1 (hw'.has b9 (.cells #[vs s] 9 (0,0)) (by simp)) (afh_ s) rfl) (by omega) (fun B4 v4 D4 hA4 hB4 hG4 hk14 hk24 hlk4=> ?_)
    have hN4:New w.heap.size D4:=New.of_le fun c hc=>by
     rcases hk24 c hc with h|h
     ·exact hN.le c h
     ·omega
    have hG5:Gr (D4++ (D3++ [(b9,Obj.cells #[vs s] 9 (0,0))])) 9 1 v4 (ts++ [s]).length ((ts++ [s]).map strC).flatten:=by
     have:=hG4.app (M:=D3++ [(b9,Obj.cells #[vs s] 9 (0,0))])
     simpa using this
    have hN5:New w.heap.size (D4++ (D3++ [(b9,Obj.cells #[vs s] 9 (0,0))])):=hN4.app (hN3.app ⟨hw9,trivial⟩)
    refine Ow.permL (M:=(b1,Obj.cells #[v0] 22 (0,0)):: (bk, .cells #[vm bm] 228 (0,0)):: (bm,o2):: (D4++ (D3++ [(b9, .cells #[vs s] 9 (0,0))]))) (by classical exact List.perm_iff_count.2 fun a=>by simp only[List.count_append,List.count_cons,List.count_nil]<;>omega) ?_
    generalize D4++ (D3++ [(b9,Obj.cells #[vs s] 9 (0,0))])=D6 at*
    refine ko @xh_ ?_
    first|with_reducible refine ks [] @xh_ ?_|refine kp @xh_ ?_
    have hlt2: (ts++ [s]).length=ts.length+1:=by simp
    refine Again.mk ⟨ts++ [s],v4,o2,D6⟩ (by show l.length - (ts++ [s]).length<l.length - ts.length;omega) ⟨by show(ts++ [s]).length≤l.length;omega,by show kx_ l (ts++ [s]).length= .ok (ts++ [s]);rw[hlt2];exact ae9_ hgo hp,hM2,hN5,hG5⟩ rfl (by simp only[hlt2];rfl)
  ·have e:ts.length=l.length:=by omega
   have d2:decide ((ts.length:Int)< (l.length:Int))=false:=decide_eq_false (by omega)
   first|with_reducible refine ks [] (And.intro @xh_ @d2) ?_|refine kp (And.intro @xh_ @d2) ?_
   refine⟨_,(ke @xh_), ?_⟩
   refine⟨Ext.of_new ⟨hw1,hwk,hwm,hN⟩, ?_⟩
   have hal:ZC_ l= .ok ts:=by unfold ZC_;rw[if_neg h2,←e];exact hgo
   unfold AllS
   rw[hal]
   exact⟨v,rfl,Gr.i hG fun q hq=>by simp[hq]⟩
end Go.Proofs
end
namespace Go.Dig
open Go.Sx
def hexL:List UInt8:= [48,49,50,51,52,53,54,55,56,57,97,98,99,100,101,102]
def V0_ (b:UInt8):Int:=if 48≤b.toNat∧b.toNat≤57 then(b.toNat:Int) - 48 else if 97≤b.toNat∧b.toNat≤102 then(b.toNat:Int) - 97+10 else -1
def hexD (n:Nat):UInt8:=hexL.getD n 0
def hexB (b:UInt8):List UInt8:= [hexD (b.toNat / 16),hexD (b.toNat%16)]
def hexV (id:List UInt8):List UInt8:=id.flatMap hexB
def Jl_ (id:List UInt8) (g:Nat):List UInt8:=hexV (id.take g)++List.replicate (64 - 2*g) 0
theorem ZZ_ (id:List UInt8): (hexV id).length=2*id.length:=by
 induction id with
 |nil=>rfl
 |cons b r ih=>simp only[hexV,List.flatMap_cons,List.length_append] at ih ⊢;rw[ih];simp[hexB];omega
theorem QG_ (id:List UInt8) (g:Nat) (h:id.length=32) (hg:g≤32): (Jl_ id g).length=64:=by
 simp[Jl_,ZZ_,h];omega
theorem ad2_ (id:List UInt8) (g:Nat) (h:id.length=32) (hg:g<32) (x y:UInt8) (hx:x=hexD ((id.getD g 0).toNat / 16)) (hy:y=hexD ((id.getD g 0).toNat%16)):
  ((Jl_ id g).set (2*g) x).set (2*g+1) y=Jl_ id (g+1):=by
 have hl: (hexV (id.take g)).length=2*g:=by rw[ZZ_];simp;omega
 have hr:List.replicate (64 - 2*g) (0:UInt8)=0::0::List.replicate (64 - 2* (g+1)) 0:=by
  have:64 - 2*g=(64 - 2* (g+1))+1+1:=by omega
  rw[this];rfl
 have ht:id.take (g+1)=id.take g++ [id.getD g 0]:=by
  rw[List.take_add_one]
  simp[List.getD_eq_getElem?_getD,h,hg]
 have key: ∀ (p q:List UInt8) (a b:UInt8),((p++a::b::q).set p.length x).set (p.length+1) y=p++x::y::q:=by
  intro p q a b
  induction p with
  |nil=>rfl
  |cons c r ih=>simp only[List.cons_append,List.length_cons,List.set_cons_succ,ih]
 unfold Jl_
 rw[ht,hr,←hl,key]
 simp[hexV,hexB,hx,hy]
theorem af8_ (id:List UInt8) (h:id.length=32):Jl_ id 32=hexV id:=by
 simp[Jl_,List.take_of_length_le (show id.length≤32 by omega)]
theorem aor_ (b:UInt8): (kH_ b 4).toNat<16:=by
 have:=b.toNat_lt
 rw[kH_,UInt8.toNat_ofNat'];omega
theorem alJ_ (b:UInt8): (b&&&15).toNat<16:=by
 rw[UInt8.toNat_and]
 exact Nat.lt_of_le_of_lt Nat.and_le_right (by decide)
theorem apy_ (b:UInt8):hexL.getD (kH_ b 4).toNat 0=hexD (b.toNat / 16):=by
 have:=b.toNat_lt
 rw[kH_,UInt8.toNat_ofNat',Nat.mod_eq_of_lt (by omega)];rfl
theorem anh_ (b:UInt8):hexL.getD (b&&&15).toNat 0=hexD (b.toNat%16):=by
 rw[UInt8.toNat_and]
 have:b.toNat&&& (15:UInt8).toNat=b.toNat%16:=Nat.and_two_pow_sub_one_eq_mod b.toNat 4
 rw[this];rfl
def anv_ (l:List UInt8) (n:Nat):List UInt8:=(List.range n).map fun i=>UInt8.ofInt (V0_ (l.getD (2*i) 0)*16+V0_ (l.getD (2*i+1) 0))
def arO_ (l:List UInt8):Bool:=l.length==64&&l.all fun c=>decide (0≤V0_ c)
def asd_ (l:List UInt8):List UInt8:=if arO_ l then anv_ l 32 else List.replicate 32 0
def aq0_ (l:List UInt8) (g:Nat):List UInt8:=anv_ l g++List.replicate (32 - g) 0
def refB (l:List UInt8) (i k:Nat):UInt8:=
 if 2*k+1<i then UInt8.ofInt (V0_ (l.getD (2*k) 0)*16+V0_ (l.getD (2*k+1) 0)) else if 2*k<i then UInt8.ofInt (V0_ (l.getD (2*k) 0)) else 0
def asb_ (l:List UInt8) (i:Nat):List UInt8:=(List.range 32).map (refB l i)
def rgt (x:UInt32) (n:UInt64):UInt32:=zU_ x n.toNat|||xo_ x (32 - n).toNat
def rol (x:UInt32) (k:Int):UInt32:=xo_ x (UInt64.ofInt k&&&31).toNat|||zU_ x (32 - (UInt64.ofInt k&&&31)).toNat
def akD_ (x:UInt32) (a b c:Int):UInt32:=rol x (-a)^^^rol x (-b)^^^zU_ x c.toNat
def aiI_ (x:UInt32) (a b c:Int):UInt32:=rol x (-a)^^^rol x (-b)^^^rol x (-c)
def S1 (e:UInt32):UInt32:=rgt e 6^^^rgt e 11^^^rgt e 25
def S0 (a:UInt32):UInt32:=rgt a 2^^^rgt a 13^^^rgt a 22
def s1 (y:UInt32):UInt32:=rgt y 17^^^rgt y 19^^^zU_ y 10
def s0 (x:UInt32):UInt32:=rgt x 7^^^rgt x 18^^^zU_ x 3
theorem rol6 (x:UInt32):rol x (-6)=rgt x 6:=by unfold rol rgt;rw[UInt32.or_comm];rfl
theorem arC_ (x:UInt32):rol x (-11)=rgt x 11:=by unfold rol rgt;rw[UInt32.or_comm];rfl
theorem arA_ (x:UInt32):rol x (-25)=rgt x 25:=by unfold rol rgt;rw[UInt32.or_comm];rfl
theorem rol2 (x:UInt32):rol x (-2)=rgt x 2:=by unfold rol rgt;rw[UInt32.or_comm];rfl
theorem ar3_ (x:UInt32):rol x (-13)=rgt x 13:=by unfold rol rgt;rw[UInt32.or_comm];rfl
theorem ar6_ (x:UInt32):rol x (-22)=rgt x 22:=by unfold rol rgt;rw[UInt32.or_comm];rfl
theorem aro_ (x:UInt32):rol x (-17)=rgt x 17:=by unfold rol rgt;rw[UInt32.or_comm];rfl
theorem arw_ (x:UInt32):rol x (-19)=rgt x 19:=by unfold rol rgt;rw[UInt32.or_comm];rfl
theorem rol7 (x:UInt32):rol x (-7)=rgt x 7:=by unfold rol rgt;rw[UInt32.or_comm];rfl
theorem arj_ (x:UInt32):rol x (-18)=rgt x 18:=by unfold rol rgt;rw[UInt32.or_comm];rfl
theorem arV_ (x:UInt32):aiI_ x 6 11 25=S1 x:=by unfold aiI_ S1;rw[rol6,arC_,arA_]
theorem arP_ (x:UInt32):aiI_ x 2 13 22=S0 x:=by unfold aiI_ S0;rw[rol2,ar3_,ar6_]
theorem ar0_ (x:UInt32):akD_ x 17 19 10=s1 x:=by unfold akD_ s1;rw[aro_,arw_];rfl
theorem arW_ (x:UInt32):akD_ x 7 18 3=s0 x:=by unfold akD_ s0;rw[rol7,arj_];rfl
def kL:List UInt32:= [1116352408,1899447441,3049323471,3921009573,961987163,1508970993,2453635748,2870763221,3624381080,310598401,607225278,1426881987,1925078388,2162078206,2614888103,3248222580,3835390401,4022224774,264347078,604807628,770255983,1249150122,1555081692,1996064986,2554220882,2821834349,2952996808,3210313671,3336571891,3584528711,113926993,338241895,666307205,773529912,1294757372,1396182291,1695183700,1986661051,2177026350,2456956037,2730485921,2820302411,3259730800,3345764771,3516065817,3600352804,4094571909,275423344,430227734,506948616,659060556,883997877,958139571,1322822218,1537002063,1747873779,1955562222,2024104815,2227730452,2361852424,2428436474,2756734187,3204031479,3329325298]
def initL:List UInt32:= [1779033703,3144134277,1013904242,2773480762,1359893119,2600822924,528734635,1541459225]
def alN_ (b:List UInt8) (i:Nat):UInt32:=
 UInt32.ofNat (b.getD (4*i) 0).toNat*16777216+UInt32.ofNat (b.getD (4*i+1) 0).toNat*65536+UInt32.ofNat (b.getD (4*i+2) 0).toNat*256+UInt32.ofNat (b.getD (4*i+3) 0).toNat
def VJ_ (b:List UInt8) (i:Nat):List UInt32:=(List.range 64).map fun j=>if j<i then alN_ b j else 0
theorem vJ_ (b:List UInt8) (i:Nat): (VJ_ b i).length=64:=by simp[VJ_]
theorem abH_ (b:List UInt8) (i:Nat): (VJ_ b i).set i (alN_ b i)=VJ_ b (i+1):=by
 apply List.ext_getElem
 ·simp[VJ_]
 intro k hk1 hk2
 have hk:k<64:=by simpa [VJ_] using hk2
 rw[List.getElem_set]
 by_cases h:i=k
 ·subst h;simp[VJ_]
 ·rw[if_neg h]
  simp only[VJ_,List.getElem_map,List.getElem_range]
  by_cases h1:k<i
  ·rw[if_pos h1,if_pos (by omega)]
  ·rw[if_neg h1,if_neg (by omega)]
theorem abM_ (b:List UInt8):VJ_ b 0=List.replicate 64 0:=by
 apply List.ext_getElem
 ·simp[VJ_]
 intro k hk1 hk2
 simp only[VJ_,List.getElem_map,List.getElem_range,List.getElem_replicate]
 rw[if_neg (by omega)]
def alP_ (w:List UInt32) (g:Nat):List UInt32:=w.set g (s1 (w.getD (g - 2) 0)+w.getD (g - 7) 0+s0 (w.getD (g - 15) 0)+w.getD (g - 16) 0)
def wGo (w:List UInt32):Nat→List UInt32
 |0=>w
 |n+1=>alP_ (wGo w n) (16+n)
theorem VS_ (w:List UInt32) (n:Nat): (wGo w n).length=w.length:=by
 induction n with
 |zero=>rfl
 |succ n ih=>simp[wGo,alP_,ih]
def wAll (b:List UInt8):List UInt32:=wGo (VJ_ b 16) 48
theorem Xb_ (b:List UInt8): (wAll b).length=64:=by rw[wAll,VS_,vJ_]
def an0_ (s:List UInt32) (k w:UInt32):List UInt32:=
 let t:=s.getD 7 0+S1 (s.getD 4 0)+ (s.getD 4 0&&&s.getD 5 0||| ~~~ s.getD 4 0&&&s.getD 6 0)+k+w
 let u:=S0 (s.getD 0 0)+ (s.getD 0 0&&&s.getD 1 0|||s.getD 0 0&&&s.getD 2 0|||s.getD 1 0&&&s.getD 2 0)
 [t+u,s.getD 0 0,s.getD 1 0,s.getD 2 0,s.getD 3 0+t,s.getD 4 0,s.getD 5 0,s.getD 6 0]
def rGo (st w:List UInt32):Nat→List UInt32
 |0=>st
 |n+1=>an0_ (rGo st w n) (kL.getD n 0) (w.getD n 0)
theorem agE_ (st w:List UInt32) (n:Nat) (h:st.length=8): (rGo st w n).length=8:=by
 cases n with
 |zero=>exact h
 |succ n=>rfl
def x6_ (st s:List UInt32) (i:Nat):List UInt32:=(List.range 8).map fun j=>if j<i then st.getD j 0+s.getD j 0 else st.getD j 0
theorem QD_ (st s:List UInt32) (i:Nat): (x6_ st s i).length=8:=by simp[x6_]
theorem ag5_ (st s:List UInt32) (i j:Nat) (hj:j<8): (x6_ st s i).getD j 0=if j<i then st.getD j 0+s.getD j 0 else st.getD j 0:=by
 simp[x6_,List.getD_eq_getElem?_getD,hj]
theorem aeK_ (st s:List UInt32) (i:Nat): (x6_ st s i).set i (st.getD i 0+s.getD i 0)=x6_ st s (i+1):=by
 apply List.ext_getElem
 ·simp[x6_]
 intro k hk1 hk2
 rw[List.getElem_set]
 by_cases h:i=k
 ·subst h;simp[x6_]
 ·rw[if_neg h]
  simp only[x6_,List.getElem_map,List.getElem_range]
  by_cases h1:k<i
  ·rw[if_pos h1,if_pos (by omega)]
  ·rw[if_neg h1,if_neg (by omega)]
theorem acF_ (st s:List UInt32) (h:st.length=8):x6_ st s 0=st:=by
 apply List.ext_getElem
 ·simp[x6_,h]
 intro k hk1 hk2
 simp[x6_,List.getD_eq_getElem?_getD,hk2]
def comp (st:List UInt32) (b:List UInt8):List UInt32:=x6_ st (rGo st (wAll b) 64) 8
theorem ZK_ (st:List UInt32) (b:List UInt8): (comp st b).length=8:=QD_ _ _ _
def Z1_ (st:List UInt32) (m:List UInt8):Nat→List UInt32
 |0=>st
 |n+1=>comp (Z1_ st m n) ((m.drop (64*n)).take 64)
theorem abf_ (st:List UInt32) (m:List UInt8) (n:Nat) (h:st.length=8): (Z1_ st m n).length=8:=by
 cases n with
 |zero=>exact h
 |succ n=>exact ZK_ _ _
theorem abA_ (st:List UInt32) (m x:List UInt8) (n:Nat) (h:64*n≤m.length):Z1_ st (m++x) n=Z1_ st m n:=by
 induction n with
 |zero=>rfl
 |succ n ih=>
  simp only[Z1_]
  rw[ih (by omega),List.drop_append_of_le_length (by omega),List.take_append_of_le_length (by simp;omega)]
def wj_ (bg:Bool) (st:List UInt32) (rest:List UInt8) (many:Int) (taken:UInt64):List Value:=
 .bool bg:: (st.map (fun x=>Value.int .u32 (x.toNat:Int))++ (rest.map (fun x=>Value.int .u8 (x.toNat:Int))++ [vi many,v64 taken]))
def zQ_ (bg:Bool) (st:List UInt32) (rest:List UInt8) (many:Int) (taken:UInt64):Array Value:=(wj_ bg st rest many taken).toArray
section
variable {bg:Bool} {st:List UInt32} {rest:List UInt8} {many:Int} {taken:UInt64} {E:TypeId}
theorem j0_ (h:st.length=8∧rest.length=64): (zQ_ bg st rest many taken).size=75:=by simp[zQ_,wj_,h]
theorem ahQ_: (zQ_ bg st rest many taken)[0]? =some (.bool bg):=rfl
theorem akV_ (k:Nat) (hk:k<8) (h:st.length=8): (zQ_ bg st rest many taken)[1+k]? =some (v32 (st.getD k 0)):=by
 have:1+k=k+1:=by omega
 rw[this,zQ_,List.getElem?_toArray,wj_,List.getElem?_cons_succ,List.getElem?_append_left (by simp;omega)]
 simp[v32,List.getD_eq_getElem?_getD,h,hk]
theorem aa7_ (k:Nat) (hk:k<64) (h:st.length=8∧rest.length=64): (zQ_ bg st rest many taken)[9+k]? =some (v8 (rest.getD k 0)):=by
 have:9+k=(8+k)+1:=by omega
 rw[this,zQ_,List.getElem?_toArray,wj_,List.getElem?_cons_succ,List.getElem?_append_right (by simp;omega),List.getElem?_append_left (by simp;omega)]
 have e:8+k - (List.map (fun x:UInt32=>Value.int .u32 (x.toNat:Int)) st).length=k:=by simp;omega
 rw[e]
 simp[v8,List.getD_eq_getElem?_getD,h,hk]
theorem aka_ (h:st.length=8∧rest.length=64): (zQ_ bg st rest many taken)[73]? =some (vi many):=by
 rw[zQ_,List.getElem?_toArray,wj_,List.getElem?_cons_succ,List.getElem?_append_right (by simp;omega),List.getElem?_append_right (by simp;omega)]
 simp[h]
theorem ah8_ (h:st.length=8∧rest.length=64): (zQ_ bg st rest many taken)[74]? =some (v64 taken):=by
 rw[zQ_,List.getElem?_toArray,wj_,List.getElem?_cons_succ,List.getElem?_append_right (by simp;omega),List.getElem?_append_right (by simp;omega)]
 simp[h]
theorem Zd_ (n:Nat):zs_ (some (false,n)) (some (.cells (zQ_ bg st rest many taken) E (0,0))) 0=some (.bool bg):=ahQ_
theorem w8_ (n k:Nat) (h:k<8∧st.length=8):zs_ (some (false,n)) (some (.cells (zQ_ bg st rest many taken) E (0,0))) (1+k)=some (v32 (st.getD k 0)):=akV_ k h.1 h.2
theorem Zj_ (n k:Nat) (h:k<64∧st.length=8∧rest.length=64):zs_ (some (false,n)) (some (.cells (zQ_ bg st rest many taken) E (0,0))) (9+k)=some (v8 (rest.getD k 0)):=aa7_ k h.1 h.2
theorem wa_ (n j k:Nat) (h:j+k<64∧st.length=8∧rest.length=64):zs_ (some (false,n)) (some (.cells (zQ_ bg st rest many taken) E (0,0))) (9+j+k)=some (v8 (rest.getD (j+k) 0)):=by
 rw[Nat.add_assoc];exact aa7_ (j+k) h.1 h.2
theorem Zh_ (n:Nat) (h:st.length=8∧rest.length=64):zs_ (some (false,n)) (some (.cells (zQ_ bg st rest many taken) E (0,0))) 73=some (vi many):=aka_ h
theorem Za_ (n:Nat) (h:st.length=8∧rest.length=64):zs_ (some (false,n)) (some (.cells (zQ_ bg st rest many taken) E (0,0))) 74=some (v64 taken):=ah8_ h
theorem vN_ (h:st.length=8∧rest.length=64):zs_ (some (true,8)) (some (.cells (zQ_ bg st rest many taken) E (0,0))) 1=some (.agg (a32 st)):=by
 have hs:1+8≤ (zQ_ bg st rest many taken).size:=by rw[j0_ h];omega
 simp only[zs_,hs, ↓reduceIte]
 congr 2
 rw[zQ_,a32,wj_]
 simp only[List.extract_toArray,List.extract_eq_take_drop]
 congr 1
 simp[h]
theorem k2_ (h:st.length=8∧rest.length=64):zs_ (some (true,75)) (some (.cells (zQ_ bg st rest many taken) E (0,0))) 0=some (.agg (zQ_ bg st rest many taken)):=v5_ _ _ _ _ (j0_ h)
theorem alo_: (zQ_ bg st rest many taken).toList.all Value.oneCell'=true:=by
 simp[zQ_,wj_,Value.oneCell',vi,v64]
theorem xk_ (old:Array Value) (h:st.length=8∧rest.length=64∧old.size=75):zl_ (some (true,75)) (some (.cells old E (0,0))) 0 (.agg (zQ_ bg st rest many taken))=some (.cells (zQ_ bg st rest many taken) E (0,0)):=
 Qi_ _ _ _ _ _ ⟨j0_ ⟨h.1,h.2.1⟩,h.2.2⟩ alo_
theorem wD_ (i:Nat) (v:Value): (zQ_ bg st rest many taken).setIfInBounds i v=((wj_ bg st rest many taken).set i v).toArray:=by simp[zQ_]
theorem v9_ (b:Bool) (h:st.length=8∧rest.length=64):zl_ (some (false,1)) (some (.cells (zQ_ bg st rest many taken) E (0,0))) 0 (.bool b)=some (.cells (zQ_ b st rest many taken) E (0,0)):=by
 rw[ku_ _ _ _ _ _ (by rw[j0_ h];omega) rfl rfl,wD_];rfl
theorem v2_ (k:Nat) (x:UInt32) (h:k<8∧st.length=8∧rest.length=64):zl_ (some (false,1)) (some (.cells (zQ_ bg st rest many taken) E (0,0))) (1+k) (v32 x)=some (.cells (zQ_ bg (st.set k x) rest many taken) E (0,0)):=by
 have e:1+k=k+1:=by omega
 rw[ku_ _ _ _ _ _ (by rw[j0_ h.2];omega) rfl rfl,wD_,e,wj_,List.set_cons_succ,List.set_append_left _ _ (by simp;omega)]
 simp only[zQ_,wj_,List.map_set];rfl
theorem vL_ (k:Nat) (x:UInt8) (h:k<64∧st.length=8∧rest.length=64):zl_ (some (false,1)) (some (.cells (zQ_ bg st rest many taken) E (0,0))) (9+k) (v8 x)=some (.cells (zQ_ bg st (rest.set k x) many taken) E (0,0)):=by
 have e:9+k=(8+k)+1:=by omega
 rw[ku_ _ _ _ _ _ (by rw[j0_ h.2];omega) rfl rfl,wD_,e,wj_,List.set_cons_succ,List.set_append_right _ _ (by simp;omega),List.set_append_left _ _ (by simp;omega)]
 have e2:8+k - (List.map (fun x:UInt32=>Value.int .u32 (x.toNat:Int)) st).length=k:=by simp;omega
 rw[e2]
 simp only[zQ_,wj_,List.map_set];rfl
theorem v7_ (m:Int) (h:st.length=8∧rest.length=64):zl_ (some (false,1)) (some (.cells (zQ_ bg st rest many taken) E (0,0))) 73 (vi m)=some (.cells (zQ_ bg st rest m taken) E (0,0)):=by
 rw[ku_ _ _ _ _ _ (by rw[j0_ h];omega) rfl rfl,wD_,wj_,List.set_cons_succ,List.set_append_right _ _ (by simp;omega),List.set_append_right _ _ (by simp;omega)]
 simp[zQ_,wj_,h]
theorem vZ_ (t:UInt64) (h:st.length=8∧rest.length=64):zl_ (some (false,1)) (some (.cells (zQ_ bg st rest many taken) E (0,0))) 74 (v64 t)=some (.cells (zQ_ bg st rest many t) E (0,0)):=by
 rw[ku_ _ _ _ _ _ (by rw[j0_ h];omega) rfl rfl,wD_,wj_,List.set_cons_succ,List.set_append_right _ _ (by simp;omega),List.set_append_right _ _ (by simp;omega)]
 simp[zQ_,wj_,h]
theorem k1_ (st':List UInt32) (h:st.length=8∧rest.length=64∧st'.length=8):zl_ (some (true,8)) (some (.cells (zQ_ bg st rest many taken) E (0,0))) 1 (.agg (a32 st'))=some (.cells (zQ_ bg st' rest many taken) E (0,0)):=by
 have hs:1+8≤ (zQ_ bg st rest many taken).size:=by rw[j0_ ⟨h.1,h.2.1⟩];omega
 have hp:wg_ (zQ_ bg st rest many taken) 1 (a32 st').toList=zQ_ bg st' rest many taken:=by
  have:=Wm_ (a32 st').toList [.bool bg] (st.map fun x=>Value.int .u32 (x.toNat:Int)) (rest.map (fun x=>Value.int .u8 (x.toNat:Int))++ [vi many,v64 taken]) (by simp[a32,h])
  simpa [zQ_,wj_,a32] using this
 have h1: (a32 st').size=8:=by rw[Z7_];exact h.2.2
 simp only[zl_,zc_,h1,hs,Nat.le_refl,true_or,ahP_,and_self, ↓reduceIte,hp]
end
def acc (b:List UInt8) (i:Nat):Nat→UInt32
 |0=>0
 |k+1=>xo_ (acc b i k) 8|||UInt32.ofNat (b.getD (4*i+k) 0).toNat
theorem J5_ (x:UInt32) (c:UInt8) (h:x.toNat<16777216): (xo_ x 8|||UInt32.ofNat c.toNat).toNat=x.toNat*256+c.toNat:=by
 have hc:=c.toNat_lt
 rw[UInt32.toNat_or,xo_,UInt32.toNat_ofNat',UInt32.toNat_ofNat',Nat.mod_eq_of_lt (by omega),Nat.mod_eq_of_lt (by omega),←Nat.shiftLeft_eq,←Nat.shiftLeft_add_eq_or_of_lt (by omega:c.toNat<2^8),Nat.shiftLeft_eq]
theorem alV_ (b:List UInt8) (i:Nat):acc b i 4=alN_ b i:=by
 have h0:=(b.getD (4*i) 0).toNat_lt
 have h1:=(b.getD (4*i+1) 0).toNat_lt
 have h2:=(b.getD (4*i+2) 0).toNat_lt
 have h3:=(b.getD (4*i+3) 0).toNat_lt
 have e1: (acc b i 1).toNat=(b.getD (4*i) 0).toNat:=by
  have:=J5_ 0 (b.getD (4*i+0) 0) (by decide)
  simpa [acc] using this
 have l1: (acc b i 1).toNat<16777216:=by omega
 have e2: (acc b i 2).toNat=(acc b i 1).toNat*256+ (b.getD (4*i+1) 0).toNat:=J5_ _ _ l1
 have l2: (acc b i 2).toNat<16777216:=by omega
 have e3: (acc b i 3).toNat=(acc b i 2).toNat*256+ (b.getD (4*i+2) 0).toNat:=J5_ _ _ l2
 have l3: (acc b i 3).toNat<16777216:=by omega
 have e4: (acc b i 4).toNat=(acc b i 3).toNat*256+ (b.getD (4*i+3) 0).toNat:=J5_ _ _ l3
 apply UInt32.toNat.inj
 rw[e4,e3,e2,e1]
 unfold alN_
 simp only[UInt32.toNat_add,UInt32.toNat_mul,UInt32.toNat_ofNat']
 have k1: (16777216:UInt32).toNat=16777216:=rfl
 have k2: (65536:UInt32).toNat=65536:=rfl
 have k3: (256:UInt32).toNat=256:=rfl
 rw[k1,k2,k3]
 omega
theorem akz_ (b:List UInt8) (g:Nat):VJ_ b g=(VJ_ b g).set g (acc b g 0):=by
 apply List.ext_getElem
 ·simp
 intro k hk1 hk2
 rw[List.getElem_set]
 by_cases h:g=k
 ·subst h;simp[VJ_,acc]
 ·rw[if_neg h]
theorem jE_ {α:Type} (l:List α) (i:Nat) (x d:α) (h:i<l.length): (l.set i x).getD i d=x:=by
 simp[List.getD_eq_getElem?_getD,h]
def wG (b:List UInt8) (g:Nat):List UInt32:=wGo (VJ_ b 16) (g - 16)
theorem abX_ (b:List UInt8) (g:Nat): (wG b g).length=64:=by rw[wG,VS_,vJ_]
theorem aiB_ (b:List UInt8) (g:Nat) (h:16≤g):wG b (g+1)=alP_ (wG b g) g:=by
 unfold wG
 have:g+1 - 16=(g - 16)+1:=by omega
 rw[this]
 show alP_ _ (16+ (g - 16))=_
 rw[show 16+ (g - 16)=g from by omega]
theorem anK_ (b:List UInt8):wG b 64=wAll b:=rfl
theorem afk_ (b:List UInt8):VJ_ b 16=wG b 16:=rfl
theorem aql_ (a b c:UInt32): (a&&&b^^^ ~~~a&&&c)=(a&&&b||| ~~~a&&&c):=by
 apply UInt32.toBitVec_inj.1
 simp only[UInt32.toBitVec_xor,UInt32.toBitVec_or,UInt32.toBitVec_and,UInt32.toBitVec_not]
 ext i hi
 simp only[BitVec.getElem_xor,BitVec.getElem_or,BitVec.getElem_and,BitVec.getElem_not]
 cases a.toBitVec[i]<;>simp
theorem ao1_ (a b c:UInt32): (a&&&b^^^a&&&c^^^b&&&c)=(a&&&b|||a&&&c|||b&&&c):=by
 apply UInt32.toBitVec_inj.1
 simp only[UInt32.toBitVec_xor,UInt32.toBitVec_or,UInt32.toBitVec_and]
 ext i hi
 simp only[BitVec.getElem_xor,BitVec.getElem_or,BitVec.getElem_and]
 cases a.toBitVec[i]<;>cases b.toBitVec[i]<;>simp
def Glob (w:World):Prop:= ∃e0 e1 f0 f1,w.heap[0]? =some (.cells (a32 initL) e0 f0)∧w.heap[1]? =some (.cells (a32 kL) e1 f1)
theorem Glob.of {w0 w:World} {L:ze_} (hg:Glob w0) (h:Hp w0 L w) (hk: ∀b,b∈keys L→1<b):Glob w:=by
 obtain⟨e0,e1,f0,f1,h0,h1⟩:=hg
 refine⟨e0,e1,f0,f1, ?_, ?_⟩
 ·rw[h.old 0 (Array.getElem?_eq_some_iff.1 h0).1 (fun hm=>by have:=hk 0 hm;omega)];exact h0
 ·rw[h.old 1 (Array.getElem?_eq_some_iff.1 h1).1 (fun hm=>by have:=hk 1 hm;omega)];exact h1
structure Hs where
 st:List UInt32
 rest:List UInt8
 many:Nat
structure Hs.Ok (s:Hs):Prop where
 st:s.st.length=8
 rest:s.rest.length=64
 many:s.many<64
def KP_ (s:Hs) (x:UInt8):Hs:=
 if s.many+1=64 then⟨comp s.st (s.rest.set s.many x),s.rest.set s.many x,0⟩ else⟨s.st,s.rest.set s.many x,s.many+1⟩
theorem WH_ {s:Hs} (x:UInt8) (h:s.Ok): (KP_ s x).Ok:=by
 unfold KP_
 split
 ·exact⟨ZK_ _ _,by simp[h.rest],by show(0:Nat)<64;omega⟩
 ·exact⟨h.st,by simp[h.rest],by show s.many+1<64;have:=h.many;omega⟩
def jb_ (s:Hs) (l:List UInt8):Hs:=l.foldl KP_ s
theorem vW_ {s:Hs} (l:List UInt8) (h:s.Ok): (jb_ s l).Ok:=by
 induction l generalizing s with
 |nil=>exact h
 |cons x r ih=>exact ih (WH_ x h)
theorem xc_ (s:Hs) (a b:List UInt8):jb_ s (a++b)=jb_ (jb_ s a) b:=List.foldl_append
theorem vd_ {α:Type} (l:List α) (g:Nat) (d:α) (h:g<l.length):l.take (g+1)=l.take g++ [l.getD g d]:=by
 rw[List.take_add_one]
 simp[List.getD_eq_getElem?_getD,h]
theorem Wa_ (s:Hs) (l:List UInt8) (g:Nat) (h:g<l.length):jb_ s (l.take (g+1))=KP_ (jb_ s (l.take g)) (l.getD g 0):=by
 rw[vd_ l g 0 h,xc_];rfl
def Zw_ (bg:Bool) (s:Hs):Hs:=if bg then s else{s with st:=initL}
theorem abb_ {s:Hs} (bg:Bool) (h:s.Ok): (Zw_ bg s).Ok:=by
 unfold Zw_;split
 ·exact h
 ·exact⟨rfl,h.rest,h.many⟩
def k6_ (s:Hs) (taken:UInt64):Array Value:=zQ_ true s.st s.rest s.many taken
def vB_ (t:UInt64) (l:List (List UInt8)):UInt64:=l.foldl (fun t a=>t+UInt64.ofNat a.length) t
theorem adE_ (t:UInt64) (l:List (List UInt8)) (g:Nat) (h:g<l.length):vB_ t (l.take (g+1))=vB_ t (l.take g)+UInt64.ofNat (l.getD g []).length:=by
 rw[vd_ l g [] h,vB_,List.foldl_append];rfl
theorem aa8_ (l:List (List UInt8)) (g:Nat) (h:g<l.length): (l.take (g+1)).flatten=(l.take g).flatten++l.getD g []:=by
 rw[vd_ l g [] h,List.flatten_append];simp
theorem loadV_one (cs:Array Value) (E:TypeId) (fz:Nat×Nat) (n i:Nat):zs_ (some (false,n)) (some (.cells cs E fz)) i=cs[i]? :=(rfl)
structure Strs (w:World) (v:Value) (l:List (List UInt8)):Prop where
 nil_or: (l= []∧v= .slice none 0 0)∨ ∃b off c arr E fz,v=vsl b off l.length c∧w.heap[b]? =some (.cells arr E fz)∧ ∀i,i<l.length→arr[off+i]? =some (vs (l.getD i []))
end Go.Dig
section
open Go Go.Proofs Go.Sx Go.Dig
namespace Go.Proofs
set_option maxRecDepth 10000
set_option maxHeartbeats 4000000
set_option linter.unusedSimpArgs false
def GlobE (w:World):Prop:= ∃e0 e1 f0 f1,w.heap[2]? =some (.cells (a32 initL) e0 f0)∧w.heap[3]? =some (.cells (a32 kL) e1 f1)
theorem GlobE.of {w0 w:World} {L:ze_} (hg:GlobE w0) (h:Hp w0 L w) (hk: ∀b,b∈keys L→3<b):GlobE w:=by
 obtain⟨e0,e1,f0,f1,h0,h1⟩:=hg
 refine⟨e0,e1,f0,f1, ?_, ?_⟩
 ·rw[h.old _ (Array.getElem?_eq_some_iff.1 h0).1 (fun hm=>by have:=hk _ hm;omega)];exact h0
 ·rw[h.old _ (Array.getElem?_eq_some_iff.1 h1).1 (fun hm=>by have:=hk _ hm;omega)];exact h1
theorem wX_ (x:UInt32) (k:Int) (w:World):Rets Tryz.prog 243 #[v32 x,vi k] w (fun v D=>v=v32 (rol x k)∧D= []):=by
 refine Rets.enterV Tryz.func243 rfl (rs:= [.tmp 4]) Tryz.results243 Tryz.ntmps243 ?_
 refine kf ?_
 first|with_reducible refine ks [] @Nat.add_zero ?_|refine kp @Nat.add_zero ?_
 refine⟨_,(ke @Nat.add_zero),trivial, ?_⟩
 rfl
theorem jk_ (x:UInt32) (n:UInt64) (w:World):Rets Tryz.prog 190 #[v32 x,v64 n] w (fun v D=>v=v32 (rgt x n)∧D= []):=by
 refine Rets.enterV Tryz.func190 rfl (rs:= [.tmp 4]) Tryz.results190 Tryz.ntmps190 ?_
 refine kf ?_
 first|with_reducible refine ks [] @Nat.add_zero ?_|refine kp @Nat.add_zero ?_
 refine⟨_,(ke @Nat.add_zero),trivial, ?_⟩
 rfl
theorem ab4_ (x:UInt32) (a b c:Int) (ha:0≤a∧a≤64) (hb:0≤b∧b≤64) (hc:0≤c∧c≤64) (w:World):Rets Tryz.prog 239 #[v32 x,vi a,vi b,vi c] w (fun v D=>v=v32 (akD_ x a b c)∧D= []):=by
 refine Rets.enterV Tryz.func239 rfl (rs:= [.tmp 8]) Tryz.results239 Tryz.ntmps239 ?_
 refine kf ?_
 first|with_reducible refine ks [] @Nat.add_zero ?_|refine kp @Nat.add_zero ?_
 refine Cw.regionO [0,1,2,4,5,6,9,10,11,3,7,8,12,13] [] rfl (by kernel_rfl) (by kernel_rfl) ?_
 simp only[zg_, ↓zd_, ↓zb_, ↓zp_, ↓zq_,za_]
 refine kq @Nat.add_zero ?_
 refine Ow.callFV rfl Tryz.call243 (fun w' hw'=>wX_ _ _ w') ?_
 refine kq @Nat.add_zero ?_
 refine Ow.callFV rfl Tryz.call243 (fun w' hw'=>wX_ _ _ w') ?_
 refine kq @Nat.add_zero ?_
 first|with_reducible refine ks [] @Nat.add_zero ?_|refine kp @Nat.add_zero ?_
 refine⟨_,(ke @Nat.add_zero),trivial, ?_⟩
 rfl
theorem abg_ (x:UInt32) (a b c:Int) (ha:0≤a∧a≤64) (hb:0≤b∧b≤64) (hc:0≤c∧c≤64) (w:World):Rets Tryz.prog 240 #[v32 x,vi a,vi b,vi c] w (fun v D=>v=v32 (aiI_ x a b c)∧D= []):=by
 refine Rets.enterV Tryz.func240 rfl (rs:= [.tmp 8]) Tryz.results240 Tryz.ntmps240 ?_
 refine kf ?_
 first|with_reducible refine ks [] @Nat.add_zero ?_|refine kp @Nat.add_zero ?_
 refine Ow.callFV rfl Tryz.call243 (fun w' hw'=>wX_ _ _ w') ?_
 refine ko @Nat.add_zero ?_
 refine Ow.callFV rfl Tryz.call243 (fun w' hw'=>wX_ _ _ w') ?_
 refine ko @Nat.add_zero ?_
 refine Ow.callFV rfl Tryz.call243 (fun w' hw'=>wX_ _ _ w') ?_
 refine ko @Nat.add_zero ?_
 first|with_reducible refine ks [] @Nat.add_zero ?_|refine kp @Nat.add_zero ?_
 refine⟨_,(ke @Nat.add_zero),trivial, ?_⟩
 rfl
theorem acW_ (w:World):Rets Tryz.prog 191 #[] w (fun v D=>v= .agg (a32 kL)∧D= []):=by
 refine Rets.enterV Tryz.func191 rfl (rs:= [.cell 0 274]) Tryz.results191 Tryz.ntmps191 ?_
 refine kf ?_
 first|with_reducible refine ks [] @Nat.add_zero ?_|refine kp @Nat.add_zero ?_
 have hkl:kL.length=64:=rfl
 refine Ow.alloc rfl rfl Tryz.zr274 fun b1 _ hw1=> ?_
 refine ko @Nat.add_zero ?_
 first|with_reducible refine ks [] @Nat.add_zero ?_|refine kp @Nat.add_zero ?_
 refine Ow.build (.agg (a32 kL)) rfl (by kernel_rfl) ?_
 refine ko @Nat.add_zero ?_
 first|with_reducible refine ks [] @Nat.add_zero ?_|refine kp @Nat.add_zero ?_
 refine⟨_,(ke @Nat.add_zero),⟨hw1,trivial⟩, ?_⟩
 rfl
end Go.Proofs
end
section
open Go Go.Proofs Go.Sx Go.Dig
namespace Go.Proofs
set_option maxRecDepth 10000
set_option maxHeartbeats 4000000
set_option linter.unusedSimpArgs false
set_option linter.defProp false
def qk_:=And.intro (And.intro (And.intro (And.intro (@Zd_) (@w8_)) (And.intro (@Zj_) (@wa_))) (And.intro (And.intro (@Zh_) (@Za_)) (And.intro (@vN_) (@k2_)))) (And.intro (And.intro (And.intro (@xk_) (@v9_)) (And.intro (@v2_) (@vL_))) (And.intro (And.intro (@v7_) (@vZ_)) (And.intro (@k1_) (@jE_))))
theorem aiC_ (b:Nat) (bg:Bool) (st:List UInt32) (rest:List UInt8) (many:Int) (taken:UInt64) (w:World) (hG:GlobE w) (hb:3<b) (hs:st.length=8) (hr:rest.length=64)
  (ho:w.heap[b]? =some (.cells (zQ_ bg st rest many taken) 260 (0,0))):
  Rets Tryz.prog 232 #[vp b 0] w (fun v D=> ∃o,D= [(b,o)]∧v= .tuple #[]∧o= .cells (zQ_ bg (comp st rest) rest 0 taken) 260 (0,0)):=by
 obtain⟨e0,e1,f0,f1,h0,h1⟩:=hG
 have hbl:=(Array.getElem?_eq_some_iff.1 ho).1
 have hkl:kL.length=64:=rfl
 refine Rets.enterM Tryz.func232 rfl (rs:= []) Tryz.results232 Tryz.ntmps232 ho ?_
 refine kf ?_
 first|with_reducible refine ks [] @qk_ ?_|refine kp @qk_ ?_
 refine Ow.alloc rfl rfl Tryz.zr274 fun b1 hb1 hw1=> ?_
 obtain⟨h01,-⟩:=hb1
 refine ko @qk_ ?_
 first|with_reducible refine ks [] @qk_ ?_|refine kp @qk_ ?_
 rw[←abM_ rest]
 refine Cw.loopG (G:=Nat) [14,15,3,16,17,18,19,20,21,22,23,24,25,26,27,28,29,5,30,31,32,33,34,35,36,37,38,39,40,13] (fun g=> [(13,vi g)]) (fun g=> [(b, .cells (zQ_ bg st rest many taken) 260),(b1, .cells (a32 (VJ_ rest g)) 274)]) (fun g=>g≤16) (fun g=>16 - g) 0 rfl rfl ?_ ?_
 ·omega
 intro g j hg
 refine kv ?_
 have hlen:=vJ_ rest g
 by_cases hlt:g<16
 ·first|with_reducible refine ks [] @qk_ ?_|refine kp @qk_ ?_
  rw[akz_ rest g]
  refine Cw.loopG (G:=Nat) [27,28,29,5,30,31,32,33,34,35,36,37,38,39,26] (fun k=> [(26,vi k)]) (fun k=> [(b, .cells (zQ_ bg st rest many taken) 260 (0,0)),(b1, .cells (a32 ((VJ_ rest g).set g (acc rest g k))) 274 (0,0))]) (fun k=>k≤4) (fun k=>4 - k) 0 rfl rfl ?_ ?_
  ·omega
  intro k jk hk
  refine kv ?_
  by_cases hk4:k<4
  ·first|with_reducible refine ks [] @qk_ ?_|refine kp @qk_ ?_
   exact Again.mk (k+1) (by omega) (by omega) rfl rfl
  ·have hk:k=4:=by omega
   subst hk
   first|with_reducible refine ks [] @qk_ ?_|refine kp @qk_ ?_
   refine Again.mk (g+1) (by omega) (by omega) ?_ rfl
   rw[alV_,abH_]
 ·have hg16:g=16:=by omega
  subst hg16
  first|with_reducible refine ks [] @qk_ ?_|refine kp @qk_ ?_
  rw[afk_]
  refine Cw.loopG (G:=Nat) [41,42,45,46,47,48,49,50,51,52,53,54,55,56,57,58,59,60,61,62,63,64,65,66,67,43,44,6] (fun g=> [(6,vi g)]) (fun g=> [(b, .cells (zQ_ bg st rest many taken) 260 (0,0)),(b1, .cells (a32 (wG rest g)) 274)]) (fun g=>16≤g∧g≤64) (fun g=>64 - g) 16 rfl rfl ?_ ?_
  ·omega
  intro g j hg
  refine kv ?_
  obtain⟨hg1,hg2⟩:=hg
  have hlen:=abX_ rest g
  by_cases hlt:g<64
  ·first|with_reducible refine ks [] @qk_ ?_|refine kp @qk_ ?_
   refine Cw.regionO [0,1,2,3,6,7,8,11,12,13,17,18,19,4,9,14,20,5,10,15,16,21,22,23] [23] rfl (by kernel_rfl) (by kernel_rfl) ?_
   simp only[zg_, ↓zd_, ↓zb_, ↓zp_, ↓zq_,za_]
   refine kq @qk_ ?_
   refine Ow.callFV rfl Tryz.call239 (fun w' hw'=>ab4_ _ _ _ _ (by omega) (by omega) (by omega) w') ?_
   refine kq @qk_ ?_
   refine Ow.callFV rfl Tryz.call239 (fun w' hw'=>ab4_ _ _ _ _ (by omega) (by omega) (by omega) w') ?_
   refine kq @qk_ ?_
   refine Ow.store rfl rfl rfl (ke @qk_) ?_
   refine ko @qk_ ?_
   first|with_reducible refine ks [] @qk_ ?_|refine kp @qk_ ?_
   refine Again.mk (g+1) (by omega) (by omega) ?_ rfl
   rw[aiB_ rest g hg1,ar0_,arW_];rfl
  ·have hg64:g=64:=by omega
   subst hg64
   rw[anK_]
   have hwl:=Xb_ rest
   first|with_reducible refine ks [] (And.intro @qk_ @h1) ?_|refine kp (And.intro @qk_ @h1) ?_
   refine Ow.alloc rfl rfl Tryz.zr244 fun b2 hb2 hw2=> ?_
   obtain⟨h02,h12,-⟩:=hb2
   refine ko (And.intro @qk_ @h1) ?_
   first|with_reducible refine ks [] (And.intro @qk_ @h1) ?_|refine kp (And.intro @qk_ @h1) ?_
   refine Cw.loopG (G:=Nat) [74,75,76,8,9,77,78,79,80,81,82,83,84,85,86,87,88,89,90,91,92,93,94,95,96,97,98,99,100,101,10,102,103,104,105,106,107,108,109,110,111,112,113,114,115,116,117,118,119,120,121,122,11,123,124,125,126,127,128,129,130,131,132,133,134,135,136,137,138,139,140,141,142,143,73] (fun g=> [(73,vi g)]) (fun g=> [(b, .cells (zQ_ bg st rest many taken) 260 (0,0)),(b1, .cells (a32 (wAll rest)) 274),(b2, .cells (a32 (rGo st (wAll rest) g)) 244)]) (fun g=>g≤64) (fun g=>64 - g) 0 rfl rfl ?_ ?_
   ·omega
   ·intro g j hg
    refine kv ?_
    have hrl:=agE_ st (wAll rest) g hs
    by_cases hlt:g<64
    ·first|with_reducible refine ks [] @qk_ ?_|refine kp @qk_ ?_
     refine Cw.regionO [0,2,6,8,11,14,19,21,22,1,3,7,9,10,12,13,15,16,17,23,4,5,18,20,24,25] [] rfl (by kernel_rfl) (by kernel_rfl) ?_
     simp only[zg_, ↓zd_, ↓zb_, ↓zp_, ↓zq_,za_]
     refine kq @qk_ ?_
     refine Ow.callFV rfl Tryz.call240 (fun w' hw'=>abg_ _ _ _ _ (by omega) (by omega) (by omega) w') ?_
     refine kq @qk_ ?_
     first|with_reducible refine ks [] @qk_ ?_|refine kp @qk_ ?_
     refine Cw.regionO [0,3,5,8,10,14,16,1,4,6,7,9,11,12,13,15,17,18,19,2,20,21] [] rfl (by kernel_rfl) (by kernel_rfl) ?_
     simp only[zg_, ↓zd_, ↓zb_, ↓zp_, ↓zq_,za_]
     refine kq @qk_ ?_
     refine Ow.callFV rfl Tryz.call240 (fun w' hw'=>abg_ _ _ _ _ (by omega) (by omega) (by omega) w') ?_
     refine kq @qk_ ?_
     first|with_reducible refine ks [] @qk_ ?_|refine kp @qk_ ?_
     rw[arV_,arP_,aql_,ao1_]
     refine Ow.build (.agg (a32 (an0_ (rGo st (wAll rest) g) (kL.getD g 0) ((wAll rest).getD g 0)))) rfl (by kernel_rfl) ?_
     have hrl2: (an0_ (rGo st (wAll rest) g) (kL.getD g 0) ((wAll rest).getD g 0)).length=8:=rfl
     refine ko @qk_ ?_
     first|with_reducible refine ks [] @qk_ ?_|refine kp @qk_ ?_
     exact Again.mk (g+1) (by omega) (by omega) rfl rfl
    ·have hg64:g=64:=by omega
     subst hg64
     first|with_reducible refine ks [] @qk_ ?_|refine kp @qk_ ?_
     rw[←acF_ st (rGo st (wAll rest) 64) hs]
     refine Cw.loopG (G:=Nat) [145,146,12,147,148,149,150,151,152,153,154,155,156,157,158,159,160,144] (fun k=> [(144,vi k)]) (fun k=> [(b, .cells (zQ_ bg (x6_ st (rGo st (wAll rest) 64) k) rest many taken) 260 (0,0)),(b1, .cells (a32 (wAll rest)) 274),(b2, .cells (a32 (rGo st (wAll rest) 64)) 244)]) (fun k=>k≤8) (fun k=>8 - k) 0 rfl rfl ?_ ?_
     ·omega
     intro k jk hk
     refine kv ?_
     have hal:=QD_ st (rGo st (wAll rest) 64) k
     by_cases hk8:k<8
     ·first|with_reducible refine ks [] @qk_ ?_|refine kp @qk_ ?_
      refine Cw.regionO [0,1,2,3,4,6,7,10,11,5,8,9,12,13] [13] rfl (by kernel_rfl) (by kernel_rfl) ?_
      simp only[zg_, ↓zd_, ↓zb_, ↓zp_, ↓zq_,za_]
      refine kq @qk_ ?_
      refine Ow.store rfl rfl rfl (ke @qk_) ?_
      refine ko @qk_ ?_
      first|with_reducible refine ks [] @qk_ ?_|refine kp @qk_ ?_
      refine Again.mk (k+1) (by omega) (by omega) ?_ rfl
      rw[←aeK_,ag5_ _ _ _ _ (by omega),if_neg (by omega)]
     ·have hk8':k=8:=by omega
      subst hk8'
      first|with_reducible refine ks [] @qk_ ?_|refine kp @qk_ ?_
      refine⟨_,_,_,(ke @qk_),rfl,⟨hw1,hw2,trivial⟩, ?_⟩
      exact⟨rfl,rfl⟩
end Go.Proofs
end
section
open Go Go.Proofs Go.Sx Go.Dig
namespace Go.Proofs
set_option maxRecDepth 10000
set_option maxHeartbeats 1000000
set_option linter.unusedSimpArgs false
theorem XZ_ (n:Nat):UInt64.ofInt (n:Int)=UInt64.ofNat n:=by
 apply UInt64.toNat.inj
 rw[show UInt64.ofInt (n:Int)=UInt64.ofNat ((n:Int)%2^64).toNat from rfl,UInt64.toNat_ofNat',UInt64.toNat_ofNat']
 omega
theorem apc_ (b o:Nat):qO_ Tryz.prog .eql 295 (vp b o) (.pointer none)=some (.bool false):=by
 simp[qO_,eqX,qH_,qI_,Tryz.underlying295,vp]
theorem aiF_:qO_ Tryz.prog .eql 295 (.pointer none) (.pointer none)=some (.bool true):=by
 simp[qO_,eqX,qH_,qI_,Tryz.underlying295]
theorem ajf_ (b o:Nat):qO_ Tryz.prog .neq 295 (vp b o) (.pointer none)=some (.bool true):=by
 simp[qO_,eqX,qH_,qI_,Tryz.underlying295,vp]
theorem adi_:qO_ Tryz.prog .neq 295 (.pointer none) (.pointer none)=some (.bool false):=by
 simp[qO_,eqX,qH_,qI_,Tryz.underlying295]
set_option linter.defProp false
def jn_:=And.intro (And.intro (And.intro (And.intro (@Zd_) (@w8_)) (And.intro (@Zj_) (And.intro (@wa_) (@Zh_)))) (And.intro (And.intro (@Za_) (@vN_)) (And.intro (@k2_) (And.intro (@xk_) (@v9_))))) (And.intro (And.intro (And.intro (@v2_) (@vL_)) (And.intro (@v7_) (And.intro (@vZ_) (@k1_)))) (And.intro (And.intro (@jE_) (@apc_)) (And.intro (@aiF_) (And.intro (@ajf_) (@adi_)))))
theorem VH_ (b:Nat) (bg:Bool) (st:List UInt32) (rest:List UInt8) (many:Int) (taken:UInt64) (w:World) (hG:GlobE w) (hb:3<b) (hs:st.length=8) (hr:rest.length=64)
  (ho:w.heap[b]? =some (.cells (zQ_ bg st rest many taken) 260 (0,0))):
  Rets Tryz.prog 214 #[vp b 0] w (fun v D=> ∃o,D= [(b,o)]∧v= .tuple #[]∧o= .cells (zQ_ true (if bg then st else initL) rest many taken) 260 (0,0)):=by
 obtain⟨e0,e1,f0,f1,h0,h1⟩:=hG
 have hil:initL.length=8:=rfl
 refine Rets.enterM Tryz.func214 rfl (rs:= []) Tryz.results214 Tryz.ntmps214 ho ?_
 refine kf ?_
 cases bg
 ·first|with_reducible refine ks [] (And.intro @jn_ @h0) ?_|refine kp (And.intro @jn_ @h0) ?_
  refine⟨_,_,_,(ke @jn_),rfl,trivial, ?_⟩
  exact⟨rfl,rfl⟩
 ·first|with_reducible refine ks [] (And.intro @jn_ @h0) ?_|refine kp (And.intro @jn_ @h0) ?_
  refine⟨_,_,_,(ke @jn_),rfl,trivial, ?_⟩
  exact⟨rfl,rfl⟩
theorem JQ_ (b:Nat) (s:Hs) (taken:UInt64) (x:UInt8) (w:World) (hG:GlobE w) (hb:3<b) (hs:s.Ok)
  (ho:w.heap[b]? =some (.cells (k6_ s taken) 260 (0,0))):
  Rets Tryz.prog 215 #[vp b 0,v8 x] w (fun v D=> ∃o,D= [(b,o)]∧v= .tuple #[]∧o= .cells (k6_ (KP_ s x) taken) 260 (0,0)):=by
 obtain⟨st,rest,many⟩:=s
 obtain⟨hst,hrt,hmn⟩:=hs
 simp only[k6_] at ho hst hrt hmn ⊢
 refine Rets.enterM Tryz.func215 rfl (rs:= []) Tryz.results215 Tryz.ntmps215 ho ?_
 refine kf ?_
 first|with_reducible refine ks [] @jn_ ?_|refine kp @jn_ ?_
 refine Cw.regionO [0,1,2,3,5,6,7,4,8,9] [9] rfl (by kernel_rfl) (by kernel_rfl) ?_
 simp only[zg_, ↓zd_, ↓zb_, ↓zp_, ↓zq_,za_]
 refine kq @jn_ ?_
 refine Ow.store rfl rfl rfl (ke @jn_) ?_
 refine ko @jn_ ?_
 first|with_reducible refine ks [] @jn_ ?_|refine kp @jn_ ?_
 unfold KP_
 by_cases h64:many+1=64
 ·simp only[h64, ↓reduceIte]
  have h64': (many:Int)+1=64:=by omega
  have h63:many=63:=by omega
  subst h63
  rw[aqM_ _ _ _ _ _ _ (by omega)]
  first|with_reducible refine ks [] @jn_ ?_|refine kp @jn_ ?_
  refine Ow.callM rfl rfl Tryz.call232 (by simp[keys]) (fun w' hw'=>aiC_ _ _ _ _ _ _ w' (GlobE.of hG hw' (by simp[keys];omega)) hb hst (by simp[hrt]) (hw'.has _ _ List.mem_cons_self)) ?_
  refine ko @jn_ ?_
  first|with_reducible refine ks [] @jn_ ?_|refine kp @jn_ ?_
  refine⟨_,_,_,(ke @jn_),rfl,trivial, ?_⟩
  exact⟨rfl,rfl⟩
 ·rw[ap7_ _ _ _ _ _ _ (by omega)]
  simp only[h64, ↓reduceIte]
  first|with_reducible refine ks [] @jn_ ?_|refine kp @jn_ ?_
  refine⟨_,_,_,(ke @jn_),rfl,trivial, ?_⟩
  exact⟨rfl,by rw[if_neg h64];simp⟩
theorem acY_ (b:Nat) (bg:Bool) (s:Hs) (taken:UInt64) (x:Value) (b2 off:Nat) (l:List (List UInt8)) (arr:Array Value) (E:TypeId) (fz:Nat×Nat) (w:World) (hG:GlobE w) (hb:3<b) (hs:s.Ok) (hne:0<l.length→b≠b2)
  (hS:StrS w x l b2 off arr E fz) (hn:l.length<1099511627776) (hz: ∀i,i<l.length→(l.getD i []).length<1099511627776)
  (ho:w.heap[b]? =some (.cells (zQ_ bg s.st s.rest s.many taken) 260 (0,0))):
  Rets Tryz.prog 180 #[vp b 0,x] w (fun v D=> ∃o,D= [(b,o)]∧v= .tuple #[]∧o= .cells (k6_ (jb_ (Zw_ bg s) l.flatten) (vB_ taken l)) 260 (0,0)):=by
 obtain⟨e0,e1,f0,f1,h0,h1⟩:=id hG
 obtain⟨st,rest,many⟩:=s
 obtain⟨hst,hrt,hmn⟩:=id hs
 simp only[k6_] at ho hst hrt hmn ⊢
 refine Rets.enterM Tryz.func180 rfl (rs:= []) Tryz.results180 Tryz.ntmps180 ho ?_
 refine kf ?_
 first|with_reducible refine ks [] @jn_ ?_|refine kp @jn_ ?_
 refine Ow.callM rfl rfl Tryz.call214 (by simp[keys]) (fun w' hw'=>VH_ _ _ _ _ _ _ w' (GlobE.of hG hw' (by simp[keys];omega)) hb hst hrt (hw'.has _ _ List.mem_cons_self)) ?_
 refine ko @jn_ ?_
 ((try with_reducible refine Cw.go [] ?_);(try simp(disch:=(first|assumption|omega| (simp only[xg_,xe_,UInt64.reduceToNat];try omega))) only[↓Sx.S0,Sx.S1,Tryz.fx,jn_,Nat.reduceAdd,Nat.reducePow,Int.reducePow,Nat.reduceBEq, ↓reduceIte,UInt8.reduceToNat,UInt16.reduceToNat,UInt32.reduceToNat,UInt64.reduceToNat,Int.reduceToNat,hS.len]))
 have e:zQ_ true (if bg=true then st else initL) rest many taken=k6_ (jb_ (Zw_ bg ⟨st,rest,many⟩) (l.take 0).flatten) (vB_ taken (l.take 0)):=by cases bg<;>rfl
 rw[e]
 have hok0:=abb_ bg hs
 generalize Zw_ bg ⟨st,rest,many⟩=S0 at*
 refine Cw.loopG (G:=Nat) [14,15,16,5,17,18,19,20,21,6,22,23,24,25,26,27,28,29,30,31,32,33,34,35,36,37,38,13] (fun g=> [(13,vi g)]) (fun g=> [(b, .cells (k6_ (jb_ S0 (l.take g).flatten) (vB_ taken (l.take g))) 260 (0,0))]) (fun g=>g≤l.length) (fun g=>l.length - g) 0 rfl rfl ?_ ?_
 ·omega
 intro g j hg
 refine kv ?_
 by_cases hlt:g<l.length
 ·have hlg:=hS.get g hlt
  have hb2:=hS.has (by omega)
  have hne2:=hne (by omega)
  have hzg:=hz g hlt
  ((try with_reducible refine Cw.go [] ?_);(try simp(disch:=(first|assumption|omega| (simp only[xg_,xe_,UInt64.reduceToNat];try omega))) only[↓Sx.S0,Sx.S1,Tryz.fx,jn_,Nat.reduceAdd,Nat.reducePow,Int.reducePow,Nat.reduceBEq, ↓reduceIte,UInt8.reduceToNat,UInt16.reduceToNat,UInt32.reduceToNat,UInt64.reduceToNat,Int.reduceToNat,Sx.loadV_one,hb2,hlg,hS.idx]))
  have hok:=vW_ (l.take g).flatten hok0
  rw[show k6_ (jb_ S0 (l.take g).flatten) (vB_ taken (l.take g))=k6_ (jb_ (jb_ S0 (l.take g).flatten) ((l.getD g []).take 0)) (vB_ taken (l.take g)) from rfl]
  refine Cw.loopG (G:=Nat) [20,21,6,22,23,24,25,26,27,19] (fun k=> [(19,vi k)]) (fun k=> [(b, .cells (k6_ (jb_ (jb_ S0 (l.take g).flatten) ((l.getD g []).take k)) (vB_ taken (l.take g))) 260 (0,0))]) (fun k=>k≤ (l.getD g []).length) (fun k=>(l.getD g []).length - k) 0 rfl rfl ?_ ?_
  ·omega
  intro k jk hk
  refine kv ?_
  by_cases hlk:k< (l.getD g []).length
  ·first|with_reducible refine ks [] @jn_ ?_|refine kp @jn_ ?_
   refine Ow.callM rfl rfl Tryz.call215 (by simp[keys]) (fun w' hw'=>JQ_ _ _ _ _ w' (GlobE.of hG hw' (by simp[keys];omega)) hb (vW_ _ hok) (hw'.has _ _ List.mem_cons_self)) ?_
   refine ko @jn_ ?_
   first|with_reducible refine ks [] @jn_ ?_|refine kp @jn_ ?_
   refine Again.mk (k+1) (by omega) (by omega) ?_ rfl
   rw[Wa_ _ _ _ hlk]
  ·have hke:k=(l.getD g []).length:=by omega
   subst hke
   have hok2:=vW_ (l.getD g []) hok
   have hok3:=hok2.st
   have hok4:=hok2.rest
   rw[List.take_length]
   unfold k6_
   first|with_reducible refine ks [] @jn_ ?_|refine kp @jn_ ?_
   refine Again.mk (g+1) (by omega) (by omega) ?_ rfl
   rw[aa8_ _ _ hlt,xc_,adE_ _ _ _ hlt,show UInt64.ofInt ((l.getD g []).length:Int)=UInt64.ofNat (l.getD g []).length from XZ_ _]
 ·have hge:g=l.length:=by omega
  subst hge
  first|with_reducible refine ks [] @jn_ ?_|refine kp @jn_ ?_
  rw[List.take_length]
  refine⟨_,_,_,(ke @jn_),rfl,trivial, ?_⟩
  exact⟨rfl,rfl⟩
end Go.Proofs
end
namespace Go.Dig
open Go.Sx
def vu_ (m:Nat):Nat:=(120 - m)%64
def lenB (t:UInt64) (g:Nat):UInt8:=UInt8.ofNat (j9_ (8*t) (56 - 8*g)).toNat
def len8 (t:UInt64):List UInt8:=(List.range 8).map (lenB t)
def outB (st:List UInt32) (j:Nat):UInt8:=UInt8.ofNat (zU_ (st.getD (j / 4) 0) (24 - 8* (j%4))).toNat
def xs_ (st:List UInt32) (k:Nat):List UInt8:=(List.range 32).map fun j=>if j<k then outB st j else 0
def afC_ (s:Hs) (taken:UInt64):Hs:=jb_ (jb_ (KP_ s 128) (List.replicate (vu_ (KP_ s 128).many) 0)) (len8 taken)
def hsum (s:Hs) (taken:UInt64):List UInt8:=xs_ (afC_ s taken).st 32
def H0:Hs:=⟨initL,List.replicate 64 0,0⟩
theorem aqy_:H0.Ok:=⟨rfl,by simp[H0],by show(0:Nat)<64;omega⟩
def sumV (l:List (List UInt8)):List UInt8:=hsum (jb_ H0 l.flatten) (vB_ 0 l)
theorem ajC_ {s:Hs} (x:UInt8) (h:s.Ok): (KP_ s x).many=(s.many+1)%64:=by
 have:=h.many
 unfold KP_
 split
 ·show 0=_;omega
 ·show s.many+1=_;omega
theorem agK_ {s:Hs} (l:List UInt8) (h:s.Ok): (jb_ s l).many=(s.many+l.length)%64:=by
 induction l generalizing s with
 |nil=>have:=h.many;show s.many=_;simp;omega
 |cons x r ih=>
  show(jb_ (KP_ s x) r).many=_
  rw[ih (WH_ x h),ajC_ x h,List.length_cons];omega
theorem ah2_ (s:Hs) (x:UInt8) (j:Nat):jb_ s (List.replicate (j+1) x)=KP_ (jb_ s (List.replicate j x)) x:=by
 rw[List.replicate_succ',xc_];rfl
theorem outPre_length (st:List UInt32) (k:Nat): (xs_ st k).length=32:=by simp[xs_]
theorem X2_ (st:List UInt32):xs_ st 0=List.replicate 32 0:=by
 apply List.ext_getElem
 ·simp[xs_]
 intro k hk1 hk2
 simp only[xs_,List.getElem_map,List.getElem_range,List.getElem_replicate]
 rw[if_neg (by omega)]
theorem kE_ (st:List UInt32) (k:Nat): (xs_ st k).set k (outB st k)=xs_ st (k+1):=by
 apply List.ext_getElem
 ·simp[xs_]
 intro j hk1 hk2
 rw[List.getElem_set]
 by_cases h:k=j
 ·subst h;simp[xs_]
 ·rw[if_neg h]
  simp only[xs_,List.getElem_map,List.getElem_range]
  by_cases h1:j<k
  ·rw[if_pos h1,if_pos (by omega)]
  ·rw[if_neg h1,if_neg (by omega)]
theorem aam_ (st:List UInt32) (i r:Nat) (h:r<4):outB st (4*i+r)=UInt8.ofNat (zU_ (st.getD i 0) (24 - 8*r)).toNat:=by
 unfold outB
 rw[show(4*i+r) / 4=i by omega,show(4*i+r)%4=r by omega]
theorem acg_ (x:UInt32):zU_ x 0=x:=by
 apply UInt32.toNat.inj
 have:=x.toNat_lt
 rw[zU_,UInt32.toNat_ofNat']
 simp
theorem aem_ (st:List UInt32) (i:Nat):
  ((((xs_ st (4*i)).set (4*i) (UInt8.ofNat (zU_ (st.getD i 0) 24).toNat)).set (4*i+1) (UInt8.ofNat (zU_ (st.getD i 0) 16).toNat)).set (4*i+2) (UInt8.ofNat (zU_ (st.getD i 0) 8).toNat)).set (4*i+3) (UInt8.ofNat (st.getD i 0).toNat)=xs_ st (4* (i+1)):=by
 have h0:=aam_ st i 0 (by omega)
 have h1:=aam_ st i 1 (by omega)
 have h2:=aam_ st i 2 (by omega)
 have h3:=aam_ st i 3 (by omega)
 rw[Nat.add_zero] at h0
 rw[show 24 - 8*3=0 from rfl,acg_] at h3
 rw[←h3,←h2,←h1,←h0,kE_,kE_,kE_,kE_]
 rw[show 4* (i+1)=4*i+1+1+1+1 by omega]
theorem Xk_ (t:UInt64): (len8 t).length=8:=by simp[len8]
theorem akl_ (t:UInt64) (g:Nat) (h:g<8): (len8 t).getD g 0=lenB t g:=by simp[len8,List.getD_eq_getElem?_getD,h]
end Go.Dig
section
open Go Go.Proofs Go.Sx Go.Dig
namespace Go.Proofs
set_option maxRecDepth 10000
set_option maxHeartbeats 1000000
set_option linter.unusedSimpArgs false
set_option linter.defProp false
def jp_:=And.intro (And.intro (And.intro (And.intro (@Zd_) (@w8_)) (And.intro (@Zj_) (And.intro (@wa_) (@Zh_)))) (And.intro (And.intro (@Za_) (@vN_)) (And.intro (@k2_) (And.intro (@xk_) (@v9_))))) (And.intro (And.intro (And.intro (@v2_) (@vL_)) (And.intro (@v7_) (And.intro (@vZ_) (@k1_)))) (And.intro (And.intro (@jE_) (@apc_)) (And.intro (@aiF_) (And.intro (@ajf_) (@adi_)))))
theorem anN_:zE_ Tryz.prog 260=some (.agg (zQ_ false (List.replicate 8 0) (List.replicate 64 0) 0 0)):=id (by kernel_rfl)
theorem VM_ (bg:Bool) (st:List UInt32) (rest:List UInt8) (many:Int) (taken:UInt64):Value.cells (.agg (zQ_ bg st rest many taken))=zQ_ bg st rest many taken:=zc_ _
theorem ZE_ {bg bg':Bool} {st st':List UInt32} {rest rest':List UInt8} {many many':Int} {taken taken':UInt64} {E:TypeId} (h:st.length=8∧rest.length=64∧st'.length=8∧rest'.length=64):
  zl_ (some (true,75)) (some (.cells (zQ_ bg' st' rest' many' taken') E (0,0))) 0 (.agg (zQ_ bg st rest many taken))=some (.cells (zQ_ bg st rest many taken) E (0,0)):=
 xk_ _ ⟨h.1,h.2.1,j0_ h.2.2⟩
theorem ahR_ (b:Nat) (bg:Bool) (s:Hs) (taken:UInt64) (w:World) (hG:GlobE w) (hb:3<b) (hs:s.Ok)
  (ho:w.heap[b]? =some (.cells (zQ_ bg s.st s.rest s.many taken) 260 (0,0))):
  Rets Tryz.prog 181 #[vp b 0] w (fun v D=>v= .agg (a8 (hsum (Zw_ bg s) taken))∧D= []):=by
 obtain⟨e0,e1,f0,f1,h0,h1⟩:=id hG
 obtain⟨st,rest,many⟩:=s
 obtain⟨hst,hrt,hmn⟩:=id hs
 simp only at ho hst hrt hmn ⊢
 refine Rets.enterV Tryz.func181 rfl (rs:= [.cell 2 37]) Tryz.results181 Tryz.ntmps181 ?_
 refine kf ?_
 first|with_reducible refine ks [] @jp_ ?_|refine kp @jp_ ?_
 refine Ow.alloc rfl rfl Tryz.zr37 fun b1 hb1 hw1=> ?_
 refine ko @jp_ ?_
 first|with_reducible refine ks [] @jp_ ?_|refine kp @jp_ ?_
 refine Ow.alloc rfl rfl anN_ fun b2 hb2 hw2=> ?_
 obtain⟨h12,-⟩:=hb2
 have hbl:=(Array.getElem?_eq_some_iff.1 ho).1
 rw[VM_]
 refine ko @jp_ ?_
 first|with_reducible refine ks [] (And.intro @jp_ (And.intro @ho (@ZE_))) ?_|refine kp (And.intro @jp_ (And.intro @ho (@ZE_))) ?_
 refine Ow.callM rfl rfl Tryz.call214 (by simp[keys]) (fun w' hw'=>VH_ _ _ _ _ _ _ w' (GlobE.of hG hw' (by simp[keys];omega)) (by omega) hst hrt (hw'.has _ _ (List.mem_cons_of_mem _ List.mem_cons_self))) ?_
 refine ko @jp_ ?_
 first|with_reducible refine ks [] @jp_ ?_|refine kp @jp_ ?_
 have e:zQ_ true (if bg=true then st else initL) rest many taken=k6_ (Zw_ bg ⟨st,rest,many⟩) taken:=by cases bg<;>rfl
 rw[e]
 have hok0:=abb_ bg hs
 generalize Zw_ bg ⟨st,rest,many⟩=S0 at*
 refine Ow.callM rfl rfl Tryz.call215 (by simp[keys]) (fun w' hw'=>JQ_ _ _ _ 128 w' (GlobE.of hG hw' (by simp[keys];omega)) (by omega) hok0 (hw'.has _ _ (List.mem_cons_of_mem _ List.mem_cons_self))) ?_
 refine ko @jp_ ?_
 have hok1:=WH_ 128 hok0
 have ep:afC_ S0 taken=jb_ (jb_ (KP_ S0 128) (List.replicate (vu_ (KP_ S0 128).many) 0)) (len8 taken):=rfl
 unfold hsum
 rw[ep]
 generalize KP_ S0 128=S1 at*
 first|with_reducible refine ks [] @jp_ ?_|refine kp @jp_ ?_
 rw[show k6_ S1 taken=k6_ (jb_ S1 (List.replicate 0 0)) taken from rfl]
 have hz: (S1.many+vu_ S1.many)%64=56∧vu_ S1.many<64:=by have:=hok1.many;unfold vu_;omega
 refine Cw.loopG (G:=Nat) [15,16,17,18] (fun g=> []) (fun g=> [(b1, .cells (a8 (List.replicate 32 0)) 37 (0,0)),(b2, .cells (k6_ (jb_ S1 (List.replicate g 0)) taken) 260 (0,0))]) (fun g=>g≤vu_ S1.many) (fun g=>vu_ S1.many - g) 0 rfl rfl ?_ ?_
 ·omega
 intro g j hg
 refine kv ?_
 have hokg:=vW_ (List.replicate g 0) hok1
 have hm:=agK_ (List.replicate g 0) hok1
 rw[List.length_replicate] at hm
 have hg1:=hokg.st
 have hg2:=hokg.rest
 by_cases hlt:g<vu_ S1.many
 ·have hzz: (S1.many+g)%64≠56:=by have:=hok1.many;unfold vu_ at hlt;omega
  unfold k6_
  first|with_reducible refine ks [] @jp_ ?_|refine kp @jp_ ?_
  refine Ow.callM rfl rfl Tryz.call215 (by simp[keys]) (fun w' hw'=>JQ_ _ _ _ 0 w' (GlobE.of hG hw' (by simp[keys];omega)) (by omega) hokg (hw'.has _ _ (List.mem_cons_of_mem _ List.mem_cons_self))) ?_
  refine ko @jp_ ?_
  first|with_reducible refine ks [] @jp_ ?_|refine kp @jp_ ?_
  refine Again.mk (g+1) (by omega) (by omega) ?_ rfl
  rw[ah2_];rfl
 ·have hge:g=vu_ S1.many:=by omega
  subst hge
  unfold k6_
  first|with_reducible refine ks [] @jp_ ?_|refine kp @jp_ ?_
  generalize jb_ S1 (List.replicate (vu_ S1.many) 0)=S2 at*
  rw[show zQ_ true S2.st S2.rest S2.many taken=k6_ (jb_ S2 ((len8 taken).take 0)) taken from rfl]
  have h8:=Xk_ taken
  refine Cw.loopG (G:=Nat) [19,20,23,24,25,26,27,28,29,21,22,4] (fun k=> [(4,vi (56 - 8*k))]) (fun k=> [(b1, .cells (a8 (List.replicate 32 0)) 37 (0,0)),(b2, .cells (k6_ (jb_ S2 ((len8 taken).take k)) taken) 260 (0,0))]) (fun k=>k≤8) (fun k=>8 - k) 0 rfl rfl ?_ ?_
  ·omega
  intro k jk hk
  refine kv ?_
  have hokk:=vW_ ((len8 taken).take k) hokg
  have hk1:=hokk.st
  have hk2:=hokk.rest
  by_cases hk8:k<8
  ·unfold k6_
   first|with_reducible refine ks [] @jp_ ?_|refine kp @jp_ ?_
   rw[show(56 - 8* (k:Int)).toNat=56 - 8*k from by omega]
   refine Ow.callM rfl rfl Tryz.call215 (by simp[keys]) (fun w' hw'=>JQ_ _ _ _ (lenB taken k) w' (GlobE.of hG hw' (by simp[keys];omega)) (by omega) hokk (hw'.has _ _ (List.mem_cons_of_mem _ List.mem_cons_self))) ?_
   refine ko @jp_ ?_
   first|with_reducible refine ks [] @jp_ ?_|refine kp @jp_ ?_
   refine Again.mk (k+1) (by omega) (by omega) ?_ ?_
   ·rw[Wa_ _ _ _ (by omega),akl_ _ _ hk8];rfl
   ·rw[show(56 - 8* ((k+1:Nat):Int))=56 - 8* (k:Int) - 8 from by omega];rfl
  ·have hke:k=8:=by omega
   subst hke
   first|with_reducible refine ks [] @jp_ ?_|refine kp @jp_ ?_
   rw[List.take_of_length_le (show(len8 taken).length≤8 by omega)] at*
   generalize jb_ S2 (len8 taken)=S3 at*
   refine Ow.alloc rfl rfl Tryz.zr37 fun b3 hb3 hw3=> ?_
   obtain⟨h13,h23,-⟩:=hb3
   unfold k6_
   refine ko @jp_ ?_
   first|with_reducible refine ks [] @jp_ ?_|refine kp @jp_ ?_
   rw[show a8 (List.replicate 32 0)=a8 (xs_ S3.st (4*0)) from by rw[X2_]]
   have h3s:=(vW_ (len8 taken) hokg).st
   have hS3:S3.st.length=8:=hk1
   refine Cw.loopG (G:=Nat) [33,34,35,6,7,36,37,38,39,40,41,42,43,44,45,46,47,48,49,50,51,52,53,54,55,56,57,58,59,60,61,62,32] (fun i=> [(32,vi i)]) (fun i=> [(b1, .cells (a8 (xs_ S3.st (4*0))) 37 (0,0)),(b2, .cells (zQ_ true S3.st S3.rest S3.many taken) 260 (0,0)),(b3, .cells (a8 (xs_ S3.st (4*i))) 37 (0,0))]) (fun i=>i≤8) (fun i=>8 - i) 0 rfl rfl ?_ ?_
   ·omega
   intro i ji hi
   refine kv ?_
   have hol:=outPre_length S3.st (4*i)
   have hol0:=outPre_length S3.st (4*0)
   by_cases hi8:i<8
   ·first|with_reducible refine ks [] @jp_ ?_|refine kp @jp_ ?_
    refine Again.mk (i+1) (by omega) (by omega) ?_ rfl
    rw[aem_]
   ·have hie:i=8:=by omega
    subst hie
    first|with_reducible refine ks [] @jp_ ?_|refine kp @jp_ ?_
    rw[show 4*8=32 from rfl]
    refine⟨_,(ke @jp_),⟨hw1,hw2,hw3,trivial⟩, ?_⟩
    rfl
end Go.Proofs
end
section
open Go Go.Proofs Go.Sx Go.Dig
namespace Go.Proofs
set_option maxRecDepth 10000
set_option maxHeartbeats 1000000
set_option linter.unusedSimpArgs false
set_option linter.defProp false
def ZS_:=And.intro (And.intro (And.intro (And.intro (@Zd_) (@w8_)) (And.intro (@Zj_) (And.intro (@wa_) (@Zh_)))) (And.intro (And.intro (@Za_) (@vN_)) (And.intro (@k2_) (And.intro (@xk_) (@v9_))))) (And.intro (And.intro (And.intro (@v2_) (@vL_)) (And.intro (@v7_) (And.intro (@vZ_) (@k1_)))) (And.intro (And.intro (@jE_) (@apc_)) (And.intro (@aiF_) (And.intro (@ajf_) (@adi_)))))
theorem akB_ (x:Value) (b2 off:Nat) (l:List (List UInt8)) (arr:Array Value) (E:TypeId) (fz:Nat×Nat) (w:World) (hG:GlobE w)
  (hS:StrS w x l b2 off arr E fz) (hn:l.length<1099511627776) (hz: ∀i,i<l.length→(l.getD i []).length<1099511627776):
  Rets Tryz.prog 160 #[x] w (fun v D=>v= .agg (a8 (sumV l))∧D= []):=by
 obtain⟨e0,e1,f0,f1,h0,h1⟩:=id hG
 have hg1:3<w.heap.size:=(Array.getElem?_eq_some_iff.1 h1).1
 have hbl:0<l.length→b2<w.heap.size:=fun h=>(Array.getElem?_eq_some_iff.1 (hS.has h)).1
 refine Rets.enterV Tryz.func160 rfl (rs:= [.cell 2 37]) Tryz.results160 Tryz.ntmps160 ?_
 refine kf ?_
 first|with_reducible refine ks [] @ZS_ ?_|refine kp @ZS_ ?_
 refine Ow.alloc rfl rfl Tryz.zr37 fun b1 hb1 hw1=> ?_
 refine ko @ZS_ ?_
 first|with_reducible refine ks [] @ZS_ ?_|refine kp @ZS_ ?_
 refine Ow.alloc rfl rfl anN_ fun b3 hb3 hw3=> ?_
 obtain⟨h13,-⟩:=hb3
 rw[VM_]
 refine ko @ZS_ ?_
 first|with_reducible refine ks [] @ZS_ ?_|refine kp @ZS_ ?_
 refine Ow.callM rfl rfl Tryz.call180 (by simp[keys]) (fun w' hw'=>acY_ _ _ ⟨List.replicate 8 0,List.replicate 64 0,0⟩ _ _ _ _ _ _ _ _ w' (GlobE.of hG hw' (by simp[keys];omega)) (by omega) ⟨by simp,by simp,by simp⟩ (fun h=>by have:=hbl h;omega) (hS.old hw' (fun h=>by have:=hbl h;simp[keys];omega)) hn hz (hw'.has _ _ (List.mem_cons_of_mem _ List.mem_cons_self))) ?_
 refine ko @ZS_ ?_
 first|with_reducible refine ks [] @ZS_ ?_|refine kp @ZS_ ?_
 have hok:=vW_ l.flatten aqy_
 have e:Zw_ false ⟨List.replicate 8 0,List.replicate 64 0,0⟩=H0:=rfl
 rw[e]
 refine Ow.callFV rfl Tryz.call181 (fun w' hw'=>ahR_ _ true _ _ w' (GlobE.of hG hw' (by simp[keys];omega)) (by omega) hok (hw'.has _ _ (List.mem_cons_of_mem _ List.mem_cons_self))) ?_
 have hsl: (hsum (Zw_ true (jb_ H0 l.flatten)) (vB_ 0 l)).length=32:=outPre_length _ _
 refine ko @ZS_ ?_
 first|with_reducible refine ks [] @ZS_ ?_|refine kp @ZS_ ?_
 refine⟨_,(ke @ZS_),⟨hw1,hw3,trivial⟩, ?_⟩
 rfl
end Go.Proofs
end
namespace Go.Dig
open Go.Sx
def quoN (t:UInt64):Nat→UInt64
 |0=>t
 |n+1=>quoN t n / 256
theorem agW_ (t:UInt64) (n:Nat): (quoN t n).toNat=t.toNat / 256^n:=by
 induction n with
 |zero=>simp[quoN]
 |succ n ih=>
  show(quoN t n / 256).toNat=_
  rw[UInt64.toNat_div,ih,Nat.pow_succ,Nat.div_div_eq_div_mul];rfl
def aob_ (t:UInt64) (j:Nat):UInt8:=UInt8.ofNat (j9_ t (56 - 8*j)).toNat
theorem alO_ (t:UInt64) (i:Nat) (h:i<8):UInt8.ofNat (quoN t i%256).toNat=aob_ t (7 - i):=by
 apply UInt8.toNat.inj
 unfold aob_
 rw[UInt8.toNat_ofNat',UInt8.toNat_ofNat',UInt64.toNat_mod,agW_,j9_,UInt64.toNat_ofNat']
 have e:56 - 8* (7 - i)=8*i:=by omega
 have ht:=t.toNat_lt
 have hd:t.toNat / 2^ (8*i)≤t.toNat:=Nat.div_le_self _ _
 rw[e,Nat.mod_eq_of_lt (a:=t.toNat / 2^ (8*i)) (by omega)]
 have e2:256^i=2^ (8*i):=by rw[Nat.pow_mul]
 rw[e2,show(256:UInt64).toNat=256 from rfl]
 omega
def jT_ (t:UInt64) (i:Nat):List UInt8:=(List.range 8).map fun j=>if 8≤j+i then aob_ t j else 0
theorem Vy_ (t:UInt64) (i:Nat): (jT_ t i).length=8:=by simp[jT_]
theorem aaA_ (t:UInt64):jT_ t 0=List.replicate 8 0:=by
 apply List.ext_getElem
 ·simp[jT_]
 intro k hk1 hk2
 have:k<8:=by simpa [jT_] using hk1
 simp only[jT_,List.getElem_map,List.getElem_range,List.getElem_replicate]
 rw[if_neg (by omega)]
theorem aaw_ (t:UInt64) (i:Nat) (h:i<8): (jT_ t i).set (7 - i) (UInt8.ofNat (quoN t i%256).toNat)=jT_ t (i+1):=by
 rw[alO_ t i h]
 apply List.ext_getElem
 ·simp[jT_]
 intro j hj1 hj2
 have hj:j<8:=by simpa [jT_] using hj2
 rw[List.getElem_set]
 by_cases h1:7 - i=j
 ·rw[if_pos h1]
  simp only[jT_,List.getElem_map,List.getElem_range]
  rw[if_pos (by omega),h1]
 ·rw[if_neg h1]
  simp only[jT_,List.getElem_map,List.getElem_range]
  by_cases h2:8≤j+i
  ·rw[if_pos h2,if_pos (by omega)]
  ·rw[if_neg h2,if_neg (by omega)]
theorem adP_ (t:UInt64):jT_ (8*t) 8=len8 t:=by
 unfold jT_ len8
 apply List.map_congr_left
 intro j hj
 rw[if_pos (by omega)];rfl
def padR (m:List UInt8):List UInt8:=m++ [128]++List.replicate (vu_ ((m.length+1)%64)) 0++len8 (UInt64.ofNat m.length)
theorem VF_ (n:Nat): (n+vu_ (n%64))%64=56∧vu_ (n%64)<64:=by unfold vu_;omega
theorem acE_ (m:List UInt8): (padR m).length%64=0∧(padR m).length≤m.length+72:=by
 have:=VF_ (m.length+1)
 simp only[padR,List.length_append,List.length_replicate,Xk_,List.length_cons,List.length_nil]
 omega
def shaR (m:List UInt8):List UInt8:=xs_ (Z1_ initL (padR m) ((padR m).length / 64)) 32
theorem ahp_ (st s:List UInt32):x6_ st s 8= [st.getD 0 0+s.getD 0 0,st.getD 1 0+s.getD 1 0,st.getD 2 0+s.getD 2 0,st.getD 3 0+s.getD 3 0,st.getD 4 0+s.getD 4 0,st.getD 5 0+s.getD 5 0,st.getD 6 0+s.getD 6 0,st.getD 7 0+s.getD 7 0]:=rfl
end Go.Dig
section
open Go Go.Proofs Go.Sx Go.Dig
namespace Go.Proofs
set_option maxRecDepth 10000
set_option maxHeartbeats 1000000
set_option linter.unusedSimpArgs false
set_option linter.defProp false
def zM_:= @jE_
theorem Xj_ (m:List UInt8) (hm:m.length<1099511627776) (w:World):
  Rets Tryz.prog 167 #[vs m] w (fun v D=>v=vs (padR m)∧D= []):=by
 refine Rets.enterV Tryz.func167 rfl (rs:= [.tmp 2]) Tryz.results167 Tryz.ntmps167 ?_
 refine kf ?_
 first|with_reducible refine ks [] @zM_ ?_|refine kp @zM_ ?_
 have hz:=VF_ (m.length+1)
 rw[show m++ [128]=m++ [128]++List.replicate 0 0 from(List.append_nil _).symm]
 refine Cw.loopG (G:=Nat) [9,10,11,12,13,14,3] (fun g=> [(3,vs (m++ [128]++List.replicate g 0))]) (fun g=> []) (fun g=>g≤vu_ ((m.length+1)%64)) (fun g=>vu_ ((m.length+1)%64) - g) 0 rfl rfl ?_ ?_
 ·omega
 intro g j hg
 refine kv ?_
 have hl: (m++ [128]++List.replicate g 0).length=m.length+1+g:=by simp;omega
 by_cases hlt:g<vu_ ((m.length+1)%64)
 ·have h56: (m.length+1+g)%64≠56:=by unfold vu_ at*;omega
  first|with_reducible refine ks [] (And.intro @zM_ @hl) ?_|refine kp (And.intro @zM_ @hl) ?_
  refine Again.mk (g+1) (by omega) (by omega) rfl ?_
  rw[show m++ [128]++List.replicate (g+1) 0=m++ [128]++List.replicate g 0++ [0] from by rw[List.replicate_succ'];simp]
  rfl
 ·have hge:g=vu_ ((m.length+1)%64):=by omega
  subst hge
  first|with_reducible refine ks [] (And.intro @zM_ @hl) ?_|refine kp (And.intro @zM_ @hl) ?_
  refine Ow.alloc rfl rfl Tryz.zr273 fun b1 hb1 hw1=> ?_
  rw[show UInt64.ofInt (m.length:Int)=UInt64.ofNat m.length from XZ_ _]
  refine ko @zM_ ?_
  first|with_reducible refine ks [] @zM_ ?_|refine kp @zM_ ?_
  generalize ht:UInt64.ofNat m.length*8=t
  rw[←aaA_ t]
  refine Cw.loopG (G:=Nat) [19,20,23,24,25,26,27,28,29,30,4,21,22,6] (fun i=> [(4,v64 (quoN t i)),(6,vi i)]) (fun i=> [(b1, .cells (a8 (jT_ t i)) 273 (0,0))]) (fun i=>i≤8) (fun i=>8 - i) 0 rfl rfl ?_ ?_
  ·omega
  intro i ji hi
  refine kv ?_
  have htl:=Vy_ t i
  by_cases hi8:i<8
  ·first|with_reducible refine ks [] @zM_ ?_|refine kp @zM_ ?_
   refine Again.mk (i+1) (by omega) (by omega) ?_ rfl
   rw[aaw_ t i hi8]
  ·have hie:i=8:=by omega
   subst hie
   first|with_reducible refine ks [] @zM_ ?_|refine kp @zM_ ?_
   rw[List.drop_zero,List.take_of_length_le (show(jT_ t 8).length≤8 by omega),←ht,UInt64.mul_comm,adP_]
   refine⟨_,(ke @zM_),⟨hw1,trivial⟩, ?_⟩
   rfl
theorem ahi_ (st:List UInt32) (blk:List UInt8) (hst:st.length=8) (hbk:blk.length=64) (w:World):
  Rets Tryz.prog 168 #[.agg (a32 st),vs blk] w (fun v D=>v= .agg (a32 (comp st blk))∧D= []):=by
 have hkl:kL.length=64:=rfl
 refine Rets.enterV Tryz.func168 rfl (rs:= [.cell 4 244]) Tryz.results168 Tryz.ntmps168 ?_
 refine kf ?_
 first|with_reducible refine ks [] @zM_ ?_|refine kp @zM_ ?_
 refine Ow.box rfl rfl fun b1 hb1 hw1=> ?_
 refine ko @zM_ ?_
 refine Ow.alloc rfl rfl Tryz.zr244 fun b2 hb2 hw2=> ?_
 obtain⟨h12,-⟩:=hb2
 refine ko @zM_ ?_
 first|with_reducible refine ks [] @zM_ ?_|refine kp @zM_ ?_
 refine Ow.alloc rfl rfl Tryz.zr274 fun b3 hb3 hw3=> ?_
 obtain⟨h13,h23,-⟩:=hb3
 refine ko @zM_ ?_
 first|with_reducible refine ks [] @zM_ ?_|refine kp @zM_ ?_
 rw[←abM_ blk]
 refine Cw.loopG (G:=Nat) [22,23,26,27,28,29,30,31,32,33,34,35,36,37,38,39,40,41,42,43,44,45,46,47,48,49,50,51,52,53,54,55,56,24,25,6] (fun g=> [(6,vi g)]) (fun g=> [(b1, .cells (a32 st) 244 (0,0)),(b2, .cells (a32 (List.replicate 8 0)) 244 (0,0)),(b3, .cells (a32 (VJ_ blk g)) 274 (0,0))]) (fun g=>g≤16) (fun g=>16 - g) 0 rfl rfl ?_ ?_
 ·omega
 intro g j hg
 refine kv ?_
 have hlen:=vJ_ blk g
 by_cases hlt:g<16
 ·first|with_reducible refine ks [] @zM_ ?_|refine kp @zM_ ?_
  refine Cw.regionO [0,1,2,3,4,5,6,7,8,9,10,11,12,13,14,15,16,17,18,19,20,21,22,23,24,25,26,27,28,29,30,31] [31] rfl (by kernel_rfl) (by kernel_rfl) ?_
  simp only[zg_, ↓zd_, ↓zb_, ↓zp_, ↓zq_,za_]
  refine kq @zM_ ?_
  refine Ow.store rfl rfl rfl (ke @zM_) ?_
  refine ko @zM_ ?_
  first|with_reducible refine ks [] @zM_ ?_|refine kp @zM_ ?_
  exact Again.mk (g+1) (by omega) (by omega) (by rw[←abH_];rfl) rfl
 ·have hg16:g=16:=by omega
  subst hg16
  first|with_reducible refine ks [] @zM_ ?_|refine kp @zM_ ?_
  rw[afk_]
  refine Cw.loopG (G:=Nat) [57,58,61,62,63,64,65,66,67,68,8,9,69,70,71,72,73,74,75,76,77,78,79,80,81,82,83,84,85,86,87,88,89,90,91,92,93,94,95,96,97,59,60,7] (fun g=> [(7,vi g)]) (fun g=> [(b1, .cells (a32 st) 244 (0,0)),(b2, .cells (a32 (List.replicate 8 0)) 244 (0,0)),(b3, .cells (a32 (wG blk g)) 274 (0,0))]) (fun g=>16≤g∧g≤64) (fun g=>64 - g) 16 rfl rfl ?_ ?_
  ·omega
  intro g j hg
  refine kv ?_
  obtain⟨hg1,hg2⟩:=hg
  have hlen:=abX_ blk g
  by_cases hlt:g<64
  ·first|with_reducible refine ks [] @zM_ ?_|refine kp @zM_ ?_
   refine Cw.regionO [0,1,2,4,5,6,3,8,7,9] [] rfl (by kernel_rfl) (by kernel_rfl) ?_
   simp only[zg_, ↓zd_, ↓zb_, ↓zp_, ↓zq_,za_]
   refine kq @zM_ ?_
   first|with_reducible refine ks [] @zM_ ?_|refine kp @zM_ ?_
   refine Cw.regionO [0,1,3,6,7,9,10,11,14,16,19,20,23,24,25,12,26,2,4,5,8,13,15,17,18,21,22,27,28,29] [29] rfl (by kernel_rfl) (by kernel_rfl) ?_
   simp only[zg_, ↓zd_, ↓zb_, ↓zp_, ↓zq_,za_]
   refine kq @zM_ ?_
   refine Ow.callFV rfl Tryz.call190 (fun w' hw'=>jk_ _ 17 w') ?_
   refine kq @zM_ ?_
   refine Ow.callFV rfl Tryz.call190 (fun w' hw'=>jk_ _ 19 w') ?_
   refine kq @zM_ ?_
   refine Ow.callFV rfl Tryz.call190 (fun w' hw'=>jk_ _ 7 w') ?_
   refine kq @zM_ ?_
   refine Ow.callFV rfl Tryz.call190 (fun w' hw'=>jk_ _ 18 w') ?_
   refine kq @zM_ ?_
   refine Ow.store rfl rfl rfl (ke @zM_) ?_
   refine ko @zM_ ?_
   first|with_reducible refine ks [] @zM_ ?_|refine kp @zM_ ?_
   exact Again.mk (g+1) (by omega) (by omega) (by rw[aiB_ blk g hg1];rfl) rfl
  ·have hg64:g=64:=by omega
   subst hg64
   rw[anK_]
   have hwl:=Xb_ blk
   first|with_reducible refine ks [] @zM_ ?_|refine kp @zM_ ?_
   refine Ow.callFV rfl Tryz.call191 (fun w' hw'=>acW_ w') ?_
   refine ko @zM_ ?_
   refine Ow.alloc rfl rfl Tryz.zr274 fun b4 hb4 hw4=> ?_
   obtain⟨h14,h24,h34,-⟩:=hb4
   refine ko @zM_ ?_
   first|with_reducible refine ks [] @zM_ ?_|refine kp @zM_ ?_
   refine Cw.regionO [0,2,4,6,1,8,3,9,5,10,7,11] [] rfl (by kernel_rfl) (by kernel_rfl) ?_
   simp only[zg_, ↓zd_, ↓zb_, ↓zp_, ↓zq_,za_]
   refine kq @zM_ ?_
   first|with_reducible refine ks [] @zM_ ?_|refine kp @zM_ ?_
   refine Cw.regionO [0,2,4,6,1,8,3,9,5,10,7,11] [] rfl (by kernel_rfl) (by kernel_rfl) ?_
   simp only[zg_, ↓zd_, ↓zb_, ↓zp_, ↓zq_,za_]
   refine kq @zM_ ?_
   first|with_reducible refine ks [] @zM_ ?_|refine kp @zM_ ?_
   generalize hw:wAll blk=W at*
   refine Cw.loopG (G:=Nat) [115,116,119,120,121,122,123,124,125,126,127,128,129,130,131,132,133,134,135,136,137,138,139,140,141,142,143,144,145,20,146,147,148,149,150,151,152,153,154,155,156,157,158,159,160,161,162,163,164,165,21,166,18,167,17,168,16,169,170,171,15,172,14,173,13,174,12,175,176,177,11,117,118,19] (fun g=> [(19,vi g),(11,v32 ((rGo st W g).getD 0 0)),(12,v32 ((rGo st W g).getD 1 0)),(13,v32 ((rGo st W g).getD 2 0)),(14,v32 ((rGo st W g).getD 3 0)),(15,v32 ((rGo st W g).getD 4 0)),(16,v32 ((rGo st W g).getD 5 0)),(17,v32 ((rGo st W g).getD 6 0)),(18,v32 ((rGo st W g).getD 7 0))]) (fun g=> [(b1, .cells (a32 st) 244 (0,0)),(b2, .cells (a32 (List.replicate 8 0)) 244 (0,0)),(b3, .cells (a32 W) 274 (0,0)),(b4, .cells (a32 kL) 274 (0,0))]) (fun g=>g≤64) (fun g=>64 - g) 0 rfl rfl ?_ ?_
   ·omega
   ·intro g j hg
    refine kv ?_
    by_cases hlt:g<64
    ·first|with_reducible refine ks [] @zM_ ?_|refine kp @zM_ ?_
     refine Cw.regionO [0,1,3,6,10,11,12,13,14,15,16,17,19,20,23,24,21,25,2,4,5,7,8,9,18,22,26,27] [] rfl (by kernel_rfl) (by kernel_rfl) ?_
     simp only[zg_, ↓zd_, ↓zb_, ↓zp_, ↓zq_,za_]
     refine kq @zM_ ?_
     refine Ow.callFV rfl Tryz.call190 (fun w' hw'=>jk_ _ 6 w') ?_
     refine kq @zM_ ?_
     refine Ow.callFV rfl Tryz.call190 (fun w' hw'=>jk_ _ 11 w') ?_
     refine kq @zM_ ?_
     refine Ow.callFV rfl Tryz.call190 (fun w' hw'=>jk_ _ 25 w') ?_
     refine kq @zM_ ?_
     first|with_reducible refine ks [] @zM_ ?_|refine kp @zM_ ?_
     refine Ow.callFV rfl Tryz.call190 (fun w' hw'=>jk_ _ 2 w') ?_
     refine ko @zM_ ?_
     refine Ow.callFV rfl Tryz.call190 (fun w' hw'=>jk_ _ 13 w') ?_
     refine ko @zM_ ?_
     refine Ow.callFV rfl Tryz.call190 (fun w' hw'=>jk_ _ 22 w') ?_
     refine ko @zM_ ?_
     first|with_reducible refine ks [] @zM_ ?_|refine kp @zM_ ?_
     exact Again.mk (g+1) (by omega) (by omega) rfl rfl
    ·have hg64:g=64:=by omega
     subst hg64
     first|with_reducible refine ks [] @zM_ ?_|refine kp @zM_ ?_
     have hcomp:comp st blk=x6_ st (rGo st W 64) 8:=by rw[←hw];rfl
     rw[hcomp]
     generalize rGo st W 64=R at*
     rw[ahp_]
     refine Ow.build (.agg (a32 [st.getD 0 0+R.getD 0 0,st.getD 1 0+R.getD 1 0,st.getD 2 0+R.getD 2 0,st.getD 3 0+R.getD 3 0,st.getD 4 0+R.getD 4 0,st.getD 5 0+R.getD 5 0,st.getD 6 0+R.getD 6 0,st.getD 7 0+R.getD 7 0])) rfl (by kernel_rfl) ?_
     refine ko @zM_ ?_
     first|with_reducible refine ks [] @zM_ ?_|refine kp @zM_ ?_
     refine⟨_,(ke @zM_),⟨hw1,hw2,hw3,hw4,trivial⟩, ?_⟩
     rfl
end Go.Proofs
end
section
open Go Go.Proofs Go.Sx Go.Dig
namespace Go.Proofs
set_option maxRecDepth 10000
set_option maxHeartbeats 1000000
set_option linter.unusedSimpArgs false
set_option linter.defProp false
def xj_:= @jE_
theorem add_ (m:List UInt8) (hm:m.length<1099511627776) (w:World):
  Rets Tryz.prog 134 #[vs m] w (fun v D=>v= .agg (a8 (shaR m))∧D= []):=by
 refine Rets.enterV Tryz.func134 rfl (rs:= [.cell 2 37]) Tryz.results134 Tryz.ntmps134 ?_
 refine kf ?_
 first|with_reducible refine ks [] @xj_ ?_|refine kp @xj_ ?_
 refine Ow.alloc rfl rfl Tryz.zr37 fun b1 hb1 hw1=> ?_
 refine ko @xj_ ?_
 first|with_reducible refine ks [] @xj_ ?_|refine kp @xj_ ?_
 refine Ow.callFV rfl Tryz.call167 (fun w' hw'=>Xj_ m hm w') ?_
 have hp:=acE_ m
 unfold shaR
 generalize padR m=p at*
 refine ko @xj_ ?_
 first|with_reducible refine ks [] @xj_ ?_|refine kp @xj_ ?_
 refine Ow.build (.agg (a32 initL)) rfl (by kernel_rfl) ?_
 refine ko @xj_ ?_
 refine Ow.alloc rfl rfl Tryz.zr244 fun b2 hb2 hw2=> ?_
 obtain⟨h12,-⟩:=hb2
 have hil:initL.length=8:=rfl
 refine ko @xj_ ?_
 first|with_reducible refine ks [] @xj_ ?_|refine kp @xj_ ?_
 rw[show a32 initL=a32 (Z1_ initL p 0) from rfl]
 refine Cw.loopG (G:=Nat) [11,12,13,14,17,18,19,20,21,22,23,15,16,5] (fun g=> [(5,vi (64*g))]) (fun g=> [(b1, .cells (a8 (List.replicate 32 0)) 37 (0,0)),(b2, .cells (a32 (Z1_ initL p g)) 244 (0,0))]) (fun g=>64*g≤p.length) (fun g=>p.length - 64*g) 0 rfl rfl ?_ ?_
 ·omega
 intro g j hg
 refine kv ?_
 have hcl:=abf_ initL p g rfl
 by_cases hlt:64*g<p.length
 ·first|with_reducible refine ks [] @xj_ ?_|refine kp @xj_ ?_
  refine Cw.regionO [1,2,3,4,5,0,6,7] [7] rfl (by kernel_rfl) (by kernel_rfl) ?_
  simp only[zg_, ↓zd_, ↓zb_, ↓zp_, ↓zq_,za_]
  refine kq @xj_ ?_
  rw[show List.drop (64*g) (List.take (64*g+64) p)=(p.drop (64*g)).take 64 from by rw[List.drop_take];congr 1;omega]
  refine Ow.callFV rfl Tryz.call168 (fun w' hw'=>ahi_ _ _ hcl (by simp;omega) w') ?_
  have hcl2:=ZK_ (Z1_ initL p g) ((p.drop (64*g)).take 64)
  refine kq @xj_ ?_
  refine Ow.store rfl rfl rfl (ke @xj_) ?_
  refine ko @xj_ ?_
  first|with_reducible refine ks [] @xj_ ?_|refine kp @xj_ ?_
  exact Again.mk (g+1) (by omega) (by omega) rfl (by rw[show 64* ((g+1:Nat):Int)=64* (g:Int)+64 from by omega];rfl)
 ·have hge:g=p.length / 64:=by omega
  first|with_reducible refine ks [] @xj_ ?_|refine kp @xj_ ?_
  rw[←hge]
  refine Ow.alloc rfl rfl Tryz.zr37 fun b3 hb3 hw3=> ?_
  obtain⟨h13,h23,-⟩:=hb3
  refine ko @xj_ ?_
  first|with_reducible refine ks [] @xj_ ?_|refine kp @xj_ ?_
  generalize Z1_ initL p g=S at*
  rw[show [(b1,Obj.cells (a8 (List.replicate 32 0)) 37 (0,0)),(b2, .cells (a32 S) 244 (0,0)),(b3, .cells (a8 (List.replicate 32 0)) 37 (0,0))]= [(b1,Obj.cells (a8 (List.replicate 32 0)) 37 (0,0)),(b2, .cells (a32 S) 244 (0,0)),(b3, .cells (a8 (xs_ S 0)) 37 (0,0))] from by rw[X2_]]
  refine Cw.loopG (G:=Nat) [24,25,28,29,30,31,32,33,34,35,36,37,38,39,40,26,27,7] (fun k=> [(7,vi k)]) (fun k=> [(b1, .cells (a8 (List.replicate 32 0)) 37 (0,0)),(b2, .cells (a32 S) 244 (0,0)),(b3, .cells (a8 (xs_ S k)) 37 (0,0))]) (fun k=>k≤32) (fun k=>32 - k) 0 rfl rfl ?_ ?_
  ·omega
  intro k jk hk
  refine kv ?_
  have hol:=outPre_length S k
  by_cases hk:k<32
  ·first|with_reducible refine ks [] @xj_ ?_|refine kp @xj_ ?_
   refine Again.mk (k+1) (by omega) (by omega) ?_ rfl
   have e: (UInt64.ofInt (24 - 8* ((k:Int)%4))).toNat=24 - 8* (k%4):=by
    rw[show(24 - 8* ((k:Int)%4))=((24 - 8* (k%4):Nat):Int) from by omega,XZ_,UInt64.toNat_ofNat',Nat.mod_eq_of_lt (by omega)]
   rw[e,←kE_];rfl
  ·have hke:k=32:=by omega
   subst hke
   first|with_reducible refine ks [] @xj_ ?_|refine kp @xj_ ?_
   refine⟨_,(ke @xj_),⟨hw1,hw2,hw3,trivial⟩, ?_⟩
   rfl
end Go.Proofs
end
namespace Go.Dig
open Go.Sx
structure Inv (s:Hs) (p:List UInt8):Prop where
 ok:s.Ok
 st:s.st=Z1_ initL p (p.length / 64)
 many:s.many=p.length%64
 rest:s.rest.take s.many=p.drop (64* (p.length / 64))
theorem Inv.put {s:Hs} {p:List UInt8} (h:Inv s p) (x:UInt8):Inv (KP_ s x) (p++ [x]):=by
 obtain⟨hok,hst,hmany,hrest⟩:=h
 have hk:=WH_ x hok
 have hm64:=hok.many
 have hrl:=hok.rest
 have hle:64* (p.length / 64)≤p.length:=by omega
 have htake: (s.rest.set s.many x).take (s.many+1)=p.drop (64* (p.length / 64))++ [x]:=by
  rw[List.take_add_one,List.take_set,←hrest]
  congr 1
  ·rw[List.set_eq_of_length_le (by simp only[List.length_take];exact Nat.min_le_left _ _)]
  ·simp[hrl,hm64]
 have hlen: (p++ [x]).length=p.length+1:=by simp
 have hc:Z1_ initL (p++ [x]) (p.length / 64)=Z1_ initL p (p.length / 64):=abA_ _ _ _ _ hle
 by_cases h64:s.many+1=64
 ·have e:KP_ s x=⟨comp s.st (s.rest.set s.many x),s.rest.set s.many x,0⟩:=by unfold KP_;rw[if_pos h64]
  have hd: (p.length+1) / 64=p.length / 64+1:=by omega
  have hr: (s.rest.set s.many x)=p.drop (64* (p.length / 64))++ [x]:=by
   rw[←htake,h64,List.take_of_length_le (by simp[hrl])]
  refine⟨hk, ?_, ?_, ?_⟩
  ·rw[e,hlen,hd]
   show comp s.st _=comp (Z1_ initL (p++ [x]) (p.length / 64)) _
   rw[hc,←hst,hr,List.drop_append_of_le_length hle,List.take_of_length_le (by simp;omega)]
  ·rw[e,hlen];show 0=_;omega
  ·rw[e,hlen]
   show List.take 0 _=_
   rw[List.take_zero,List.drop_of_length_le (by rw[hlen];omega)]
 ·have e:KP_ s x=⟨s.st,s.rest.set s.many x,s.many+1⟩:=by unfold KP_;rw[if_neg h64]
  have hd: (p.length+1) / 64=p.length / 64:=by omega
  refine⟨hk, ?_, ?_, ?_⟩
  ·rw[e,hlen,hd,hc];exact hst
  ·rw[e,hlen];show s.many+1=_;omega
  ·rw[e,hlen,hd]
   show List.take (s.many+1) (s.rest.set s.many x)=_
   rw[htake,List.drop_append_of_le_length hle]
theorem Inv.puts {s:Hs} {p:List UInt8} (h:Inv s p) (l:List UInt8):Inv (jb_ s l) (p++l):=by
 induction l generalizing s p with
 |nil=>rw[List.append_nil];exact h
 |cons x r ih=>
  have:=ih (h.put x)
  rw[List.append_assoc] at this
  exact this
theorem Inv.zero:Inv H0 []:=⟨aqy_,rfl,rfl,rfl⟩
theorem amE_ (p:List UInt8): (jb_ H0 p).st=Z1_ initL p (p.length / 64):=(Inv.zero.puts p).st
theorem akp_ (l:List (List UInt8)) (n:Nat):vB_ (UInt64.ofNat n) l=UInt64.ofNat (n+l.flatten.length):=by
 induction l generalizing n with
 |nil=>rfl
 |cons a r ih=>
  show vB_ (UInt64.ofNat n+UInt64.ofNat a.length) r=_
  rw[←UInt64.ofNat_add,ih,List.flatten_cons,List.length_append,Nat.add_assoc]
theorem an7_ (m:List UInt8):hsum (jb_ H0 m) (UInt64.ofNat m.length)=shaR m:=by
 unfold hsum shaR
 rw[←amE_]
 suffices h:afC_ (jb_ H0 m) (UInt64.ofNat m.length)=jb_ H0 (padR m) by rw[h]
 have hmany: (KP_ (jb_ H0 m) 128).many=(m.length+1)%64:=by
  have:=((Inv.zero.puts m).put 128).many
  rw[this];simp
 unfold afC_ padR
 rw[hmany,xc_,xc_,xc_,show jb_ (jb_ H0 m) [128]=KP_ (jb_ H0 m) 128 from rfl]
theorem sumV_eq (l:List (List UInt8)):sumV l=shaR l.flatten:=by
 unfold sumV
 have:=akp_ l 0
 rw[Nat.zero_add] at this
 rw[show(0:UInt64)=UInt64.ofNat 0 from rfl,this,an7_]
end Go.Dig
section
open Go Go.Proofs Go.Sx Go.StP
namespace Go.Proofs
set_option maxRecDepth 10000
set_option maxHeartbeats 400000
set_option linter.unusedSimpArgs false
theorem GlobE.new {w0 w:World} {L:ze_} (hg:GlobE w0) (h:Hp w0 L w) (hn:New w0.heap.size L):GlobE w:=by
 obtain⟨e0,e1,f0,f1,h0,h1⟩:=id hg
 have:3<w0.heap.size:=(Array.getElem?_eq_some_iff.1 h1).1
 exact hg.of h fun b hb=>by have:=hn.le b hb;omega
theorem aeg_ {k:Int} {t:List UInt8} (h:vR_ k t=true): (x4_ k t).length<100000:=by
 obtain⟨h1,h2,h3⟩:=adX_ h
 have hh: (ZV_ k).length≤4:=by unfold ZV_;simp only[List.length_drop,List.length_take,List.length_cons,List.length_nil];omega
 have:=zm_ (t.length:Int)
 unfold x4_ xi_
 rw[List.length_append,List.length_append]
 omega
theorem W3_ (m:List UInt8): (Dig.shaR m).length=32:=Dig.outPre_length _ _
set_option linter.defProp false
def zj_:=And.intro (And.intro (And.intro (@ja_) (@qs_)) (And.intro (@qt_) (@qB_))) (And.intro (And.intro (@Sx.tup2_0) (@Sx.tup2_1)) (And.intro (@zi_) (@zh_)))
def idV (k:Int) (t:List UInt8):IdL:=if vR_ k t then⟨Dig.shaR (x4_ k t),W3_ _⟩ else id0
theorem abF_:qp_ (x3_ Tryz.prog 37) (zE_ Tryz.prog 37) []=some (.agg (a8 id0.l)):=id (by kernel_rfl)
theorem alj_ (k:Int) (t:List UInt8) (w:World) (hG:GlobE w):Rets Tryz.prog 126 #[obV k t] w (fun v D=>v= .tuple #[.agg (a8 (idV k t).l), .bool (vR_ k t)]∧D= []):=by
 refine Rets.enterV Tryz.func126 rfl (rs:= [.cell 2 37, .tmp 3]) Tryz.results126 Tryz.ntmps126 ?_
 refine kf ?_
 first|with_reducible refine ks [] @zj_ ?_|refine kp @zj_ ?_
 refine Ow.box rfl rfl fun b1 hb1 hw1=> ?_
 simp only[z8_,z3_,z4_,zc_,List.nil_append]
 refine ko @zj_ ?_
 refine Ow.alloc rfl rfl wv_ fun b2 hb2 hw2=> ?_
 simp only[zc_,List.nil_append,List.cons_append]
 have h12:b1<b2:=zf_ hb2 (by simp[keys])
 have hi0:=id0.h
 refine ko @zj_ ?_
 refine Ow.callC rfl rfl Tryz.call159 (fun w' hw'=>adO_ k t w') (fun B v D hA hB hN hS=> ?_)
 have hD:New w.heap.size D:=New.mono hB hN
 unfold idV
 cases hr:vR_ k t
 ·rw[hr,if_neg (by decide)] at hS
  subst hS
  have e: ((1:Int) !=0)=true:=rfl
  refine ko @zj_ ?_
  first|with_reducible refine ks [] (And.intro @zj_ @e) ?_|refine kp (And.intro @zj_ @e) ?_
  refine Ow.build (.agg (a8 id0.l)) rfl abF_ ?_
  refine ko @zj_ ?_
  first|with_reducible refine ks [] @zj_ ?_|refine kp @zj_ ?_
  refine⟨_,(ke @zj_),⟨hw1,hw2,hD⟩, ?_⟩
  rfl
 ·rw[hr,if_pos rfl] at hS
  subst hS
  have e: ((0:Int) !=0)=false:=rfl
  have hfl:=aeg_ hr
  have hzl: ∀i,i< [x4_ k t].length→([x4_ k t].getD i []).length<1099511627776:=fun i hi=>by
   obtain rfl:i=0:=by simpa using hi
   show(x4_ k t).length<_;omega
  refine ko @zj_ ?_
  first|with_reducible refine ks [] (And.intro @zj_ @e) ?_|refine kp (And.intro @zj_ @e) ?_
  refine Ow.buildSlice (e:=9) #[vs (x4_ k t)] rfl rfl (by kernel_rfl) fun b15 hb15 hw15=> ?_
  refine ko @zj_ ?_
  refine Ow.callFV rfl Tryz.call160 (fun w' hw'=>akB_ _ b15 0 [x4_ k t] _ _ _ w' (hG.new hw' (by exact⟨hw1,hw2,New.app hD ⟨hw15,trivial⟩⟩)) (StrS.lit [x4_ k t] rfl rfl (hw'.has _ (.cells #[vs (x4_ k t)] 9 (0,0)) (by simp))) (by show(1:Nat)<1099511627776;omega) hzl) ?_
  rw[Dig.sumV_eq,show([x4_ k t]:List (List UInt8)).flatten=x4_ k t by simp]
  have hsl:=W3_ (x4_ k t)
  refine ko @zj_ ?_
  first|with_reducible refine ks [] @zj_ ?_|refine kp @zj_ ?_
  refine⟨_,(ke @zj_),⟨hw1,hw2,hD.app ⟨hw15,trivial⟩⟩, ?_⟩
  rfl
def Qy_ (k:Int) (t:List UInt8):List UInt8:=(if k=3 then [99] else if k=2 then [116] else [98])++xi_ t
theorem akW_ {k:Int} {t:List UInt8} (h:vR_ k t=true):Qy_ k t=x4_ k t:=by
 obtain⟨h1,h2,-⟩:=adX_ h
 unfold Qy_ x4_
 rcases(show k=1∨k=2∨k=3 by omega) with rfl|rfl|rfl<;>rfl
theorem adz_ (k:Int) (t:List UInt8) (w:World) (ht:t.length<100000):Rets Tryz.prog 135 #[obV k t] w (fun v D=>v=vs (Qy_ k t)∧D= []):=by
 have tl:=vv_ (s:=t) (by omega)
 refine Rets.enterV Tryz.func135 rfl (rs:= [.tmp 2]) Tryz.results135 Tryz.ntmps135 ?_
 refine kf ?_
 first|with_reducible refine ks [] @zj_ ?_|refine kp @zj_ ?_
 refine Ow.box rfl rfl fun b1 hb1 hw1=> ?_
 simp only[z8_,z3_,z4_,zc_,List.nil_append]
 unfold Qy_
 by_cases h3:k=3
 ·have e2: (k==2)=false:=beq_eq_false_iff_ne.2 (by omega)
  have e3: (k==3)=true:=by simp[h3]
  rw[if_pos h3]
  refine ko (And.intro @zj_ (And.intro @e2 (@e3))) ?_
  first|with_reducible refine ks [] (And.intro @zj_ (And.intro @e2 (@e3))) ?_|refine kp (And.intro @zj_ (And.intro @e2 (@e3))) ?_
  refine Ow.callFV rfl Tryz.call92 (fun w' hw'=>vs_ t w' (by omega)) ?_
  refine ko @zj_ ?_
  first|with_reducible refine ks [] @zj_ ?_|refine kp @zj_ ?_
  refine⟨_,(ke @zj_),⟨hw1,trivial⟩, ?_⟩
  rfl
 ·have e3: (k==3)=false:=by simpa using h3
  rw[if_neg h3]
  by_cases h2:k=2
  ·have e2: (k==2)=true:=by simp[h2]
   rw[if_pos h2]
   refine ko (And.intro @zj_ (And.intro @e2 (@e3))) ?_
   first|with_reducible refine ks [] (And.intro @zj_ (And.intro @e2 (@e3))) ?_|refine kp (And.intro @zj_ (And.intro @e2 (@e3))) ?_
   refine Ow.callFV rfl Tryz.call92 (fun w' hw'=>vs_ t w' (by omega)) ?_
   refine ko @zj_ ?_
   first|with_reducible refine ks [] @zj_ ?_|refine kp @zj_ ?_
   refine⟨_,(ke @zj_),⟨hw1,trivial⟩, ?_⟩
   rfl
  ·have e2: (k==2)=false:=by simpa using h2
   rw[if_neg h2]
   refine ko (And.intro @zj_ (And.intro @e2 (@e3))) ?_
   first|with_reducible refine ks [] (And.intro @zj_ (And.intro @e2 (@e3))) ?_|refine kp (And.intro @zj_ (And.intro @e2 (@e3))) ?_
   refine Ow.callFV rfl Tryz.call92 (fun w' hw'=>vs_ t w' (by omega)) ?_
   refine ko @zj_ ?_
   first|with_reducible refine ks [] @zj_ ?_|refine kp @zj_ ?_
   refine⟨_,(ke @zj_),⟨hw1,trivial⟩, ?_⟩
   rfl
theorem am0_ (k:Int) (t:List UInt8) (w:World) (ht:t.length<100000):Rets Tryz.prog 67 #[obV k t] w (fun v D=>v= .agg (a8 (Dig.shaR (Qy_ k t)))∧D= []):=by
 have tl:=vv_ (s:=t) (by omega)
 have fl: (Qy_ k t).length<1099511627776:=by
  have nl:=zm_ (t.length:Int)
  unfold Qy_ xi_;rw[List.length_append,List.length_append]
  have: ((if k=3 then [99] else if k=2 then [116] else [98]:List UInt8)).length=1:=by split<;>(try split)<;>rfl
  omega
 have hsl:=W3_ (Qy_ k t)
 refine Rets.enterV Tryz.func67 rfl (rs:= [.cell 2 37]) Tryz.results67 Tryz.ntmps67 ?_
 refine kf ?_
 first|with_reducible refine ks [] @zj_ ?_|refine kp @zj_ ?_
 refine Ow.box rfl rfl fun b1 hb1 hw1=> ?_
 simp only[z8_,z3_,z4_,zc_,List.nil_append]
 refine ko @zj_ ?_
 refine Ow.alloc rfl rfl wv_ fun b2 hb2 hw2=> ?_
 simp only[zc_,List.nil_append,List.cons_append]
 have h12:b1<b2:=zf_ hb2 (by simp[keys])
 have hi0:=id0.h
 refine ko @zj_ ?_
 refine Ow.callFV rfl Tryz.call135 (fun w' hw'=>adz_ k t w' ht) ?_
 refine ko @zj_ ?_
 refine Ow.callFV rfl Tryz.call134 (fun w' hw'=>add_ _ fl w') ?_
 refine ko @zj_ ?_
 first|with_reducible refine ks [] @zj_ ?_|refine kp @zj_ ?_
 refine⟨_,(ke @zj_),⟨hw1,hw2,trivial⟩, ?_⟩
 rfl
end Go.Proofs
end
section
open Go Go.Proofs Go.Sx Go.StP Go.Flo
namespace Go.Proofs
set_option maxRecDepth 10000
set_option maxHeartbeats 400000
set_option linter.unusedSimpArgs false
structure ObL where
 k:Int
 t:List UInt8
def ob0:ObL:=⟨0,[]⟩
def obC (o:ObL):List Value:= [vi o.k,vs o.t]
theorem Km_ (o:ObL): (obC o).length=2:=rfl
theorem WG_ (o:ObL): (obC o).all Value.oneCell'=true:=rfl
def zt_ (s:List UInt8):ObL:=⟨if Jt_ s then frK s else 0,if Jt_ s then(frT s).1 else []⟩
def je_ (s:List UInt8):IdL:=idV (zt_ s).k (zt_ s).t
def qM_:List (List UInt8)→List IdL→List ObL→Option (List IdL×List ObL)
 | [],ids,os=>some (ids,os)
 |s::r,ids,os=>if Jt_ s=true∧(ids.any fun y=>(je_ s).l==y.l)=false then qM_ r (ids++ [je_ s]) (os++ [zt_ s]) else none
def fillV (l:List PartL):Option (List IdL×List ObL):=match ZC_ l with
 | .ok ts=>qM_ ts [] []
 | .error _=>none
theorem QV_: ∀ (a b:List (List UInt8)) (ids:List IdL) (os:List ObL),qM_ (a++b) ids os=(qM_ a ids os).bind fun p=>qM_ b p.1 p.2
 | [],_,_,_=>rfl
 |s::a,b,ids,os=>by
  rw[List.cons_append,qM_,qM_]
  split
  ·exact QV_ a b _ _
  ·rfl
theorem Jf_: ∀ (a:List (List UInt8)) (ids:List IdL) (os:List ObL) (p:List IdL×List ObL),qM_ a ids os=some p→p.1.length=ids.length+a.length∧p.2.length=os.length+a.length
 | [],ids,os,p,h=>by cases h;simp
 |s::a,ids,os,p,h=>by
  rw[qM_] at h
  split at h
  ·have:=Jf_ a _ _ p h
   simp only[List.length_append,List.length_cons,List.length_nil] at this ⊢
   omega
  ·cases h
theorem ZM_ {a:List (List UInt8)} {s:List UInt8} {p:List IdL×List ObL} (h:qM_ a [] []=some p):
  qM_ (a++ [s]) [] []=if Jt_ s=true∧(p.1.any fun y=>(je_ s).l==y.l)=false then some (p.1++ [je_ s],p.2++ [zt_ s]) else none:=by
 rw[QV_,h]
 show qM_ [s] p.1 p.2=_
 rw[qM_]
 rfl
theorem adD_ {a b:List (List UInt8)} (h:qM_ a [] []=none):qM_ (a++b) [] []=none:=by
 rw[QV_,h];rfl
end Go.Proofs
end
section
open Go Go.Proofs Go.Sx
namespace Go.Proofs
set_option maxRecDepth 10000
set_option maxHeartbeats 4000000
set_option linter.unusedSimpArgs false
def hvL:List UInt32:= [0x00000000,0x1db71064,0x3b6e20c8,0x26d930ac,0x76dc4190,0x6b6b51f4,0x4db26158,0x5005713c,0xedb88320,0xf00f9344,0xd6d6a3e8,0xcb61b38c,0x9b64c2b0,0x86d3d2d4,0xa00ae278,0xbdbdf21c]
def aaX_ (n:UInt32):UInt32:=zU_ n 4^^^hvL.getD (n&&&15).toNat 0
def af0_ (n:UInt32):Nat→UInt32
 |0=>n
 |k+1=>aaX_ (af0_ n k)
def ahz_ (n:UInt32) (b:UInt8):UInt32:=af0_ (n^^^UInt32.ofNat b.toNat) 2
theorem aiO_ (n:UInt32): (n&&&15).toNat<16:=by
 rw[UInt32.toNat_and]
 exact Nat.lt_of_le_of_lt Nat.and_le_right (by decide)
def GlobC (w:World):Prop:= ∃e f,w.heap[(1:Nat)]? =some (.cells (a32 hvL) e f)
theorem GlobC.of {w w':World} {L:ze_} (h:GlobC w) (hw:Hp w L w') (hn: (1:Nat)∉keys L):GlobC w':=by
 obtain⟨e,f,h⟩:=h
 exact⟨e,f,by rw[hw.old _ (Array.getElem?_eq_some_iff.1 h).1 hn];exact h⟩
theorem aov_:hvL.length=16:=rfl
set_option linter.defProp false
def qg_:=And.intro (And.intro (@zi_) (@Zq_)) (And.intro (@w4_) (And.intro (@Zp_) (@zh_)))
theorem ajI_ (n:UInt32) (b:UInt8) (w:World) (hG:GlobC w):
  Rets Tryz.prog 183 #[v32 n,v8 b] w (fun v D=>v=v32 (ahz_ n b)∧D= []):=by
 obtain⟨e,f,htab⟩:=hG
 refine Rets.enterV Tryz.func183 rfl (rs:= [.tmp 4]) Tryz.results183 Tryz.ntmps183 ?_
 refine kf ?_
 first|with_reducible refine ks [] @qg_ ?_|refine kp @qg_ ?_
 unfold ahz_
 generalize n^^^UInt32.ofNat b.toNat=m
 rw[show v32 m=v32 (af0_ m 0) from rfl]
 refine Cw.loopG (G:=Nat) [10,11,12,13,14,15,16,17,0,18,9] (fun g=> [(0,v32 (af0_ m g)),(9,vi g)]) (fun g=> []) (fun g=>g≤2) (fun g=>2 - g) 0 rfl rfl ?_ ?_
 ·omega
 intro g j hg
 refine kv ?_
 by_cases hlt:g<2
 ·have h15:=aiO_ (af0_ m g)
  have hl:=aov_
  first|with_reducible refine ks [] (And.intro @qg_ @htab) ?_|refine kp (And.intro @qg_ @htab) ?_
  refine Again.mk (g+1) (by omega) (by omega) rfl rfl
 ·obtain rfl:g=2:=by omega
  first|with_reducible refine ks [] @qg_ ?_|refine kp @qg_ ?_
  refine⟨_,(ke @qg_),trivial, ?_⟩
  rfl
def WT_ (n:UInt32) (s:List UInt8):UInt32:=s.foldl ahz_ n
theorem Wf_ (n:UInt32) (s:List UInt8) (g:Nat) (h:g<s.length):WT_ n (s.take (g+1))=ahz_ (WT_ n (s.take g)) (s.getD g 0):=by
 unfold WT_
 rw[List.take_succ_eq_append_getElem h,List.foldl_append,List.getD_eq_getElem?_getD,List.getElem?_eq_getElem h]
 rfl
theorem aip_ (n:UInt32) (s:List UInt8) (w:World) (hG:GlobC w) (hs:s.length<1099511627776):
  Rets Tryz.prog 162 #[v32 n,vs s] w (fun v D=>v=v32 (~~~ (WT_ (~~~ n) s))∧D= []):=by
 refine Rets.enterV Tryz.func162 rfl (rs:= [.tmp 4]) Tryz.results162 Tryz.ntmps162 ?_
 refine kf ?_
 first|with_reducible refine ks [] @qg_ ?_|refine kp @qg_ ?_
 rw[show v32 (~~~ n)=v32 (WT_ (~~~ n) (s.take 0)) from rfl]
 refine Cw.loopG (G:=Nat) [12,13,6,14,15,16,17,18,5,19,11] (fun g=> [(5,v32 (WT_ (~~~ n) (s.take g))),(11,vi g)]) (fun g=> []) (fun g=>g≤s.length) (fun g=>s.length - g) 0 rfl rfl ?_ ?_
 ·omega
 intro g j hg
 refine kv ?_
 by_cases hlt:g<s.length
 ·first|with_reducible refine ks [] @qg_ ?_|refine kp @qg_ ?_
  refine Ow.callFV rfl Tryz.call183 (fun w' hw'=>ajI_ _ _ w' (GlobC.of hG hw' (by simp[keys]))) ?_
  refine ko @qg_ ?_
  first|with_reducible refine ks [] @qg_ ?_|refine kp @qg_ ?_
  refine Again.mk (g+1) (by omega) (by omega) rfl ?_
  rw[Wf_ _ _ _ hlt]
  rfl
 ·obtain rfl:g=s.length:=by omega
  first|with_reducible refine ks [] @qg_ ?_|refine kp @qg_ ?_
  rw[List.take_length]
  refine⟨_,(ke @qg_),trivial, ?_⟩
  rfl
def crcV (s:List UInt8):UInt32:= ~~~ (WT_ (~~~ (0:UInt32)) s)
theorem aj4_ (b:Nat) (s:List UInt8) (E:TypeId) (w:World) (hG:GlobC w) (hs:s.length<1099511627776) (ho:w.heap[b]? =some (.cells #[vs s] E (0,0))):
  Rets Tryz.prog 130 #[vsl b 0 1 1] w (fun v D=>v=v32 (crcV s)∧D= []):=by
 have hS:StrS w (vsl b 0 1 1) [s] b 0 #[vs s] E (0,0):=StrS.lit [s] rfl rfl ho
 refine Rets.enterV Tryz.func130 rfl (rs:= [.tmp 2]) Tryz.results130 Tryz.ntmps130 ?_
 refine kf ?_
 first|with_reducible refine ks [] @qg_ ?_|refine kp @qg_ ?_
 refine Cw.loopG (G:=Nat) [9,10,11,5,12,13,14,3,15,8] (fun g=> [(3,v32 (if g=0 then 0 else crcV s)),(8,vi g)]) (fun g=> []) (fun g=>g≤1) (fun g=>1 - g) 0 rfl rfl ?_ ?_
 ·omega
 intro g j hg
 refine kv ?_
 by_cases hlt:g<1
 ·obtain rfl:g=0:=by omega
  have hlg:=hS.get 0 (by simp)
  have hrd:=hS.has (by simp)
  have hix:=fun m=>hS.idx m 0 (by simp)
  ((try with_reducible refine Cw.go [] ?_);(try simp(disch:=(first|assumption|omega| (simp only[xg_,xe_,UInt64.reduceToNat];try omega))) only[↓Sx.S0,Sx.S1,Tryz.fx,qg_,Nat.reduceAdd,Nat.reducePow,Int.reducePow,Nat.reduceBEq, ↓reduceIte,UInt8.reduceToNat,UInt16.reduceToNat,UInt32.reduceToNat,UInt64.reduceToNat,Int.reduceToNat,Sx.loadV_one,hrd,hlg,hix]))
  refine Ow.callFV rfl Tryz.call162 (fun w' hw'=>aip_ 0 s w' (GlobC.of hG hw' (by simp[keys])) hs) ?_
  refine ko @qg_ ?_
  first|with_reducible refine ks [] @qg_ ?_|refine kp @qg_ ?_
  refine Again.mk 1 (by omega) (by omega) rfl rfl
 ·obtain rfl:g=1:=by omega
  first|with_reducible refine ks [] @qg_ ?_|refine kp @qg_ ?_
  refine⟨_,(ke @qg_),trivial, ?_⟩
  rfl
def XR_ (n:UInt32) (g:Nat):List UInt8:=(List.range 4).map fun j=>if j<g then UInt8.ofNat (zU_ n (8*j)).toNat else 0
def sum4 (n:UInt32):List UInt8:=XR_ n 4
theorem V1_ (n:UInt32) (g:Nat): (XR_ n g).length=4:=by simp[XR_]
theorem aeM_ (n:UInt32) (g:Nat) (h:g<4): (XR_ n g).set g (UInt8.ofNat (zU_ n (8*g)).toNat)=XR_ n (g+1):=by
 have:g=0∨g=1∨g=2∨g=3:=by omega
 rcases this with rfl|rfl|rfl|rfl<;>rfl
def q9_ (s:List UInt8):List UInt8:=s++sum4 (crcV s)
theorem Jc_ (s:List UInt8) (w:World) (hG:GlobC w) (hs:s.length<1099511627776):
  Rets Tryz.prog 63 #[vs s] w (fun v D=>v=vs (q9_ s)∧D= []):=by
 have hgl: (1:Nat)<w.heap.size:=by obtain⟨e,f,h⟩:=hG;exact(Array.getElem?_eq_some_iff.1 h).1
 refine Rets.enterV Tryz.func63 rfl (rs:= [.tmp 2]) Tryz.results63 Tryz.ntmps63 ?_
 refine kf ?_
 first|with_reducible refine ks [] @qg_ ?_|refine kp @qg_ ?_
 refine Ow.buildSlice (e:=9) #[vs s] rfl rfl (by kernel_rfl) fun b1 hb1 hw1=> ?_
 refine ko @qg_ ?_
 refine Ow.callFV rfl Tryz.call130 (fun w' hw'=>aj4_ b1 s _ w' (GlobC.of hG hw' (by simp[keys];omega)) hs (hw'.has _ _ List.mem_cons_self)) ?_
 refine ko @qg_ ?_
 first|with_reducible refine ks [] @qg_ ?_|refine kp @qg_ ?_
 unfold q9_
 generalize crcV s=n
 refine Ow.alloc rfl rfl Tryz.zr204 fun b2 hb2 hw2=> ?_
 obtain⟨h12,-⟩:=hb2
 refine ko @qg_ ?_
 first|with_reducible refine ks [] @qg_ ?_|refine kp @qg_ ?_
 rw[show a8 (List.replicate 4 0)=a8 (XR_ n 0) from rfl]
 refine Cw.loopG (G:=Nat) [10,11,5,12,13,14,15,16,17,18,19,9] (fun g=> [(9,vi g)]) (fun g=> [(b1, .cells #[vs s] 9 (0,0)),(b2, .cells (a8 (XR_ n g)) 204 (0,0))]) (fun g=>g≤4) (fun g=>4 - g) 0 rfl rfl ?_ ?_
 ·omega
 intro g j hg
 refine kv ?_
 have hpl:=V1_ n g
 by_cases hlt:g<4
 ·first|with_reducible refine ks [] @qg_ ?_|refine kp @qg_ ?_
  refine Again.mk (g+1) (by omega) (by omega) ?_ rfl
  rw[aeM_ n g hlt]
 ·obtain rfl:g=4:=by omega
  first|with_reducible refine ks [] @qg_ ?_|refine kp @qg_ ?_
  refine⟨_,(ke @qg_),⟨hw1,hw2,trivial⟩, ?_⟩
  rw[List.drop_zero,List.take_of_length_le (by omega)];rfl
def zu_ (s:List UInt8):List UInt8×Bool:=
 if s.length<4 then([],false) else if q9_ (s.take (s.length - 4))=s then(s.take (s.length - 4),true) else([],false)
theorem QE_ (s:List UInt8): (q9_ s).length=s.length+4:=by unfold q9_ sum4;rw[List.length_append,V1_]
theorem JG_ (s:List UInt8) (w:World) (hG:GlobC w) (hs:s.length<1099511627776):
  Rets Tryz.prog 70 #[vs s] w (fun v D=>v= .tuple #[vs (zu_ s).1, .bool (zu_ s).2]∧D= []):=by
 refine Rets.enterV Tryz.func70 rfl (rs:= [.tmp 2, .tmp 3]) Tryz.results70 Tryz.ntmps70 ?_
 refine kf ?_
 first|with_reducible refine ks [] @qg_ ?_|refine kp @qg_ ?_
 unfold zu_
 by_cases h4:s.length<4
 ·have e1:decide ((s.length:Int)<4)=true:=decide_eq_true (by omega)
  rw[if_pos h4]
  first|with_reducible refine ks [] (And.intro @qg_ @e1) ?_|refine kp (And.intro @qg_ @e1) ?_
  refine⟨_,(ke @qg_),trivial, ?_⟩
  rfl
 ·have e1:decide ((s.length:Int)<4)=false:=decide_eq_false (by omega)
  have e2: ((s.length:Int) - 4).toNat=s.length - 4:=by omega
  rw[if_neg h4]
  first|with_reducible refine ks [] (And.intro @qg_ (And.intro @e1 (@e2))) ?_|refine kp (And.intro @qg_ (And.intro @e1 (@e2))) ?_
  refine Ow.callFV rfl Tryz.call63 (fun w' hw'=>Jc_ (s.take (s.length - 4)) w' (GlobC.of hG hw' (by simp[keys])) (by rw[List.length_take];omega)) ?_
  refine ko @qg_ ?_
  cases hq: (q9_ (s.take (s.length - 4)) !=s)
  ·rw[if_pos (by simpa using hq)]
   first|with_reducible refine ks [] (And.intro @qg_ (And.intro @hq (@e2))) ?_|refine kp (And.intro @qg_ (And.intro @hq (@e2))) ?_
   refine⟨_,(ke @qg_),trivial, ?_⟩
   rfl
  ·rw[if_neg (by simpa using hq)]
   first|with_reducible refine ks [] (And.intro @qg_ @hq) ?_|refine kp (And.intro @qg_ @hq) ?_
   refine⟨_,(ke @qg_),trivial, ?_⟩
   rfl
end Go.Proofs
end
section
open Go Go.Proofs Go.Sx Go.StP Go.Flo
namespace Go.Proofs
set_option maxRecDepth 10000
set_option maxHeartbeats 400000
set_option linter.unusedSimpArgs false
def JK_ (i:Nat) (p:PartL):Int:=if p.d=true then(i:Int) - p.b else 0
def vx_ (i:Nat) (p:PartL):List UInt8:=qP_ (zz_ (JK_ i p))++xi_ p.x
def ji_:Nat→List PartL→List UInt8
 |_,[]=> []
 |i,p::r=>vx_ i p++ji_ (i+1) r
def magB:List UInt8:= [83,80,75,49]
def w0_ (l:List PartL):List UInt8:=magB++ (qP_ (zz_ (l.length:Int))++ji_ 0 l)
def wf_ (s:List UInt8) (i a:Nat) (e:Int):PartL×Nat×Int:=
 (⟨decide (0< (zr_ s a e 200).1),if 0< (zr_ s a e 200).1 then(i:Int) - (zr_ s a e 200).1 else 0,(zI_ s (zr_ s a e 200).2.1 (zr_ s a e 200).2.2 65536).1⟩,(zI_ s (zr_ s a e 200).2.1 (zr_ s a e 200).2.2 65536).2)
def zN_ (s:List UInt8):Nat→Nat→Nat→Int→List PartL×List Nat×Nat×Int
 |0,_,a,e=>([],[],a,e)
 |k+1,i,a,e=>if(wf_ s i a e).2.2=0 then((wf_ s i a e).1:: (zN_ s k (i+1) (wf_ s i a e).2.1 0).1,a:: (zN_ s k (i+1) (wf_ s i a e).2.1 0).2.1,(zN_ s k (i+1) (wf_ s i a e).2.1 0).2.2) else([],[],(wf_ s i a e).2)
def jg_ (s:List UInt8):Int×Bool×Nat×Int:=
 if(qD_ s 0 0 4).1=magB then((zr_ s (qD_ s 0 0 4).2.1 (qD_ s 0 0 4).2.2 200).1,(zr_ s (qD_ s 0 0 4).2.1 (qD_ s 0 0 4).2.2 200).2.2==0,(zr_ s (qD_ s 0 0 4).2.1 (qD_ s 0 0 4).2.2 200).2) else(0,false,(qD_ s 0 0 4).2)
def jI_ (s:List UInt8):List PartL×List Nat×Nat×Int:=zN_ s (jg_ s).1.toNat 0 (jg_ s).2.2.1 (jg_ s).2.2.2
def vP_ (b:List UInt8):Option (List PartL×List Nat×List IdL×List ObL):=
 if(zu_ b).2=true∧(jg_ (zu_ b).1).2.1=true∧jq_ (zu_ b).1 (jI_ (zu_ b).1).2.2.1 (jI_ (zu_ b).1).2.2.2=0 then(fillV (jI_ (zu_ b).1).1).map fun q=>((jI_ (zu_ b).1).1,(jI_ (zu_ b).1).2.1,q) else none
def aa4_ (l:List PartL):List UInt8×Int:=match fillV l with
 |some _=>(q9_ (w0_ l),0)
 |none=>([],1)
instance:DecidableEq ObL:=fun a b=>if h:a.k=b.k∧a.t=b.t then .isTrue (by cases a;cases b;simp only at h;obtain⟨rfl,rfl⟩:=h;rfl) else .isFalse (fun e=>h (by rw[e];exact⟨rfl,rfl⟩))
def Xo_ (l:List PartL):Nat→List ObL
 |0=> []
 |k+1=>match partV l (k:Nat) with
  | .ok s=>if Jt_ s=true∧zt_ s∉Xo_ l k then Xo_ l k++ [zt_ s] else Xo_ l k
  | .error _=>Xo_ l k
def ast_ (b:List UInt8):List ObL:=if(jg_ b).2.1=true then Xo_ (jI_ b).1 (jI_ b).1.length else []
def Ju_ (i:Nat) (p:PartL):Prop:=(if p.d=true then 0≤p.b∧p.b<i∧(i:Int)≤200 else p.b=0)∧p.x.length≤65536
def QU_:Nat→List PartL→Prop
 |_,[]=>True
 |i,p::r=>Ju_ i p∧QU_ (i+1) r
theorem apd_ {i:Nat} {p:PartL} (h:Ju_ i p): ∃n:Nat,JK_ i p=n∧n≤200∧(0<n↔p.d=true):=by
 unfold Ju_ at h
 unfold JK_
 by_cases hd:p.d=true
 ·rw[if_pos hd] at h ⊢
  exact⟨((i:Int) - p.b).toNat,by omega,by omega,⟨fun _=>hd,fun _=>by omega⟩⟩
 ·rw[if_neg hd]
  exact⟨0,rfl,by omega,⟨fun h=>by omega,fun h=>absurd h hd⟩⟩
theorem aoO_ {i n:Nat} {p:PartL} (h:Ju_ i p) (hf:JK_ i p=n) (hn:0<n↔p.d=true): (⟨decide (0< (n:Int)),if 0< (n:Int) then(i:Int) - (n:Int) else 0,p.x⟩:PartL)=p:=by
 obtain⟨d,b,x⟩:=p
 unfold Ju_ at h
 unfold JK_ at hf
 simp only at h hf hn ⊢
 cases d
 ·rw[if_neg (by simp)] at h hf
  have: ¬0< (n:Int):=by omega
  rw[if_neg this,decide_eq_false this,h.1]
 ·rw[if_pos rfl] at h hf
  have:0< (n:Int):=by have:=hn.2 rfl;omega
  rw[if_pos this,decide_eq_true this]
  congr 1
  omega
theorem agq_ (A r:List UInt8) {i:Nat} {p:PartL} (h:Ju_ i p):wf_ (A++ (vx_ i p++r)) i A.length 0=(p,A.length+ (vx_ i p).length,0):=by
 obtain⟨n,hf,hn,hd⟩:=apd_ h
 have hx:=h.2
 have h1:=kI_ A (xi_ p.x++r) n 200 (by omega) (by omega)
 have h2:=agM_ (A++qP_ n) p.x r 65536 (by omega) (by omega)
 rw[List.append_assoc,List.length_append] at h2
 unfold wf_ vx_
 rw[hf,jl_ (by omega),List.append_assoc,h1]
 simp only
 rw[h2,aoO_ h hf hd,List.length_append,Nat.add_assoc]
def Xg_:Nat→Nat→List PartL→List Nat
 |_,_,[]=> []
 |i,a,p::r=>a::Xg_ (i+1) (a+ (vx_ i p).length) r
theorem Kn_ (r:List UInt8): ∀ (l:List PartL) (A:List UInt8) (i:Nat),QU_ i l→zN_ (A++ (ji_ i l++r)) l.length i A.length 0=(l,Xg_ i A.length l,A.length+ (ji_ i l).length,0)
 | [],A,i,_=>by simp[zN_,ji_,Xg_]
 |p::l,A,i,h=>by
  have h1:=agq_ A (ji_ (i+1) l++r) h.1
  have h2:=Kn_ r l (A++vx_ i p) (i+1) h.2
  rw[List.append_assoc,List.length_append] at h2
  unfold ji_
  rw[List.length_cons,List.append_assoc]
  unfold zN_
  rw[h1]
  simp only[↓reduceIte]
  rw[h2]
  simp only[Xg_,List.length_append,Nat.add_assoc]
theorem afG_ {n:Nat} (h:n≤200):zz_ (n:Int)=n:=jl_ (by omega)
theorem aiH_ (x:List UInt8) {n:Nat} (h:n≤200):jg_ (magB++ (qP_ n++x))=((n:Int),true,4+ (qP_ n).length,0):=by
 have h0:=QJ_ [] magB (qP_ n++x)
 have h1:=kI_ magB x n 200 (by omega) (by omega)
 simp only[List.nil_append,List.length_nil,Nat.zero_add] at h0
 have e4:magB.length=4:=rfl
 rw[e4] at h0 h1
 unfold jg_
 rw[show((4:Nat):Int)=4 from rfl] at h0
 rw[h0]
 simp only[↓reduceIte]
 rw[h1]
 rfl
theorem aiV_ {l:List PartL} (h:QU_ 0 l) (hl:l.length≤200) (r:List UInt8):jg_ (w0_ l++r)=((l.length:Int),true,4+ (qP_ l.length).length,0)∧
  jI_ (w0_ l++r)=(l,Xg_ 0 (4+ (qP_ l.length).length) l,(w0_ l).length,0):=by
 have e:w0_ l++r=magB++ (qP_ l.length++ (ji_ 0 l++r)):=by unfold w0_;rw[afG_ hl,List.append_assoc,List.append_assoc]
 have hh:=aiH_ (ji_ 0 l++r) hl
 have hp:=Kn_ r l (magB++qP_ l.length) 0 h
 rw[List.append_assoc,List.length_append,show magB.length=4 from rfl] at hp
 refine⟨by rw[e];exact hh, ?_⟩
 unfold jI_
 rw[e,hh]
 simp only[Int.toNat_natCast]
 rw[hp]
 unfold w0_
 rw[afG_ hl]
 simp only[List.length_append,show magB.length=4 from rfl,Nat.add_assoc]
theorem Jy_ (s:List UInt8):zu_ (q9_ s)=(s,true):=by
 have hl:=QE_ s
 have ht: (q9_ s).take ((q9_ s).length - 4)=s:=by rw[hl,Nat.add_sub_cancel];unfold q9_;rw[List.take_left]
 unfold zu_
 rw[if_neg (by omega),ht,if_pos rfl]
theorem ai2_ (s:List UInt8):jq_ s s.length 0=0:=by unfold jq_;rw[if_neg (by simp),if_neg (by omega)]
theorem ahe_ {l:List PartL} {ts:List (List UInt8)} (h:ZC_ l= .ok ts) (hx: ∀p,p∈l→p.x.length≤65536):QU_ 0 l∧l.length≤200:=by
 unfold ZC_ at h
 split at h
 ·cases h
 ·rename_i h2
  refine⟨?_,by omega⟩
  have hkk: ∀k,k<l.length→Ju_ k (l.getD k z5_):=by
   intro k hk
   have hp:=vQ_ _ _ h k hk
   unfold partV at hp
   refine⟨?_,hx _ (Ql_ hk)⟩
   cases hq:q0_ l (k:Nat) with
   |error e=>rw[hq] at hp;cases hp
   |ok p=>
    rcases xx_ hk hq with⟨-,hd,hb⟩ | ⟨b,q,-,hd,hb,hlt,-⟩
    ·rw[if_neg (by rw[hd];decide),hb]
    ·rw[if_pos hd,hb];omega
  have go: ∀ (m:List PartL) (i:Nat),(∀k,k<m.length→Ju_ (i+k) (m.getD k z5_))→QU_ i m:=by
   intro m
   induction m with
   |nil=>intro i _;trivial
   |cons p r ih=>
    intro i hm
    refine⟨by simpa using hm 0 (by simp),ih (i+1) fun k hk=> ?_⟩
    have:=hm (k+1) (by simp;omega)
    rw[List.getD_cons_succ,show i+ (k+1)=i+1+k by omega] at this
    exact this
  exact go l 0 fun k hk=>by rw[Nat.zero_add];exact hkk k hk
end Go.Proofs
end
section
open Go Go.Proofs Go.Sx Go.StP Go.Flo
namespace Go.Proofs
set_option maxRecDepth 10000
set_option maxHeartbeats 400000
set_option linter.unusedSimpArgs false
theorem XF_ {s:List UInt8}: ∀ (k i a:Nat) (e:Int),(zN_ s k i a e).1.length≤k∧(zN_ s k i a e).2.1.length=(zN_ s k i a e).1.length
 |0,i,a,e=>⟨Nat.le_refl _,rfl⟩
 |k+1,i,a,e=>by
  have:=XF_ (s:=s) k (i+1) (wf_ s i a e).2.1 0
  unfold zN_
  split
  ·simp only[List.length_cons];omega
  ·simp
theorem ahF_ {s:List UInt8} {a:Nat} {e:Int} (h:jq_ s a e=0):e=0∧s.length≤a:=by
 unfold jq_ at h
 split at h
 ·rename_i h0;exact absurd h h0
 ·rename_i h0
  split at h
  ·cases h
  ·exact⟨by omega,by omega⟩
theorem WQ_ {b:List UInt8} (h: (zu_ b).2=true):q9_ (zu_ b).1=b:=by
 unfold zu_ at h ⊢
 split at h
 ·cases h
 ·rename_i h0
  rw[if_neg h0]
  split at h
  ·rename_i h1;rw[if_pos h1];exact h1
  ·cases h
theorem aea_ {l:List PartL} {q:List IdL×List ObL} (h:fillV l=some q) (hx: ∀p,p∈l→p.x.length≤65536):QU_ 0 l∧l.length≤200:=by
 unfold fillV at h
 cases ha:ZC_ l with
 |error e=>rw[ha] at h;cases h
 |ok ts=>exact ahe_ ha hx
theorem agy_ {l:List PartL} {q:List IdL×List ObL} (h:fillV l=some q) (hx: ∀p,p∈l→p.x.length≤65536):vP_ (q9_ (w0_ l))=some (l,Xg_ 0 (4+ (qP_ l.length).length) l,q):=by
 obtain⟨h1,h2⟩:=aea_ h hx
 obtain⟨hh,hr⟩:=aiV_ h1 h2 []
 rw[List.append_nil] at hh hr
 unfold vP_
 rw[Jy_]
 simp only[hh,hr,ai2_,and_self, ↓reduceIte,h,Option.map_some]
end Go.Proofs
end
section
open Go Go.Proofs Go.Sx Go.StP Go.Flo
namespace Go.Proofs
set_option maxRecDepth 10000
set_option maxHeartbeats 400000
set_option linter.unusedSimpArgs false
def magI:List UInt8:= [83,73,88,49]
def rowB (r:RwL):List UInt8:=r.id.l++ (qP_ (zz_ r.place)++qP_ (zz_ r.spot))
def xQ_ (l:List RwL):List UInt8:=(l.map rowB).flatten
def Jg_ (F:List Nat):List Int:=F.map fun(n:Nat)=>(n:Int)
def xY_ (F:List Nat):List UInt8:=xX_ (Jg_ F)
def Zu_ (s:List UInt8) (l:List RwL):List UInt8:=magI++ (s++ (qP_ (zz_ (l.length:Int))++ (xY_ (vg_ l)++xQ_ l)))
def jP_ (s:List UInt8) (l:List RwL):Bool:=JZ_ l l.length&& (decide (s.length=4)&&decide (l.length≤200))
def wd_ (s:List UInt8) (l:List RwL):List UInt8×Int:=if jP_ s l=true then(q9_ (Zu_ s l),0) else([],1)
theorem W0_ {l:List RwL}: ∀ {n j:Nat},JZ_ l n=true→j<n→j6_ (l.getD j rw0)=true∧(j=0∨cmpI (l.getD (j - 1) rw0).id (l.getD j rw0).id<0)
 |0,j,_,h=>absurd h (Nat.not_lt_zero _)
 |n+1,j,h,hj=>by
  unfold JZ_ at h
  simp only[Bool.and_eq_true,Bool.or_eq_true,decide_eq_true_eq] at h
  by_cases e:j=n
  ·subst e;exact⟨h.2,h.1.2⟩
  ·exact W0_ h.1.1 (by omega)
theorem cmpI_lt {x y:IdL}:cmpI x y<0↔ltB x.l y.l=true:=by
 unfold cmpI cmpS
 cases h1:ltB x.l y.l<;>cases h2:ltB y.l x.l<;>simp
theorem aj3_ {l:List RwL} {n:Nat} (h:JZ_ l n=true) {i:Nat}: ∀ {j:Nat},i<j→j<n→ltB (l.getD i rw0).id.l (l.getD j rw0).id.l=true
 |0,hij,_=>absurd hij (Nat.not_lt_zero _)
 |j+1,hij,hj=>by
  have h2:ltB (l.getD j rw0).id.l (l.getD (j+1) rw0).id.l=true:=by
   rcases(W0_ h hj).2 with h1|h1
   ·omega
   ·exact cmpI_lt.1 h1
  by_cases e:i=j
  ·subst e;exact h2
  ·exact Kz_ (aj3_ h (by omega) (by omega)) h2
theorem v0_ {l:List RwL} {i:Nat} (h:i<l.length):l.getD i rw0=l[i]:=by rw[List.getD_eq_getElem?_getD,List.getElem?_eq_getElem h];rfl
theorem abQ_ {l:List RwL} (h:JZ_ l l.length=true):rws_SortOf l l:=by
 refine⟨rfl, ?_,St.refl _ _⟩
 refine List.pairwise_iff_getElem.2 fun i j hi hj hij=> ?_
 have:=aj3_ h hij hj
 rw[v0_ hi,v0_ hj] at this
 exact XJ_ this
theorem vD_ {s:List UInt8} {l:List RwL} (h:jP_ s l=true):JZ_ l l.length=true∧s.length=4∧l.length≤200:=by
 unfold jP_ at h
 simpa only[Bool.and_eq_true,decide_eq_true_eq] using h
def numP (s:List UInt8) (q:Nat×Int):Int×Nat×Int:=zr_ s q.1 q.2 1099511627775
def Wb_ (s:List UInt8) (a:Nat) (e:Int):RwL×Nat×Int:=
 (⟨vc_ (idR s a e).1,(numP s (idR s a e).2).1,(numP s (numP s (idR s a e).2).2).1⟩,(numP s (numP s (idR s a e).2).2).2)
def wo_ (s:List UInt8):Nat→Nat×Int→List RwL×Nat×Int
 |0,q=>([],q)
 |k+1,q=>((Wb_ s q.1 q.2).1:: (wo_ s k (Wb_ s q.1 q.2).2).1,(wo_ s k (Wb_ s q.1 q.2).2).2)
def Qe_ (s:List UInt8) (m:Int):Nat→Nat×Int→Nat×Int
 |0,q=>q
 |k+1,q=>Qe_ s m k (zr_ s q.1 q.2 m).2
def v4_ (s:List UInt8) (f:Int→Int):List UInt8×List RwL×Nat×Int:=
 ((qD_ s 0 0 8).1.drop 4,wo_ s (zr_ s (qD_ s 0 0 8).2.1 (qD_ s 0 0 8).2.2 200).1.toNat (Qe_ s (f (zr_ s (qD_ s 0 0 8).2.1 (qD_ s 0 0 8).2.2 200).1) 16 (zr_ s (qD_ s 0 0 8).2.1 (qD_ s 0 0 8).2.2 200).2))
theorem akH_ {r:RwL} (h:j6_ r=true): ∃p q:Nat,r.place=p∧r.spot=q∧p≤1099511627775∧q≤1099511627775:=by
 unfold j6_ at h
 simp only[Bool.and_eq_true,Bool.not_eq_true',decide_eq_false_iff_not] at h
 exact⟨r.place.toNat,r.spot.toNat,by omega,by omega,by omega,by omega⟩
theorem ale_ (A x:List UInt8) {r:RwL} (h:j6_ r=true):Wb_ (A++ (rowB r++x)) A.length 0=(r,A.length+ (rowB r).length,0):=by
 obtain⟨p,q,hp,hq,p1,q1⟩:=akH_ h
 obtain⟨i,pl,sp⟩:=r
 simp only at hp hq
 subst hp hq
 have e:rowB ⟨i,(p:Int),(q:Int)⟩=i.l++ (qP_ p++qP_ q):=by unfold rowB;rw[jl_ p1,jl_ q1]
 have e2:A++ (rowB ⟨i,(p:Int),(q:Int)⟩++x)=A++ (i.l++ (qP_ p++ (qP_ q++x))):=by rw[e];simp only[List.append_assoc]
 have h1:=amF_ A (qP_ p++ (qP_ q++x)) i
 have h2:=kI_ (A++i.l) (qP_ q++x) p 1099511627775 p1 (by omega)
 have h3:=kI_ (A++ (i.l++qP_ p)) x q 1099511627775 q1 (by omega)
 simp only[List.append_assoc,List.length_append,i.h] at h2 h3
 unfold Wb_ numP
 rw[e2,h1]
 simp only
 rw[h2]
 simp only
 rw[Nat.add_assoc,h3,aoe_,e]
 simp only[List.length_append,i.h,Nat.add_assoc]
theorem aa1_ (x:List UInt8): ∀ (l:List RwL) (A:List UInt8),(∀r,r∈l→j6_ r=true)→wo_ (A++ (xQ_ l++x)) l.length (A.length,0)=(l,A.length+ (xQ_ l).length,0)
 | [],A,_=>by simp[wo_,xQ_]
 |r::l,A,h=>by
  have h1:=ale_ A (xQ_ l++x) (h r List.mem_cons_self)
  have h2:=aa1_ x l (A++rowB r) fun y hy=>h y (List.mem_cons_of_mem _ hy)
  have e:xQ_ (r::l)=rowB r++xQ_ l:=by simp[xQ_]
  simp only[List.append_assoc,List.length_append] at h2
  rw[List.length_cons,e,List.append_assoc]
  unfold wo_
  simp only
  rw[h1]
  simp only
  rw[h2,List.length_append,Nat.add_assoc]
theorem acm_ (x:List UInt8) (m:Int): ∀ (F:List Nat) (A:List UInt8),(∀n,n∈F→(n:Int)≤m∧n≤1099511627775)→Qe_ (A++ (xY_ F++x)) m F.length (A.length,0)=(A.length+ (xY_ F).length,0)
 | [],A,_=>by simp[Qe_,xY_,Jg_,xX_]
 |n::F,A,h=>by
  obtain⟨h0,h0'⟩:=h n List.mem_cons_self
  have h1:=kI_ A (xY_ F++x) n m h0' h0
  have h2:=acm_ x m F (A++qP_ n) fun y hy=>h y (List.mem_cons_of_mem _ hy)
  have e:xY_ (n::F)=qP_ n++xY_ F:=by
   have:xY_ (n::F)=qP_ (zz_ (n:Int))++xY_ F:=by simp[xY_,Jg_,xX_]
   rw[this,jl_ h0']
  simp only[List.append_assoc,List.length_append] at h2
  rw[List.length_cons,e,List.append_assoc]
  unfold Qe_
  simp only
  rw[h1]
  simp only
  rw[h2,List.length_append,Nat.add_assoc]
theorem aqV_ {l:List RwL} {n:Nat} (h:n∈vg_ l):n≤l.length:=by
 unfold vg_ at h
 obtain⟨d,-,rfl⟩:=List.mem_map.1 h
 exact List.countP_le_length
theorem ai8_ {s:List UInt8} {l:List RwL} (f:Int→Int) (h:jP_ s l=true) (hf: (l.length:Int)≤f l.length):v4_ (Zu_ s l) f=(s,l,(Zu_ s l).length,0):=by
 obtain⟨h1,h2,h3⟩:=vD_ h
 have hr: ∀r,r∈l→j6_ r=true:=fun r hr=>by
  obtain⟨j,hj,rfl⟩:=List.getElem_of_mem hr
  rw[←v0_ hj]
  exact(W0_ h1 hj).1
 have hn:zz_ (l.length:Int)=l.length:=jl_ (by omega)
 have e:Zu_ s l=(magI++s)++ (qP_ l.length++ (xY_ (vg_ l)++xQ_ l)):=by unfold Zu_;rw[hn];simp only[List.append_assoc]
 have h8: (magI++s).length=8:=by rw[List.length_append,h2];rfl
 have a1:=QJ_ [] (magI++s) (qP_ l.length++ (xY_ (vg_ l)++xQ_ l))
 have a2:=kI_ (magI++s) (xY_ (vg_ l)++xQ_ l) l.length 200 (by omega) (by omega)
 have a3:=acm_ (xQ_ l) (f l.length) (vg_ l) ((magI++s)++qP_ l.length) fun n hn'=>by have:=aqV_ hn';omega
 have a4:=aa1_ [] l ((magI++s)++ (qP_ l.length++xY_ (vg_ l))) hr
 rw[List.nil_append,List.length_nil,Nat.zero_add,h8] at a1
 rw[h8] at a2
 rw[J2_] at a3
 simp only[List.append_assoc,List.length_append,List.append_nil] at a1 a2 a3 a4 h8 e
 unfold v4_
 rw[e]
 rw[show((8:Nat):Int)=8 from rfl] at a1
 rw[a1]
 show(List.drop 4 (magI++s),wo_ _ (zr_ _ 8 0 200).1.toNat (Qe_ _ (f (zr_ _ 8 0 200).1) 16 (zr_ _ 8 0 200).2))=_
 rw[a2]
 simp only[Int.toNat_natCast]
 rw[←Nat.add_assoc,h8] at a3 a4
 rw[a3,Nat.add_assoc,a4]
 refine Prod.ext ?_ (Prod.ext rfl (Prod.ext ?_ rfl))
 ·show(magI++s).drop 4=s
  rw[show(4:Nat)=magI.length from rfl,List.drop_left]
 ·simp only[List.length_append];omega
def agj_ (b:List UInt8):Option (List UInt8×List RwL):=
 if jq_ (zu_ b).1 (v4_ (zu_ b).1 id).2.2.1 (v4_ (zu_ b).1 id).2.2.2=0∧jP_ (v4_ (zu_ b).1 id).1 (v4_ (zu_ b).1 id).2.1=true∧q9_ (Zu_ (v4_ (zu_ b).1 id).1 (v4_ (zu_ b).1 id).2.1)=b then some ((v4_ (zu_ b).1 id).1,(v4_ (zu_ b).1 id).2.1) else none
theorem openI_iff {b s:List UInt8} {l:List RwL}:agj_ b=some (s,l)↔jP_ s l=true∧b=q9_ (Zu_ s l):=by
 unfold agj_
 constructor
 ·intro h
  split at h
  ·rename_i hc
   simp only[Option.some.injEq,Prod.mk.injEq] at h
   obtain⟨rfl,rfl⟩:=h
   exact⟨hc.2.1,hc.2.2.symm⟩
  ·cases h
 ·rintro⟨h1,rfl⟩
  rw[Jy_,ai8_ id h1 (Int.le_refl _)]
  simp only
  rw[if_pos ⟨ai2_ _,h1,by trivial⟩]
theorem adl_ {s:List UInt8} {l:List RwL} (h:jP_ s l=true):agj_ (q9_ (Zu_ s l))=some (s,l):=openI_iff.2 ⟨h,rfl⟩
def asG_ (b:List UInt8):Prop:=(zu_ b).2=true∧8≤ (zu_ b).1.length∧jq_ (zu_ b).1 (v4_ (zu_ b).1 fun _=>200).2.2.1 (v4_ (zu_ b).1 fun _=>200).2.2.2=0∧jP_ (v4_ (zu_ b).1 fun _=>200).1 (v4_ (zu_ b).1 fun _=>200).2.1=true∧q9_ (Zu_ (v4_ (zu_ b).1 fun _=>200).1 (v4_ (zu_ b).1 fun _=>200).2.1)=b
def asV_ (l:List RwL) (x:IdL):RwL×Bool:=match l.find? (fun r=>r.id.l==x.l) with
 |some r=>(r,true)
 |none=>(rw0,false)
def asm_ (l:List RwL) (d:Nat):Nat:=if d=0 then 0 else Q3_ l (d - 1)
theorem ah5_ (l:List RwL) (d:Nat):Q3_ l d≤l.length:=List.countP_le_length
end Go.Proofs
end
section
open Go Go.Proofs Go.Sx Go.StP Go.Flo
namespace Go.Proofs
set_option maxRecDepth 10000
set_option maxHeartbeats 400000
set_option linter.unusedSimpArgs false
def pkO (v0 v1 v2 v3:Value):Obj:= .cells #[v0,v1,v2,v3] 117 (0,0)
theorem Wh_ (v0 v1 v2 v3:Value) (n:Nat):zs_ (some (false,n)) (some (pkO v0 v1 v2 v3)) 0=some v0:=(rfl)
theorem afV_ (v0 v1 v2 v3:Value) (n:Nat):zs_ (some (false,n)) (some (pkO v0 v1 v2 v3)) 1=some v1:=(rfl)
theorem aeZ_ (v0 v1 v2 v3:Value) (n:Nat):zs_ (some (false,n)) (some (pkO v0 v1 v2 v3)) 2=some v2:=(rfl)
theorem afB_ (v0 v1 v2 v3:Value) (n:Nat):zs_ (some (false,n)) (some (pkO v0 v1 v2 v3)) 3=some v3:=(rfl)
theorem Xs_ (v0 v1 v2 v3 q:Value) (a:Bool) (hq:Value.oneCell' q=true∧q.cells= #[q]):zl_ (some (a,1)) (some (pkO v0 v1 v2 v3)) 2 q=some (pkO v0 v1 q v3):=
 zS_ [v0,v1] [v2] [q] [v3] a _ 117 rfl rfl hq.2 rfl (by simp[hq.1])
theorem XI_ (v0 v1 v2 v3 q:Value) (a:Bool) (hq:Value.oneCell' q=true∧q.cells= #[q]):zl_ (some (a,1)) (some (pkO v0 v1 v2 v3)) 3 q=some (pkO v0 v1 v2 q):=
 zS_ [v0,v1,v2] [v3] [q] [] a _ 117 rfl rfl hq.2 rfl (by simp[hq.1])
theorem Qf_ {s:List UInt8} {a:Nat} {most:Int} (ha:a≤s.length) (h: (zr_ s a 0 most).2.2=0): (zr_ s a 0 most).2.1≤a+6:=by
 have hl:=zO_ (e:=0) (most:=most) ha
 obtain⟨n,-,hb,-,hd⟩:=Zn_ h
 have h6:=xF_ 6 n (by omega) (by omega)
 have:=congrArg List.length hd
 simp only[List.length_drop,List.length_append] at this
 omega
theorem anu_ {d:List UInt8} {a:Nat} (ha:a≤d.length) (h: (pcR d a).2.2=0): (pcR d a).2.1≤a+4111:=by
 have hl:=zO_ (s:=d) (a:=a) (e:=0) (most:=8199) ha
 have hm:=z9_ (s:=d) (a:=a) (e:=0) (most:=8199) (by omega)
 have hz: (zr_ d a 0 8199).2.2=0:=by
  by_cases he: (zr_ d a 0 8199).2.2=0
  ·exact he
  ·unfold pcR at h
   split at h
   ·have:=ZD_ (s:=d) (a:=(zr_ d a 0 8199).2.1) (most:=4099) he
    simp only[this] at h
    exact absurd h he
   ·have:=VY_ (s:=d) (a:=(zr_ d a 0 8199).2.1) (n:=(zr_ d a 0 8199).1 / 2) he
    simp only[this] at h
    exact absurd h he
 have h1:=Qf_ ha hz
 unfold pcR at h ⊢
 split
 ·rename_i hc
  rw[if_pos hc] at h
  simp only at h ⊢
  rw[hz] at h ⊢
  have:=Qf_ hl.2 h
  omega
 ·rename_i hc
  rw[if_neg hc] at h
  simp only at h ⊢
  rw[hz] at h ⊢
  unfold qD_ at h ⊢
  rw[if_neg (by simp)] at h ⊢
  split at h
  ·cases h
  ·rename_i h2
   rw[if_neg h2]
   split at h
   ·cases h
   ·rename_i h3
    rw[if_neg h3]
    simp only
    omega
theorem afF_ {d:List UInt8}: ∀ (k a:Nat),d.length - a≤k→a≤d.length→(pcs d a).2.2=0→(pcs d a).2.1≤a+ (pcs d a).1.length*4111
 |k,a,hk,ha,h=>by
  by_cases hlt:a<d.length
  ·by_cases he: (pcR d a).2.2=0
   ·have hu:=KE_ ha he
    have hl:=abh_ ha
    have hs:=anu_ ha he
    rw[abC_ hlt he] at h ⊢
    cases k with
    |zero=>omega
    |succ k=>
     have:=afF_ k _ (by omega) hl.2 h
     simp only[List.length_cons]
     omega
   ·rw[XG_ hlt he] at h
    exact absurd h he
  ·rw[WB_ hlt];simp
theorem af4_ {d:List UInt8} {p:Nat×List PcL} (h:x5_ d=some p):d.length≤17000000:=by
 unfold x5_ at h
 split at h
 ·cases h
 ·rename_i h1
  split at h
  ·cases h
  ·rename_i h2
   split at h
   ·rename_i h3
    have l1:=zO_ (s:=d) (a:=0) (e:=0) (most:=4099) (Nat.zero_le _)
    have l2:=zO_ (s:=d) (a:=(zr_ d 0 0 4099).2.1) (e:=(zr_ d 0 0 4099).2.2) (most:=4099) l1.2
    have e1: (zr_ d 0 0 4099).2.2=0:=Decidable.byContradiction fun hn=>by rw[ZD_ hn] at h1;exact h1 hn
    have s1:=Qf_ (Nat.zero_le _) e1
    have s2: (zr_ d (zr_ d 0 0 4099).2.1 (zr_ d 0 0 4099).2.2 4099).2.1≤ (zr_ d 0 0 4099).2.1+6:=by
     rw[e1] at h1 ⊢
     exact Qf_ l1.2 (by omega)
    obtain⟨-,-,-,-,-,hc⟩:=QS_ h3
    have s3:=afF_ _ _ (Nat.le_refl _) l2.2 (by omega)
    have s4:=anO_ _ _ (Nat.le_refl _) l2.2 (by omega)
    have: (pcs d (zr_ d (zr_ d 0 0 4099).2.1 (zr_ d 0 0 4099).2.2 4099).2.1).1.length*4111≤4099*4111:=Nat.mul_le_mul_right _ hc
    omega
   ·cases h
theorem ahm_ {b d:List UInt8} (_h: (qN_ b d).2=0): (qN_ b d).1.length≤4099:=by
 unfold qN_
 split
 ·simp
 ·rename_i p hp
  split
  ·simp
  ·rename_i hb
   obtain⟨m,hm⟩:=Q5_ hp
   rw[show p.1=b.length by omega] at hm
   have hk:vH_ (b.length:Nat) p.2=(((kM_ (b.length:Nat) p.2:Nat):Int),(0:Int)):=by
    unfold vH_ at hm ⊢
    split at hm
    ·cases hm
    ·rename_i h1
     rw[if_neg h1]
     split at hm
     ·cases hm
     ·rename_i h2
      rw[if_neg h2]
      split at hm
      ·cases hm
      ·rename_i h3;rw[if_neg h3]
   obtain⟨-,-,h1,h2,-⟩:=QS_ hk
   show(txtP b p.2).length≤4099
   rw[Z9_ h1]
   exact h2
theorem aiJ_ {l:List PartL} {a:Int} {s:List UInt8} (h:partV l a= .ok s):s.length≤4099:=by
 unfold partV at h
 cases hp:q0_ l a with
 |error e=>rw[hp] at h;cases h
 |ok p=>
  rw[hp] at h
  change xZ_ l p= .ok s at h
  cases p with
  |nil=>cases h;simp
  |cons x p=>
   unfold xZ_ at h
   cases hf:xZ_ l p with
   |error e=>rw[hf] at h;cases h
   |ok t=>
    rw[hf] at h
    change(if(q2_ (l.getD x z5_) t).2=0 then _ else _)=_ at h
    split at h
    ·rename_i h0
     cases h
     unfold q2_ at h0 ⊢
     split
     ·rename_i hd;rw[if_pos hd] at h0;exact ahm_ h0
     ·rename_i hd
      split
      ·simp
      ·show(l.getD x z5_).x.length≤4099;omega
    ·cases h
theorem Wn_ {l:List PartL} {ts:List (List UInt8)} (h:ZC_ l= .ok ts):ts.length=l.length∧l.length≤200∧ ∀k,k<ts.length→(ts.getD k []).length≤4099:=by
 unfold ZC_ at h
 split at h
 ·cases h
 ·have:=wp_ _ _ h
  exact⟨this,by omega,fun k hk=>aiJ_ (vQ_ _ _ h k (by omega))⟩
theorem ajx_ {D:ze_} {E:TypeId} {v:Value} {l:List (List UInt8)} (h:GrI D E 1 v l.length (l.map strC).flatten) (hn: (keys D).Nodup):l.length=0∨ ∃b c rest,v=vsl b 0 l.length c∧b∈keys D∧Sx.look D b=some (rowO strC E rest l):=by
 obtain⟨X,hX,h| ⟨h0,-⟩⟩:=h
 ·rcases h.inv with⟨-,h0,-⟩ | ⟨b,c,rest,rfl,hl,h1,h2,h3,h4⟩
  ·exact .inl h0
  ·exact .inr ⟨b,c,rest,rfl,List.mem_map_of_mem (f:=Prod.fst) (hX _ (zJ_ hl)),xA_ hn (hX _ (zJ_ hl))⟩
 ·exact .inl h0
theorem afM_ {E:TypeId} {rest:List Value} {l:List (List UInt8)} (n i:Nat) (hi:i<l.length):zs_ (some (false,n)) (some (rowO strC E rest l)) i=some (vs (l.getD i [])):=by
 unfold rowO zs_
 have e: (l.map strC).flatten=l.map vs:=by
  clear hi
  induction l with
  |nil=>rfl
  |cons a l ih=>rw[List.map_cons,List.flatten_cons,List.map_cons,ih];rfl
 simp only[e]
 rw[List.getElem?_toArray,List.getElem?_append_left (by simpa using hi),List.getElem?_map,List.getElem?_eq_getElem hi,List.getD_eq_getElem?_getD,List.getElem?_eq_getElem hi]
 rfl
theorem ZH_ {D:ze_} {E:TypeId} {m n:Nat} {v:Value} {cs:List Value} (h:GrI D E m v n cs) (x:Bool×Nat):X4_ (.sl x) v=some (vi n):=by
 obtain⟨X,-,h⟩:=h;exact h.len x
def acG_ (l:List PartL) (bp:Nat) (v0 v1:Value) (v:Value) (D:ze_):Prop:=match fillV l with
 |some p=>v= .bool true∧ ∃x2 x3 D',D=(bp,pkO v0 v1 x2 x3)::D'∧GrI D' 37 32 x2 p.1.length (p.1.map wb_).flatten∧GrI D' 43 2 x3 p.2.length (p.2.map obC).flatten
 |none=>v= .bool false
theorem ape_ {w:World} {a:Nat} {x:Obj} (h:w.heap[a]? =some x): ∀p:Nat×Obj,p∈ [(a,x)]→w.heap[p.1]? =some p.2:=by
 intro p hp
 rw[List.mem_singleton] at hp
 subst hp
 exact h
theorem aoB_ {w:World} {b:Nat} {o o':Obj} {D:ze_} (h:New w.heap.size D):Ext w [(b,o)] (D++ [(b,o')]):=⟨fun c hc=>by
 rw[zk_] at hc
 rcases List.mem_append.1 hc with hc|hc
 ·exact .inr (h.le c hc)
 ·exact .inl hc,fun c hc=>by rw[zk_];exact List.mem_append_right _ hc⟩
theorem amY_ {w:World} {b:Nat} {o o':Obj} {D:ze_} (h:New w.heap.size D):Ext w [(b,o)] ((b,o')::D):=⟨fun c hc=>by
 rcases List.mem_cons.1 hc with hc|hc
 ·exact .inl (by rw[hc];exact List.mem_cons_self)
 ·exact .inr (h.le c hc),fun c hc=>by
 rcases List.mem_cons.1 hc with hc|hc
 ·exact List.mem_cons.2 (.inl hc)
 ·cases hc⟩
theorem aaY_ {l:List PartL} {e:Int}: ∀k,kx_ l k= .error e→e≠0
 |0,h=>by cases h
 |k+1,h=>by
  unfold kx_ at h
  cases hg:kx_ l k with
  |error x=>rw[hg] at h;cases h;exact aaY_ k hg
  |ok us=>
   rw[hg] at h
   change(partV l (k:Nat)).map (fun s=>us++ [s])=_ at h
   cases hp:partV l (k:Nat) with
   |error x=>rw[hp] at h;cases h;exact X7_ hp
   |ok s=>rw[hp] at h;cases h
theorem ae4_ {l:List PartL} {e:Int} (h:ZC_ l= .error e):e≠0:=by
 unfold ZC_ at h
 split at h
 ·cases h;decide
 ·exact aaY_ _ h
theorem aeT_ (s:List UInt8) (w:World) (hs:s.length<100000):Rets Tryz.prog 123 #[vs s] w (fun v D=>v= .tuple #[obV (zt_ s).k (zt_ s).t,vi (if Jt_ s then 0 else 2)]∧D= []):=agx_ s w hs
structure FiG where
 k:Nat
 ids:List IdL
 os:List ObL
 x2:Value
 x3:Value
 D2:ze_
 D3:ze_
 DG:ze_
theorem aci_ {l:List PartL} {e:Int} (h:ZC_ l= .error e):fillV l=none:=by unfold fillV;rw[h]
theorem JR_ {l:List PartL} {ts:List (List UInt8)} {k:Nat} {p:List IdL×List ObL} (h:ZC_ l= .ok ts) (hk:k<ts.length) (hp:qM_ (ts.take k) [] []=some p) (hn: ¬ (Jt_ (ts.getD k [])=true∧(p.1.any fun y=>(je_ (ts.getD k [])).l==y.l)=false)):fillV l=none:=by
 unfold fillV
 rw[h]
 show qM_ ts [] []=none
 have e:ts=ts.take (k+1)++ts.drop (k+1):=(List.take_append_drop _ _).symm
 rw[e]
 refine adD_ ?_
 rw[take_snoc (z:= []) hk,ZM_ hp,if_neg hn]
set_option linter.defProp false
def qE_:=And.intro (And.intro (And.intro (@zi_) (And.intro (@zh_) (@Wh_))) (And.intro (@afV_) (And.intro (@aeZ_) (@afB_)))) (And.intro (And.intro (@Sx.tup2_0) (And.intro (@Sx.tup2_1) (@ja_))) (And.intro (And.intro (@qs_) (@qt_)) (And.intro (@qB_) (@j4_))))
theorem acb_ (bp:Nat) (v0 v1:Value) (l:List PartL) (w:World) (hv:k3_ w v0 l) (hG:GlobE w) (hb:BndL l) (hl:l.length<1000000) (ho:w.heap[bp]? =some (pkO v0 v1 (.slice none 0 0) (.slice none 0 0)))
  (hv0:slB v0≠some bp) (hgb:3<bp):
  Rets Tryz.prog 59 #[vp bp 0] w (XS w [(bp,pkO v0 v1 (.slice none 0 0) (.slice none 0 0))] (acG_ l bp v0 v1)):=by
 have hbp:bp<w.heap.size:=(Array.getElem?_eq_some_iff.1 ho).1
 refine Rets.enterX Tryz.func59 rfl (rs:= [.tmp 2]) Tryz.results59 Tryz.ntmps59 (ape_ ho) (by simp[keys]) ?_
 refine kf ?_
 first|with_reducible refine ks [] @qE_ ?_|refine kp @qE_ ?_
 refine Ow.callX (Y:= [(bp,pkO v0 v1 (.slice none 0 0) (.slice none 0 0))]) (by simp) rfl rfl Tryz.call125 (fun w' hw' hX hn=>aja_ v0 l w' (hv.old hw' fun b hbb _=>by simp only[keys,List.map_cons,List.map_nil,List.mem_singleton];rintro rfl;exact hv0 hbb) hb hl) (fun v1' D1 hC1 hS1=> ?_)
 have hN1:New w.heap.size D1:=New.of_le fun c hc=>by
  rcases hC1.new c hc with h|h
  ·cases h
  ·exact h.2
 unfold AllS at hS1
 cases ha:ZC_ l with
 |error e=>
  rw[ha] at hS1
  have hS1':v1'= .tuple #[.slice none 0 0,vi e]:=hS1
  subst hS1'
  have e0: (e !=0)=true:=bne_iff_ne.2 (ae4_ ha)
  refine ko @qE_ ?_
  first|with_reducible refine ks [] (And.intro @qE_ @e0) ?_|refine kp (And.intro @qE_ @e0) ?_
  refine⟨_,(ke @qE_), ?_⟩
  refine⟨aoB_ hN1, ?_⟩
  unfold acG_
  rw[aci_ ha]
  rfl
 |ok ts=>
  rw[ha] at hS1
  obtain⟨x,rfl,hGT⟩:=hS1
  obtain⟨hlen,hl2,htl⟩:=Wn_ ha
  have lnT:=ZH_ hGT
  have e0: ((0:Int) !=0)=false:=rfl
  refine ko @qE_ ?_
  first|with_reducible refine ks [] (And.intro @qE_ (And.intro @e0 (@lnT))) ?_|refine kp (And.intro @qE_ (And.intro @e0 (@lnT))) ?_
  refine Cw.world fun ww hww=> ?_
  have hnd:=hww.nodup
  clear hww ww
  rw[zk_,List.nodup_append] at hnd
  refine Cw.permL (M:=(bp,pkO v0 v1 (.slice none 0 0) (.slice none 0 0)):: (D1++ ([]++ ([]++ [])))) (by classical exact List.perm_iff_count.2 fun a=>by simp only[List.count_append,List.count_cons,List.count_nil]<;>omega) ?_
  refine Cw.loopG (G:=FiG) [24,25,26,6,28,29,27,30,31,7,8,33,34,32,35,36,9,10,37,38,39,40,41,42,43,44,45,46,2,47,48,49,50,51,52,53,54,55,56,57,58,59,60,61,62,63,64,65,66,67,23] (fun g=> [(23,vi g.k)]) (fun g=>(bp,pkO v0 v1 g.x2 g.x3):: (D1++ (g.D2++ (g.D3++g.DG)))) (fun g=>g.k≤ts.length∧qM_ (ts.take g.k) [] []=some (g.ids,g.os)∧New w.heap.size g.D2∧New w.heap.size g.D3∧New w.heap.size g.DG∧Gr g.D2 37 32 g.x2 g.ids.length (g.ids.map wb_).flatten∧Gr g.D3 43 2 g.x3 g.os.length (g.os.map obC).flatten) (fun g=>ts.length - g.k) ⟨0,[],[], .slice none 0 0, .slice none 0 0,[],[],[]⟩ rfl rfl ?_ ?_
  ·exact⟨Nat.zero_le _,rfl,trivial,trivial,trivial,Gr.nl,Gr.nl⟩
  intro g j hg
  refine kv ?_
  obtain⟨k,ids,os,x2,x3,D2,D3,DG⟩:=g
  simp only at hg ⊢
  obtain⟨hk,hfg,hN2,hN3,hNG,hG2,hG3⟩:=hg
  have hNr:New w.heap.size (D1++ (D2++ (D3++DG))):=hN1.app (hN2.app (hN3.app hNG))
  have hfl:=Jf_ _ _ _ _ hfg
  rw[List.length_take,Nat.min_eq_left hk,List.length_nil,List.length_nil,Nat.zero_add] at hfl
  simp only at hfl
  by_cases hlt:k<ts.length
  ·obtain h0| ⟨bt,ct,rest,rfl,hbt,hlk⟩:=ajx_ hGT hnd.1
   ·omega
   have hd:decide ((k:Int)< (ts.length:Int))=true:=decide_eq_true (by omega)
   have hbtn:bp≠bt:=by have:=hN1.le bt hbt;omega
   have rdt:zA_ w ((bp,pkO v0 v1 x2 x3):: (D1++ (D2++ (D3++DG)))) bt=some (rowO strC 9 rest ts):=z6_ (by rw[qw_ _ _ _ _ hbtn];exact qR_ hlk)
   have ldt:=afM_ (E:=9) (rest:=rest) 1 k hlt
   have hsl:=htl k hlt
   first|with_reducible refine ks [8,12] (And.intro @qE_ (And.intro @hd (And.intro @rdt (@ldt)))) ?_|refine kp (And.intro @qE_ (And.intro @hd (And.intro @rdt (@ldt)))) ?_
   generalize hs:ts.getD k []=s at*
   refine Ow.callFV rfl Tryz.call123 (fun w' hw'=>aeT_ s w' (by omega)) ?_
   refine ko @qE_ ?_
   refine Ow.alloc rfl rfl zrOb fun b7 hb7 hw7=> ?_
   simp only[zc_,List.nil_append,List.cons_append]
   have hbp7:bp<b7:=zf_ hb7 (by simp[keys])
   refine Ow.permL (M:=(b7, .cells #[vi 0,vs []] 43 (0,0)):: (bp,pkO v0 v1 x2 x3):: (D1++ (D2++ (D3++DG)))) (by classical exact List.perm_iff_count.2 fun a=>by simp only[List.count_append,List.count_cons,List.count_nil]<;>omega) ?_
   refine ko @qE_ ?_
   first|with_reducible refine ks [] @qE_ ?_|refine kp @qE_ ?_
   refine Ow.callFV rfl Tryz.call126 (fun w' hw'=>alj_ (zt_ s).k (zt_ s).t w' (hG.of hw' (by intro b hb;simp only[keys,List.map_cons,List.mem_cons] at hb;rcases hb with rfl|rfl|hb<;>first|omega| (have:=hNr.le b hb;omega)))) ?_
   rw[show idV (zt_ s).k (zt_ s).t=je_ s from rfl]
   have hil:=(je_ s).h
   have hi0:=id0.h
   refine ko @qE_ ?_
   refine Ow.alloc rfl rfl wv_ fun b9 hb9 hw9=> ?_
   simp only[zc_,List.nil_append,List.cons_append]
   have hb79:b7<b9:=zf_ hb9 (by simp[keys])
   refine Ow.permL (M:=(b9, .cells (a8 id0.l) 37 (0,0)):: (b7, .cells #[vi (zt_ s).k,vs (zt_ s).t] 43 (0,0)):: (bp,pkO v0 v1 x2 x3):: (D1++ (D2++ (D3++DG)))) (by classical exact List.perm_iff_count.2 fun a=>by simp only[List.count_append,List.count_cons,List.count_nil]<;>omega) ?_
   refine ko @qE_ ?_
   obtain⟨O7,hO7⟩: ∃O,O=Obj.cells #[vi (zt_ s).k,vs (zt_ s).t] 43 (0,0):=⟨_,rfl⟩
   obtain⟨O9,hO9⟩: ∃O,O=Obj.cells (a8 (je_ s).l) 37 (0,0):=⟨_,rfl⟩
   have hEx: ∀M,New w.heap.size M→Ext w [(bp,pkO v0 v1 (.slice none 0 0) (.slice none 0 0))] ((b9,O9):: (b7,O7):: (bp,pkO v0 v1 x2 x3)::M):=fun M hM=>⟨fun c hc=>by
    simp only[keys,List.map_cons,List.mem_cons,List.map_nil,List.not_mem_nil,or_false] at hc ⊢
    rcases hc with h|h|h|h
    ·exact .inr (by omega)
    ·exact .inr (by omega)
    ·exact .inl h
    ·exact .inr (hM.le c h),fun c hc=>by
    simp only[keys,List.map_cons,List.mem_cons,List.map_nil,List.not_mem_nil,or_false] at hc ⊢
    exact .inr (.inr (.inl hc))⟩
   cases hfr:Jt_ s with
   |false=>
    rw[show(if(false:Bool)=true then(0:Int) else 2)=2 from rfl]
    have e1: ((2:Int) !=0)=true:=rfl
    have hno:fillV l=none:=JR_ ha hlt hfg (by rw[hs,hfr];rintro⟨h,-⟩;cases h)
    refine Cw.regionS [bp,b9] [0,1,2,3,4,5,6,7,8,9] [] (by kernel_rfl) (by kernel_rfl) (by kernel_rfl) ?_
    simp only[zg_, ↓zd_, ↓zb_, ↓zp_, ↓zq_,za_]
    refine kq (And.intro @qE_ @e1) ?_
    rw[←hO7,←hO9]
    first|with_reducible refine ks [] @qE_ ?_|refine kp @qE_ ?_
    refine⟨_,(ke @qE_), ?_⟩
    refine⟨hEx _ hNr, ?_⟩
    unfold acG_
    rw[hno]
    rfl
   |true=>
    rw[show(if(true:Bool)=true then(0:Int) else 2)=0 from rfl]
    have e1: ((0:Int) !=0)=false:=rfl
    refine Cw.regionS [bp,b9] [0,1,2,3,4,5,6,7,8,9] [] (by kernel_rfl) (by kernel_rfl) (by kernel_rfl) ?_
    simp only[zg_, ↓zd_, ↓zb_, ↓zp_, ↓zq_,za_]
    refine kq (And.intro @qE_ @e1) ?_
    refine Ow.callFV rfl Tryz.call127 (fun w' hw'=>wT_ x2 ids (je_ s) w' (hG2.slM (fun b o hm=>hw'.has b o (by simp only[List.mem_cons,List.mem_append];exact .inr (.inr (.inr (.inr (.inl hm)))))) rfl rfl qZ_) (by omega)) ?_
    cases hct: (ids.any fun y=>(je_ s).l==y.l) with
    |true=>
     have hno:fillV l=none:=JR_ ha hlt hfg (by rw[hs];rintro⟨-,h⟩;rw[hct] at h;cases h)
     refine kq @qE_ ?_
     rw[←hO7,←hO9]
     first|with_reducible refine ks [] @qE_ ?_|refine kp @qE_ ?_
     refine⟨_,(ke @qE_), ?_⟩
     refine⟨hEx _ hNr, ?_⟩
     unfold acG_
     rw[hno]
     rfl
    |false=>
     refine kq @qE_ ?_
     have hfg':qM_ (ts.take (k+1)) [] []=some (ids++ [je_ s],os++ [zt_ s]):=by rw[take_snoc (z:= []) hlt,hs,ZM_ hfg,if_pos ⟨hfr,hct⟩]
     refine Cw.regionG [bp,b7,b9] [18,21] 22 (by kernel_rfl) rfl ?_
     simp only[List.replicate_succ,List.replicate_zero]
     refine OwG.run [0,1,2,3,4,5,6,9,10,11,12,13] [true,true,true,true,true,true,true,false,false,true,true,true,true,true,false,false,false,false,false,false,false,false] 10 rfl (by kernel_rfl) (by kernel_rfl) fun k hk=> ?_
     simp only[zg_, ↓zd_, ↓zb_, ↓zp_, ↓zq_,za_]
     simp(disch:=(first|assumption|omega| (simp only[xg_,xe_,UInt64.reduceToNat];try omega))) only[↓Sx.S0,Sx.S1,Tryz.fx,qE_,Nat.reduceAdd,Nat.reducePow,Int.reducePow,Nat.reduceBEq, ↓reduceIte,UInt8.reduceToNat,UInt16.reduceToNat,UInt32.reduceToNat,UInt64.reduceToNat,Int.reduceToNat,Md.next_sofnil,Md.next_sofnil]
     (with_reducible refine hk _ _ _ ?_);clear hk k
     rw[←hO7,←hO9]
     refine OwG.two 7 14 _ _ (by kernel_rfl) rfl rfl ?_ ?_
     ·refine Ow.buildSlice (e:=37) (a8 (je_ s).l) rfl rfl (zR_ (cs:=(je_ s).l.map v8) Tryz.underlying30 we_ wv_ (by decide) (by simp[(je_ s).h])) fun ba hba hwa=> ?_
      with_reducible refine Ow.nil ?_
      refine⟨qx_ (by simp[keys]), ?_⟩
      simp only[List.set_cons_zero,List.set_cons_succ,z0_,qY_,qX_]
      refine OwG.two 8 14 _ _ (by kernel_rfl) rfl rfl ?_ ?_
      ·refine Ow.permL (M:=D2++ ((b9,O9):: (b7,O7):: (bp,pkO v0 v1 x2 x3):: (D1++ (D3++ (DG++ [(ba, .cells (a8 (je_ s).l) 37 (0,0))]))))) (by classical exact List.perm_iff_count.2 fun a=>by simp only[List.count_append,List.count_cons,List.count_nil]<;>omega) ?_
       refine Ow.appendXG (e:=37) (k:=1) (new:=wb_ (je_ s)) (X:=D2) x2 rfl rfl rfl rfl Tryz.underlying30 we_ (by kernel_rfl) wv_ (by rw[zc_,kD_,id0.h]) Tryz.underlying30 (by intro k h;cases h) hG2 (fun w' hw'=>AppX.one1 (by rw[Q8_];exact hw'.has ba (.cells (a8 (je_ s).l) 37 (0,0)) (by simp)) (qZ_ _) (vC_ _)) (by omega) (fun B4 v4 D4 hA4 hB4 hG4 hk41 hk42 hlk4=> ?_)
       have hN4:New w.heap.size D4:=New.of_le fun q hq=>by
        rcases hk42 q hq with h|h
        ·exact hN2.le q h
        ·omega
       refine Ow.permL (M:=(b9,O9):: (b7,O7):: (bp,pkO v0 v1 x2 x3):: (D1++ (D4++ (D3++ (DG++ [(ba, .cells (a8 (je_ s).l) 37 (0,0))]))))) (by classical exact List.perm_iff_count.2 fun a=>by simp only[List.count_append,List.count_cons,List.count_nil]<;>omega) ?_
       with_reducible refine Ow.nil ?_
       refine⟨(fun r hr=>by simp only[List.mem_cons,List.not_mem_nil,or_false] at hr;rcases hr with rfl|rfl|rfl<;>simp(disch:=omega) only[List.cons_append,List.nil_append,zH_,zG_]), ?_⟩
       simp only[List.set_cons_zero,List.set_cons_succ,z0_,qY_,qX_]
       refine OwG.one 14 _ (by kernel_rfl) rfl ?_
       refine Ow.buildSlice (e:=43) #[vi (zt_ s).k,vs (zt_ s).t] rfl rfl (zR_ (cs:=obC (zt_ s)) Tryz.underlying29 Tryz.ag43 zrOb (by decide) rfl) fun bc hbc hwc=> ?_
       with_reducible refine Ow.nil ?_
       refine⟨qx_ (by simp[keys]), ?_⟩
       simp only[List.set_cons_zero,List.set_cons_succ,z0_,qY_,qX_]
       refine OwG.permL (M:=(b9,O9):: (b7,O7):: (bp,pkO v0 v1 x2 x3):: (D1++ (D4++ (D3++ (DG++ [(ba, .cells (a8 (je_ s).l) 37 (0,0)),(bc, .cells #[vi (zt_ s).k,vs (zt_ s).t] 43 (0,0))]))))) (by classical exact List.perm_iff_count.2 fun a=>by simp only[List.count_append,List.count_cons,List.count_nil]<;>omega) (fun r hr=>by simp only[List.mem_cons,List.not_mem_nil,or_false] at hr;rcases hr with rfl|rfl|rfl<;>simp(disch:=omega) only[List.cons_append,List.nil_append,zH_,zG_]) ?_
       refine OwG.rest [15,16,17,18,19,20,21] rfl (by kernel_rfl) (by kernel_rfl) ?_
       simp only[zg_, ↓zd_, ↓zb_, ↓zp_, ↓zq_,za_]
       refine Ow.soft rfl rfl rfl ?_
       refine Ow.permL (M:=D3++ ((b9,O9):: (b7,O7):: (bp,pkO v0 v1 x2 x3):: (D1++ (D4++ (DG++ [(ba, .cells (a8 (je_ s).l) 37 (0,0)),(bc, .cells #[vi (zt_ s).k,vs (zt_ s).t] 43 (0,0))]))))) (by classical exact List.perm_iff_count.2 fun a=>by simp only[List.count_append,List.count_cons,List.count_nil]<;>omega) ?_
       refine Ow.appendXG (e:=43) (k:=1) (new:=obC (zt_ s)) (X:=D3) x3 rfl rfl rfl rfl Tryz.underlying29 Tryz.ag43 (by kernel_rfl) zrOb (by rw[obV,zc_];rfl) Tryz.underlying29 (by intro k h;cases h) hG3 (fun w' hw'=>AppX.one1 (hw'.has bc (.cells (obC (zt_ s)).toArray 43 (0,0)) (by simp[obC])) (Km_ _) (WG_ _)) (by omega) (fun B5 v5 D5 hA5 hB5 hG5 hk51 hk52 hlk5=> ?_)
       have hN5:New w.heap.size D5:=New.of_le fun q hq=>by
        rcases hk52 q hq with h|h
        ·exact hN3.le q h
        ·omega
       refine Ow.permL (M:=(b9,O9):: (b7,O7):: (bp,pkO v0 v1 x2 x3):: (D1++ (D4++ (D5++ (DG++ [(ba, .cells (a8 (je_ s).l) 37 (0,0)),(bc, .cells #[vi (zt_ s).k,vs (zt_ s).t] 43 (0,0))]))))) (by classical exact List.perm_iff_count.2 fun a=>by simp only[List.count_append,List.count_cons,List.count_nil]<;>omega) ?_
       with_reducible refine Ow.nil ?_
       refine⟨(fun r hr=>by simp only[List.mem_cons,List.not_mem_nil,or_false] at hr;rcases hr with rfl|rfl|rfl<;>simp(disch:=omega) only[zH_,zG_]), ?_⟩
       have st4: ∀a,zl_ (some (a,1)) (some (pkO v0 v1 x2 x3)) 2 v4=some (pkO v0 v1 v4 x3):=fun a=>Xs_ v0 v1 x2 x3 v4 a hG4.cell
       have st5: ∀a,zl_ (some (a,1)) (some (pkO v0 v1 v4 x3)) 3 v5=some (pkO v0 v1 v4 v5):=fun a=>XI_ v0 v1 v4 x3 v5 a hG5.cell
       refine kq @qE_ ?_
       refine Ow.store rfl rfl rfl (ke (And.intro @qE_ @st4)) ?_
       refine ko (And.intro @qE_ @st5) ?_
       refine Cw.permL (M:=(bp,pkO v0 v1 v4 v5):: (D1++ (D4++ (D5++ ((b9,O9):: (b7,O7):: (DG++ [(ba, .cells (a8 (je_ s).l) 37 (0,0)),(bc, .cells #[vi (zt_ s).k,vs (zt_ s).t] 43 (0,0))])))))) (by classical exact List.perm_iff_count.2 fun a=>by simp only[List.count_append,List.count_cons,List.count_nil]<;>omega) ?_
       first|with_reducible refine ks [] @qE_ ?_|refine kp @qE_ ?_
       refine Again.mk ⟨k+1,ids++ [je_ s],os++ [zt_ s],v4,v5,D4,D5,(b9,O9):: (b7,O7):: (DG++ [(ba, .cells (a8 (je_ s).l) 37 (0,0)),(bc, .cells #[vi (zt_ s).k,vs (zt_ s).t] 43 (0,0))])⟩ (by show ts.length - (k+1)<ts.length - k;omega) ⟨hlt,hfg',hN4,hN5,⟨by omega,by omega,hNG.app ⟨hwa,hwc,trivial⟩⟩,by simpa using hG4,by simpa using hG5⟩ rfl rfl
      ·refine Ow.buildSlice (e:=43) #[vi (zt_ s).k,vs (zt_ s).t] rfl rfl (zR_ (cs:=obC (zt_ s)) Tryz.underlying29 Tryz.ag43 zrOb (by decide) rfl) fun bc hbc hwc=> ?_
       with_reducible refine Ow.nil ?_
       refine⟨qx_ (by simp[keys]), ?_⟩
       simp only[List.set_cons_zero,List.set_cons_succ,z0_,qY_,qX_]
       refine OwG.one 8 _ (by kernel_rfl) rfl ?_
       refine Ow.permL (M:=D2++ ((b9,O9):: (b7,O7):: (bp,pkO v0 v1 x2 x3):: (D1++ (D3++ (DG++ [(ba, .cells (a8 (je_ s).l) 37 (0,0)),(bc, .cells #[vi (zt_ s).k,vs (zt_ s).t] 43 (0,0))]))))) (by classical exact List.perm_iff_count.2 fun a=>by simp only[List.count_append,List.count_cons,List.count_nil]<;>omega) ?_
       refine Ow.appendXG (e:=37) (k:=1) (new:=wb_ (je_ s)) (X:=D2) x2 rfl rfl rfl rfl Tryz.underlying30 we_ (by kernel_rfl) wv_ (by rw[zc_,kD_,id0.h]) Tryz.underlying30 (by intro k h;cases h) hG2 (fun w' hw'=>AppX.one1 (by rw[Q8_];exact hw'.has ba (.cells (a8 (je_ s).l) 37 (0,0)) (by simp)) (qZ_ _) (vC_ _)) (by omega) (fun B4 v4 D4 hA4 hB4 hG4 hk41 hk42 hlk4=> ?_)
       have hN4:New w.heap.size D4:=New.of_le fun q hq=>by
        rcases hk42 q hq with h|h
        ·exact hN2.le q h
        ·omega
       refine Ow.permL (M:=(b9,O9):: (b7,O7):: (bp,pkO v0 v1 x2 x3):: (D1++ (D4++ (D3++ (DG++ [(ba, .cells (a8 (je_ s).l) 37 (0,0)),(bc, .cells #[vi (zt_ s).k,vs (zt_ s).t] 43 (0,0))]))))) (by classical exact List.perm_iff_count.2 fun a=>by simp only[List.count_append,List.count_cons,List.count_nil]<;>omega) ?_
       with_reducible refine Ow.nil ?_
       refine⟨(fun r hr=>by simp only[List.mem_cons,List.not_mem_nil,or_false] at hr;rcases hr with rfl|rfl|rfl<;>simp(disch:=omega) only[List.cons_append,List.nil_append,zH_,zG_]), ?_⟩
       simp only[List.set_cons_zero,List.set_cons_succ,z0_,qY_,qX_]
       refine OwG.permL (M:=(b9,O9):: (b7,O7):: (bp,pkO v0 v1 x2 x3):: (D1++ (D4++ (D3++ (DG++ [(ba, .cells (a8 (je_ s).l) 37 (0,0)),(bc, .cells #[vi (zt_ s).k,vs (zt_ s).t] 43 (0,0))]))))) (by classical exact List.perm_iff_count.2 fun a=>by simp only[List.count_append,List.count_cons,List.count_nil]<;>omega) (fun r hr=>by simp only[List.mem_cons,List.not_mem_nil,or_false] at hr;rcases hr with rfl|rfl|rfl<;>simp(disch:=omega) only[List.cons_append,List.nil_append,zH_,zG_]) ?_
       refine OwG.rest [15,16,17,18,19,20,21] rfl (by kernel_rfl) (by kernel_rfl) ?_
       simp only[zg_, ↓zd_, ↓zb_, ↓zp_, ↓zq_,za_]
       refine Ow.soft rfl rfl rfl ?_
       refine Ow.permL (M:=D3++ ((b9,O9):: (b7,O7):: (bp,pkO v0 v1 x2 x3):: (D1++ (D4++ (DG++ [(ba, .cells (a8 (je_ s).l) 37 (0,0)),(bc, .cells #[vi (zt_ s).k,vs (zt_ s).t] 43 (0,0))]))))) (by classical exact List.perm_iff_count.2 fun a=>by simp only[List.count_append,List.count_cons,List.count_nil]<;>omega) ?_
       refine Ow.appendXG (e:=43) (k:=1) (new:=obC (zt_ s)) (X:=D3) x3 rfl rfl rfl rfl Tryz.underlying29 Tryz.ag43 (by kernel_rfl) zrOb (by rw[obV,zc_];rfl) Tryz.underlying29 (by intro k h;cases h) hG3 (fun w' hw'=>AppX.one1 (hw'.has bc (.cells (obC (zt_ s)).toArray 43 (0,0)) (by simp[obC])) (Km_ _) (WG_ _)) (by omega) (fun B5 v5 D5 hA5 hB5 hG5 hk51 hk52 hlk5=> ?_)
       have hN5:New w.heap.size D5:=New.of_le fun q hq=>by
        rcases hk52 q hq with h|h
        ·exact hN3.le q h
        ·omega
       refine Ow.permL (M:=(b9,O9):: (b7,O7):: (bp,pkO v0 v1 x2 x3):: (D1++ (D4++ (D5++ (DG++ [(ba, .cells (a8 (je_ s).l) 37 (0,0)),(bc, .cells #[vi (zt_ s).k,vs (zt_ s).t] 43 (0,0))]))))) (by classical exact List.perm_iff_count.2 fun a=>by simp only[List.count_append,List.count_cons,List.count_nil]<;>omega) ?_
       with_reducible refine Ow.nil ?_
       refine⟨(fun r hr=>by simp only[List.mem_cons,List.not_mem_nil,or_false] at hr;rcases hr with rfl|rfl|rfl<;>simp(disch:=omega) only[zH_,zG_]), ?_⟩
       have st4: ∀a,zl_ (some (a,1)) (some (pkO v0 v1 x2 x3)) 2 v4=some (pkO v0 v1 v4 x3):=fun a=>Xs_ v0 v1 x2 x3 v4 a hG4.cell
       have st5: ∀a,zl_ (some (a,1)) (some (pkO v0 v1 v4 x3)) 3 v5=some (pkO v0 v1 v4 v5):=fun a=>XI_ v0 v1 v4 x3 v5 a hG5.cell
       refine kq @qE_ ?_
       refine Ow.store rfl rfl rfl (ke (And.intro @qE_ @st4)) ?_
       refine ko (And.intro @qE_ @st5) ?_
       refine Cw.permL (M:=(bp,pkO v0 v1 v4 v5):: (D1++ (D4++ (D5++ ((b9,O9):: (b7,O7):: (DG++ [(ba, .cells (a8 (je_ s).l) 37 (0,0)),(bc, .cells #[vi (zt_ s).k,vs (zt_ s).t] 43 (0,0))])))))) (by classical exact List.perm_iff_count.2 fun a=>by simp only[List.count_append,List.count_cons,List.count_nil]<;>omega) ?_
       first|with_reducible refine ks [] @qE_ ?_|refine kp @qE_ ?_
       refine Again.mk ⟨k+1,ids++ [je_ s],os++ [zt_ s],v4,v5,D4,D5,(b9,O9):: (b7,O7):: (DG++ [(ba, .cells (a8 (je_ s).l) 37 (0,0)),(bc, .cells #[vi (zt_ s).k,vs (zt_ s).t] 43 (0,0))])⟩ (by show ts.length - (k+1)<ts.length - k;omega) ⟨hlt,hfg',hN4,hN5,⟨by omega,by omega,hNG.app ⟨hwa,hwc,trivial⟩⟩,by simpa using hG4,by simpa using hG5⟩ rfl rfl
     ·refine Ow.buildSlice (e:=43) #[vi (zt_ s).k,vs (zt_ s).t] rfl rfl (zR_ (cs:=obC (zt_ s)) Tryz.underlying29 Tryz.ag43 zrOb (by decide) rfl) fun bc hbc hwc=> ?_
      with_reducible refine Ow.nil ?_
      refine⟨qx_ (by simp[keys]), ?_⟩
      simp only[List.set_cons_zero,List.set_cons_succ,z0_,qY_,qX_]
      refine OwG.one 7 _ (by kernel_rfl) rfl ?_
      refine Ow.buildSlice (e:=37) (a8 (je_ s).l) rfl rfl (zR_ (cs:=(je_ s).l.map v8) Tryz.underlying30 we_ wv_ (by decide) (by simp[(je_ s).h])) fun ba hba hwa=> ?_
      with_reducible refine Ow.nil ?_
      refine⟨qx_ (by simp[keys]), ?_⟩
      simp only[List.set_cons_zero,List.set_cons_succ,z0_,qY_,qX_]
      refine OwG.one 8 _ (by kernel_rfl) rfl ?_
      refine Ow.permL (M:=D2++ ((b9,O9):: (b7,O7):: (bp,pkO v0 v1 x2 x3):: (D1++ (D3++ (DG++ [(ba, .cells (a8 (je_ s).l) 37 (0,0)),(bc, .cells #[vi (zt_ s).k,vs (zt_ s).t] 43 (0,0))]))))) (by classical exact List.perm_iff_count.2 fun a=>by simp only[List.count_append,List.count_cons,List.count_nil]<;>omega) ?_
      refine Ow.appendXG (e:=37) (k:=1) (new:=wb_ (je_ s)) (X:=D2) x2 rfl rfl rfl rfl Tryz.underlying30 we_ (by kernel_rfl) wv_ (by rw[zc_,kD_,id0.h]) Tryz.underlying30 (by intro k h;cases h) hG2 (fun w' hw'=>AppX.one1 (by rw[Q8_];exact hw'.has ba (.cells (a8 (je_ s).l) 37 (0,0)) (by simp)) (qZ_ _) (vC_ _)) (by omega) (fun B4 v4 D4 hA4 hB4 hG4 hk41 hk42 hlk4=> ?_)
      have hN4:New w.heap.size D4:=New.of_le fun q hq=>by
       rcases hk42 q hq with h|h
       ·exact hN2.le q h
       ·omega
      refine Ow.permL (M:=(b9,O9):: (b7,O7):: (bp,pkO v0 v1 x2 x3):: (D1++ (D4++ (D3++ (DG++ [(ba, .cells (a8 (je_ s).l) 37 (0,0)),(bc, .cells #[vi (zt_ s).k,vs (zt_ s).t] 43 (0,0))]))))) (by classical exact List.perm_iff_count.2 fun a=>by simp only[List.count_append,List.count_cons,List.count_nil]<;>omega) ?_
      with_reducible refine Ow.nil ?_
      refine⟨(fun r hr=>by simp only[List.mem_cons,List.not_mem_nil,or_false] at hr;rcases hr with rfl|rfl|rfl<;>simp(disch:=omega) only[List.cons_append,List.nil_append,zH_,zG_]), ?_⟩
      simp only[List.set_cons_zero,List.set_cons_succ,z0_,qY_,qX_]
      refine OwG.permL (M:=(b9,O9):: (b7,O7):: (bp,pkO v0 v1 x2 x3):: (D1++ (D4++ (D3++ (DG++ [(ba, .cells (a8 (je_ s).l) 37 (0,0)),(bc, .cells #[vi (zt_ s).k,vs (zt_ s).t] 43 (0,0))]))))) (by classical exact List.perm_iff_count.2 fun a=>by simp only[List.count_append,List.count_cons,List.count_nil]<;>omega) (fun r hr=>by simp only[List.mem_cons,List.not_mem_nil,or_false] at hr;rcases hr with rfl|rfl|rfl<;>simp(disch:=omega) only[List.cons_append,List.nil_append,zH_,zG_]) ?_
      refine OwG.rest [15,16,17,18,19,20,21] rfl (by kernel_rfl) (by kernel_rfl) ?_
      simp only[zg_, ↓zd_, ↓zb_, ↓zp_, ↓zq_,za_]
      refine Ow.soft rfl rfl rfl ?_
      refine Ow.permL (M:=D3++ ((b9,O9):: (b7,O7):: (bp,pkO v0 v1 x2 x3):: (D1++ (D4++ (DG++ [(ba, .cells (a8 (je_ s).l) 37 (0,0)),(bc, .cells #[vi (zt_ s).k,vs (zt_ s).t] 43 (0,0))]))))) (by classical exact List.perm_iff_count.2 fun a=>by simp only[List.count_append,List.count_cons,List.count_nil]<;>omega) ?_
      refine Ow.appendXG (e:=43) (k:=1) (new:=obC (zt_ s)) (X:=D3) x3 rfl rfl rfl rfl Tryz.underlying29 Tryz.ag43 (by kernel_rfl) zrOb (by rw[obV,zc_];rfl) Tryz.underlying29 (by intro k h;cases h) hG3 (fun w' hw'=>AppX.one1 (hw'.has bc (.cells (obC (zt_ s)).toArray 43 (0,0)) (by simp[obC])) (Km_ _) (WG_ _)) (by omega) (fun B5 v5 D5 hA5 hB5 hG5 hk51 hk52 hlk5=> ?_)
      have hN5:New w.heap.size D5:=New.of_le fun q hq=>by
       rcases hk52 q hq with h|h
       ·exact hN3.le q h
       ·omega
      refine Ow.permL (M:=(b9,O9):: (b7,O7):: (bp,pkO v0 v1 x2 x3):: (D1++ (D4++ (D5++ (DG++ [(ba, .cells (a8 (je_ s).l) 37 (0,0)),(bc, .cells #[vi (zt_ s).k,vs (zt_ s).t] 43 (0,0))]))))) (by classical exact List.perm_iff_count.2 fun a=>by simp only[List.count_append,List.count_cons,List.count_nil]<;>omega) ?_
      with_reducible refine Ow.nil ?_
      refine⟨(fun r hr=>by simp only[List.mem_cons,List.not_mem_nil,or_false] at hr;rcases hr with rfl|rfl|rfl<;>simp(disch:=omega) only[zH_,zG_]), ?_⟩
      have st4: ∀a,zl_ (some (a,1)) (some (pkO v0 v1 x2 x3)) 2 v4=some (pkO v0 v1 v4 x3):=fun a=>Xs_ v0 v1 x2 x3 v4 a hG4.cell
      have st5: ∀a,zl_ (some (a,1)) (some (pkO v0 v1 v4 x3)) 3 v5=some (pkO v0 v1 v4 v5):=fun a=>XI_ v0 v1 v4 x3 v5 a hG5.cell
      refine kq @qE_ ?_
      refine Ow.store rfl rfl rfl (ke (And.intro @qE_ @st4)) ?_
      refine ko (And.intro @qE_ @st5) ?_
      refine Cw.permL (M:=(bp,pkO v0 v1 v4 v5):: (D1++ (D4++ (D5++ ((b9,O9):: (b7,O7):: (DG++ [(ba, .cells (a8 (je_ s).l) 37 (0,0)),(bc, .cells #[vi (zt_ s).k,vs (zt_ s).t] 43 (0,0))])))))) (by classical exact List.perm_iff_count.2 fun a=>by simp only[List.count_append,List.count_cons,List.count_nil]<;>omega) ?_
      first|with_reducible refine ks [] @qE_ ?_|refine kp @qE_ ?_
      refine Again.mk ⟨k+1,ids++ [je_ s],os++ [zt_ s],v4,v5,D4,D5,(b9,O9):: (b7,O7):: (DG++ [(ba, .cells (a8 (je_ s).l) 37 (0,0)),(bc, .cells #[vi (zt_ s).k,vs (zt_ s).t] 43 (0,0))])⟩ (by show ts.length - (k+1)<ts.length - k;omega) ⟨hlt,hfg',hN4,hN5,⟨by omega,by omega,hNG.app ⟨hwa,hwc,trivial⟩⟩,by simpa using hG4,by simpa using hG5⟩ rfl rfl
  ·obtain rfl:k=ts.length:=by omega
   have hd:decide ((ts.length:Int)< (ts.length:Int))=false:=decide_eq_false (by omega)
   first|with_reducible refine ks [] (And.intro @qE_ @hd) ?_|refine kp (And.intro @qE_ @hd) ?_
   refine⟨_,(ke @qE_), ?_⟩
   refine⟨amY_ hNr, ?_⟩
   have hf:fillV l=some (ids,os):=by
    unfold fillV
    rw[ha]
    rw[List.take_length] at hfg
    exact hfg
   unfold acG_
   rw[hf]
   exact⟨rfl,x2,x3,_,rfl,Gr.i hG2 fun q hq=>by simp[hq],Gr.i hG3 fun q hq=>by simp[hq]⟩
end Go.Proofs
end
section
open Go Go.Proofs Go.Sx Go.StP Go.Flo
namespace Go.Proofs
set_option maxRecDepth 10000
set_option maxHeartbeats 400000
set_option linter.unusedSimpArgs false
def prO (v0 v1 v2:Value):Obj:= .cells #[v0,v1,v2] 137 (0,0)
def wrO (s:List UInt8) (a:Nat) (e:Int):Obj:= .cells #[vs s,vi a,vi e] 212 (0,0)
theorem aai_ (v0 v1 v2:Value) (n:Nat):zs_ (some (false,n)) (some (prO v0 v1 v2)) 0=some v0:=(rfl)
theorem aap_ (v0 v1 v2:Value) (n:Nat):zs_ (some (false,n)) (some (prO v0 v1 v2)) 1=some v1:=(rfl)
theorem W9_ (v0 v1 v2:Value) (n:Nat):zs_ (some (false,n)) (some (prO v0 v1 v2)) 2=some v2:=(rfl)
theorem Xr_ (v0 v1 v2 q:Value) (a:Bool) (hq:Value.oneCell' q=true∧q.cells= #[q]):zl_ (some (a,1)) (some (prO v0 v1 v2)) 1 q=some (prO v0 q v2):=
 zS_ [v0] [v1] [q] [v2] a _ 137 rfl rfl hq.2 rfl (by simp[hq.1])
theorem KI_ (v0 v1 v2 q:Value) (a:Bool) (hq:Value.oneCell' q=true∧q.cells= #[q]):zl_ (some (a,1)) (some (prO v0 v1 v2)) 2 q=some (prO v0 v1 q):=
 zS_ [v0,v1] [v2] [q] [] a _ 137 rfl rfl hq.2 rfl (by simp[hq.1])
theorem KD_ (p:PartL) (E:TypeId) (a:Bool) (x:Bool):zl_ (some (a,1)) (some (.cells (zv_ p).toArray E (0,0))) 0 (.bool x)=some (.cells (zv_ ⟨x,p.b,p.x⟩).toArray E (0,0)):=(rfl)
theorem Xf_ (p:PartL) (E:TypeId) (a:Bool) (x:Int):zl_ (some (a,1)) (some (.cells (zv_ p).toArray E (0,0))) 1 (vi x)=some (.cells (zv_ ⟨p.d,x,p.x⟩).toArray E (0,0)):=(rfl)
theorem Ze_ (p:PartL) (E:TypeId):zs_ (some (true,3)) (some (.cells (zv_ p).toArray E (0,0))) 0=some (.agg (zv_ p).toArray):=Zi_ (n:=3) [] (zv_ p) [] E (0,0) rfl rfl
theorem ZG_ (t:List UInt8):qp_ (x3_ Tryz.prog 114) (zE_ Tryz.prog 114) [(2,vs t)]=some (.agg (zv_ ⟨false,0,t⟩).toArray):=by
 rw[show x3_ Tryz.prog 114=some [(0,1),(1,1),(2,1)] from id (by kernel_rfl),vq_];rfl
theorem akC_ {w:World} {a b:Nat} {x y:Obj} (h:w.heap[a]? =some x) (h':w.heap[b]? =some y): ∀p:Nat×Obj,p∈ [(a,x),(b,y)]→w.heap[p.1]? =some p.2:=by
 intro p hp
 simp only[List.mem_cons,List.not_mem_nil,or_false] at hp
 rcases hp with rfl|rfl<;>assumption
theorem V6_ (b:Nat) (s:List UInt8) (a:Nat) (e n:Int) (w:World) (ha:a≤s.length) (hs:s.length<9223372036854775808) (ho:w.heap[b]? =some (wrO s a e)):
  Rets Tryz.prog 94 #[vp b 0,vi n] w (fun v D=> ∃o,D= [(b,o)]∧v=vs (qD_ s a e n).1∧o=wrO s (qD_ s a e n).2.1 (qD_ s a e n).2.2):=wB_ b s a e n w ha hs ho
theorem jG_ (b:Nat) (s:List UInt8) (a:Nat) (e most:Int) (w:World) (ha:a≤s.length) (hs:s.length<9223372036854775808) (ho:w.heap[b]? =some (wrO s a e)):
  Rets Tryz.prog 95 #[vp b 0,vi most] w (fun v D=> ∃o,D= [(b,o)]∧v=vi (zr_ s a e most).1∧o=wrO s (zr_ s a e most).2.1 (zr_ s a e most).2.2):=q8_ b s a e most w ha hs ho
theorem aeo_ (b:Nat) (s:List UInt8) (a:Nat) (e most:Int) (w:World) (ha:a≤s.length) (hs:s.length<9223372036854775808) (ho:w.heap[b]? =some (wrO s a e)):
  Rets Tryz.prog 96 #[vp b 0,vi most] w (fun v D=> ∃o,D= [(b,o)]∧v=vs (zI_ s a e most).1∧o=wrO s (zI_ s a e most).2.1 (zI_ s a e most).2.2):=w3_ b s a e most w ha hs ho
theorem ad3_ {w:World} {a b:Nat} {x x' y y':Obj} {D:ze_} (h:New w.heap.size D):Ext w [(a,x),(b,y)] ((a,x'):: (b,y')::D):=⟨fun c hc=>by
 simp only[keys,List.map_cons,List.mem_cons,List.map_nil,List.not_mem_nil,or_false] at hc ⊢
 rcases hc with h'|h'|h'
 ·exact .inl (.inl h')
 ·exact .inl (.inr h')
 ·exact .inr (h.le c h'),fun c hc=>by
 simp only[keys,List.map_cons,List.mem_cons,List.map_nil,List.not_mem_nil,or_false] at hc ⊢
 rcases hc with h'|h'
 ·exact .inl h'
 ·exact .inr (.inl h')⟩
set_option linter.defProp false
def zY_:=And.intro (And.intro (And.intro (@zi_) (And.intro (@zh_) (@aai_))) (And.intro (And.intro (@aap_) (@W9_)) (And.intro (@Sx.tup2_0) (@Sx.tup2_1)))) (And.intro (And.intro (And.intro (@jJ_) (@jF_)) (And.intro (@jB_) (@Ze_))) (And.intro (And.intro (@qf_) (@xz_)) (And.intro (@KD_) (@Xf_))))
theorem aiM_ (br bw:Nat) (s:List UInt8) (v1 v2:Value) (w:World) (hs:s.length<9223372036854775808) (hne:br≠bw) (ho:w.heap[br]? =some (prO (vp bw 0) v1 v2)) (hr:w.heap[bw]? =some (wrO s 0 0)):
  Rets Tryz.prog 72 #[vp br 0] w (XS w [(br,prO (vp bw 0) v1 v2),(bw,wrO s 0 0)] (fun v D=>v= .tuple #[vi (jg_ s).1, .bool (jg_ s).2.1]∧D= [(br,prO (vp bw 0) v1 v2),(bw,wrO s (jg_ s).2.2.1 (jg_ s).2.2.2)])):=by
 refine Rets.enterX Tryz.func72 rfl (rs:= [.tmp 2, .tmp 3]) Tryz.results72 Tryz.ntmps72 (akC_ ho hr) (by simp[keys,hne]) ?_
 refine kf ?_
 first|with_reducible refine ks [] @zY_ ?_|refine kp @zY_ ?_
 refine Ow.callM rfl rfl Tryz.call94 (by simp[keys]) (fun w' hw'=>V6_ bw s 0 0 4 w' (Nat.zero_le _) hs (hw'.has _ _ (List.mem_cons_of_mem _ List.mem_cons_self))) ?_
 have r1:=kG_ (s:=s) (a:=0) (e:=0) (n:=4) (Nat.zero_le _)
 unfold jg_
 generalize qD_ s 0 0 4=p at*
 obtain⟨x,a1,e1⟩:=p
 simp only at r1 ⊢
 refine kn ?_
 by_cases hm:x=magB
 ·have d1: (x !=magB)=false:=by rw[hm];exact bne_self_eq_false _
  unfold magB at d1
  rw[if_pos hm]
  refine ko (And.intro @zY_ @d1) ?_
  first|with_reducible refine ks [] (And.intro @zY_ @d1) ?_|refine kp (And.intro @zY_ @d1) ?_
  refine Ow.callM rfl rfl Tryz.call95 (by simp[keys]) (fun w' hw'=>jG_ bw s a1 e1 200 w' r1.2 hs (hw'.has _ _ (List.mem_cons_of_mem _ List.mem_cons_self))) ?_
  generalize zr_ s a1 e1 200=q at*
  obtain⟨n,a2,e2⟩:=q
  simp only
  refine kn ?_
  refine ko @zY_ ?_
  first|with_reducible refine ks [] @zY_ ?_|refine kp @zY_ ?_
  refine Ow.callFV rfl Tryz.call137 (fun w' hw'=>xR_ bw s a2 e2 w' (hw'.has _ _ (List.mem_cons_of_mem _ List.mem_cons_self))) ?_
  refine ko @zY_ ?_
  first|with_reducible refine ks [] @zY_ ?_|refine kp @zY_ ?_
  refine⟨_,(ke @zY_), ?_⟩
  exact⟨ad3_ trivial,rfl,rfl⟩
 ·have d1: (x !=magB)=true:=bne_iff_ne.2 hm
  unfold magB at d1
  rw[if_neg hm]
  refine ko (And.intro @zY_ @d1) ?_
  first|with_reducible refine ks [] (And.intro @zY_ @d1) ?_|refine kp (And.intro @zY_ @d1) ?_
  refine⟨_,(ke @zY_), ?_⟩
  exact⟨ad3_ trivial,rfl,rfl⟩
structure RdG where
 lab:Nat
 l:List PartL
 sp:List Nat
 a:Nat
 e:Int
 v1:Value
 v2:Value
 b4:Nat
 q:PartL
 D1:ze_
 D2:ze_
 DG:ze_
def RdJ (s:List UInt8) (n a0:Nat) (e0:Int) (sz:Nat) (g:RdG):Prop:=
 sz≤g.b4∧New sz g.D1∧New sz g.D2∧New sz g.DG∧Gr g.D1 114 3 g.v1 g.l.length (g.l.map zv_).flatten∧Gr g.D2 3 1 g.v2 g.sp.length (g.sp.map Jh_).flatten∧g.sp.length=g.l.length∧g.a≤s.length∧g.l.length≤n∧
  ((g.lab=1∧zN_ s n 0 a0 e0=(g.l++ (zN_ s (n - g.l.length) g.l.length g.a g.e).1,g.sp++ (zN_ s (n - g.l.length) g.l.length g.a g.e).2.1,(zN_ s (n - g.l.length) g.l.length g.a g.e).2.2))∨
  (g.lab=0∧zN_ s n 0 a0 e0=(g.l,g.sp,g.a,g.e)))
def RdL (g:RdG):Nat:=match g.lab with
 |1=>1
 |_=>0
def RdH (br bw:Nat) (s:List UInt8) (g:RdG):ze_:=(br,prO (vp bw 0) g.v1 g.v2):: (bw,wrO s g.a g.e):: (g.b4, .cells (zv_ g.q).toArray 114 (0,0)):: (g.D1++ (g.D2++g.DG))
def arU_ (s:List UInt8) (n a0:Nat) (e0:Int) (br bw:Nat) (v:Value) (D:ze_):Prop:=
 v= .tuple #[]∧ ∃v1 v2 D',D=(br,prO (vp bw 0) v1 v2):: (bw,wrO s (zN_ s n 0 a0 e0).2.2.1 (zN_ s n 0 a0 e0).2.2.2)::D'∧
  GrI D' 114 3 v1 (zN_ s n 0 a0 e0).1.length ((zN_ s n 0 a0 e0).1.map zv_).flatten∧GrI D' 3 1 v2 (zN_ s n 0 a0 e0).2.1.length ((zN_ s n 0 a0 e0).2.1.map Jh_).flatten
theorem akd_ (br bw:Nat) (s:List UInt8) (n a0:Nat) (e0:Int) (w:World) (hs:s.length<9223372036854775808) (hn:n≤1000000) (ha:a0≤s.length) (hne:br≠bw) (ho:w.heap[br]? =some (prO (vp bw 0) (.slice none 0 0) (.slice none 0 0))) (hr:w.heap[bw]? =some (wrO s a0 e0)):
  Rets Tryz.prog 73 #[vp br 0,vi n] w (XS w [(br,prO (vp bw 0) (.slice none 0 0) (.slice none 0 0)),(bw,wrO s a0 e0)] (arU_ s n a0 e0 br bw)):=by
 have hbr:br<w.heap.size:=(Array.getElem?_eq_some_iff.1 ho).1
 have hbw:bw<w.heap.size:=(Array.getElem?_eq_some_iff.1 hr).1
 refine Rets.enterX Tryz.func73 rfl (rs:= []) Tryz.results73 Tryz.ntmps73 (akC_ ho hr) (by simp[keys,hne]) ?_
 refine kf ?_
 first|with_reducible refine ks [] @zY_ ?_|refine kp @zY_ ?_
 refine Cw.scopeL (G:=RdG) (fun g=>RdL g) [4,5,6,7,8,9,10,11,12,13,14,15,16,17,18,19,20,21,22,23,24,25,26,27,28,29,30,31,32,33,34,35,36,37,38,39,40,41,42,43,44,45,46,47,48,49,50,51,52,53,54,55,56,57,58,59,60,61,62,63,64,65,66] (fun g=> [(4,vp g.b4 0)]) (fun g=>RdH br bw s g) (fun g=>RdJ s n a0 e0 w.heap.size g) (fun g=>(if g.lab=1 then n - g.l.length+1 else 0)) ?_ ?_ ?_
 ·intro g
  unfold RdL
  split<;>rfl
 ·intro g j hg
  obtain⟨lab,l,sp,a,e,v1,v2,b4,q,D1,D2,DG⟩:=g
  obtain⟨hw4,hN1,hN2,hNG,hG1,hG2,hsl,hal,hln,hg⟩:=hg
  simp only at hw4 hN1 hN2 hNG hG1 hG2 hsl hal hln
  have hNr:New w.heap.size (D1++ (D2++DG)):=hN1.app (hN2.app hNG)
  have l1:=hG1.len
  rcases hg with hg|hg
  ·obtain⟨hlab,hpr⟩:=hg
   simp only at hlab
   subst hlab
   simp only[RdL,RdH] at hpr ⊢
   by_cases hlen:l.length=n
   ·have d1: ((l.length:Int)==(n:Int))=true:=by rw[hlen];exact beq_self_eq_true _
    simp only[kF_,Jn_,Bool.or_false,Bool.false_or,Bool.or_true,Bool.true_or,Nat.reduceBEq,beq_self_eq_true, ↓reduceIte,Bool.false_eq_true]
    refine kv ?_
    try with_reducible refine qv_ ?_
    first|with_reducible refine ks [] (And.intro @zY_ (And.intro @l1 (@d1))) ?_|refine kp (And.intro @zY_ (And.intro @l1 (@d1))) ?_
    refine Jump.mk ⟨0,l,sp,a,e,v1,v2,b4,q,D1,D2,DG⟩ rfl (by show 0<n - l.length+1;omega) ⟨hw4,hN1,hN2,hNG,hG1,hG2,hsl,hal,hln, .inr ⟨rfl, ?_⟩⟩ rfl rfl
    rw[hpr,hlen,Nat.sub_self]
    simp[zN_]
   ·have d1: ((l.length:Int)==(n:Int))=false:=beq_eq_false_iff_ne.2 (by omega)
    simp only[kF_,Jn_,Bool.or_false,Bool.false_or,Bool.or_true,Bool.true_or,Nat.reduceBEq,beq_self_eq_true, ↓reduceIte,Bool.false_eq_true]
    refine kv ?_
    try with_reducible refine qv_ ?_
    first|with_reducible refine ks [1000007,9] (And.intro @zY_ (And.intro @l1 (@d1))) ?_|refine kp (And.intro @zY_ (And.intro @l1 (@d1))) ?_
    refine Ow.callFV rfl Tryz.call138 (fun w' hw'=>afD_ bw s a e w' (hw'.has _ _ (List.mem_cons_of_mem _ List.mem_cons_self))) ?_
    refine ko @zY_ ?_
    first|with_reducible refine ks [] @zY_ ?_|refine kp @zY_ ?_
    have hle1:=zO_ (s:=s) (a:=a) (e:=e) (most:=200) hal
    have hm1:=z9_ (s:=s) (a:=a) (e:=e) (most:=200) (by omega)
    refine Ow.callM rfl rfl Tryz.call95 (by simp[keys]) (fun w' hw'=>jG_ bw s a e 200 w' hal hs (hw'.has _ _ (List.mem_cons_of_mem _ List.mem_cons_self))) ?_
    have hk:n - l.length=(n - (l.length+1))+1:=by omega
    rw[hk] at hpr
    have hpc:wf_ s l.length a e=(⟨decide (0< (zr_ s a e 200).1),if 0< (zr_ s a e 200).1 then((l.length:Nat):Int) - (zr_ s a e 200).1 else 0,(zI_ s (zr_ s a e 200).2.1 (zr_ s a e 200).2.2 65536).1⟩,(zI_ s (zr_ s a e 200).2.1 (zr_ s a e 200).2.2 65536).2):=rfl
    generalize zr_ s a e 200=x at*
    obtain⟨F,a1,e1⟩:=x
    simp only at hle1 hm1 hpc ⊢
    have hle2:=xl_ (s:=s) (a:=a1) (e:=e1) (most:=65536) hle1.2
    refine kn ?_
    refine ko @zY_ ?_
    first|with_reducible refine ks [] @zY_ ?_|refine kp @zY_ ?_
    refine Ow.callM rfl rfl Tryz.call96 (by simp[keys]) (fun w' hw'=>aeo_ bw s a1 e1 65536 w' hle1.2 hs (hw'.has _ _ (List.mem_cons_of_mem _ List.mem_cons_self))) ?_
    generalize zI_ s a1 e1 65536=x at*
    obtain⟨t,a2,e2⟩:=x
    simp only at hle2 hpc ⊢
    refine kn ?_
    refine ko @zY_ ?_
    refine Ow.build (.agg (zv_ ⟨false,0,t⟩).toArray) rfl (ZG_ t) ?_
    have hst:=xz_ ⟨false,0,t⟩ q 114
    have hb4r:b4≠br:=by omega
    have hb4w:b4≠bw:=by omega
    refine ko (And.intro @zY_ @hst) ?_
    first|with_reducible refine ks [] @zY_ ?_|refine kp @zY_ ?_
    refine Ow.callFV rfl Tryz.call137 (fun w' hw'=>xR_ bw s a2 e2 w' (hw'.has _ _ (List.mem_cons_of_mem _ List.mem_cons_self))) ?_
    rw[zN_,hpc] at hpr
    simp only at hpr
    by_cases he:e2=0
    ·subst he
     rw[if_pos rfl] at hpr
     have d2: ((0:Int) !=0)=false:=rfl
     refine ko (And.intro @zY_ @d2) ?_
     obtain⟨p,hp⟩: ∃p,p=(⟨decide (0<F),if 0<F then((l.length:Nat):Int) - F else 0,t⟩:PartL):=⟨_,rfl⟩
     rw[←hp] at hpr
     refine Cw.cut (G:=PartL) 67 (fun g=> [(0,vp br 0),(1,vi n),(2,undef),(3,undef),(4,vp b4 0),(6,vi a)]) (fun g=>(b4, .cells (zv_ g).toArray 114 (0,0)):: (br,prO (vp bw 0) v1 v2):: (bw,wrO s a2 0):: (D1++ (D2++DG))) (fun g=>g=p) ?_ ?_
     ·refine Cw.permL (M:=(b4, .cells (zv_ ⟨false,0,t⟩).toArray 114 (0,0)):: (br,prO (vp bw 0) v1 v2):: (bw,wrO s a2 0):: (D1++ (D2++DG))) (by classical exact List.perm_iff_count.2 fun a=>by simp only[List.count_append,List.count_cons,List.count_nil]<;>omega) ?_
      by_cases hF:0<F
      ·have d3:decide ((0:Int)<F)=true:=decide_eq_true hF
       first|with_reducible refine ks [] (And.intro @zY_ @d3) ?_|refine kp (And.intro @zY_ @d3) ?_
       refine Cw.regionG [br] [10] 11 (by kernel_rfl) rfl ?_
       simp only[List.replicate_succ,List.replicate_zero]
       refine OwG.run [0,1,2,3,4,5,6,7] [true,true,true,true,true,true,true,true,false,false,false] 3 rfl (by kernel_rfl) (by kernel_rfl) fun k hk=> ?_
       simp only[zg_, ↓zd_, ↓zb_, ↓zp_, ↓zq_,za_]
       simp(disch:=(first|assumption|omega| (simp only[xg_,xe_,UInt64.reduceToNat];try omega))) only[↓Sx.S0,Sx.S1,Tryz.fx,zY_,Nat.reduceAdd,Nat.reducePow,Int.reducePow,Nat.reduceBEq, ↓reduceIte,UInt8.reduceToNat,UInt16.reduceToNat,UInt32.reduceToNat,UInt64.reduceToNat,Int.reduceToNat,Md.next_sofnil,l1]
       (with_reducible refine hk _ _ _ ?_);clear hk k
       refine OwG.one 8 _ (by kernel_rfl) rfl ?_
       refine ko @zY_ ?_
       refine⟨(fun r hr=>by rw[List.mem_singleton] at hr;subst hr;simp(disch:=omega) only[zH_,zG_]), ?_⟩
       refine OwG.rest [9,10] rfl (by kernel_rfl) (by kernel_rfl) ?_
       simp only[zg_, ↓zd_, ↓zb_, ↓zp_, ↓zq_,za_]
       refine kq @zY_ ?_
       refine Ow.store rfl rfl rfl (ke @zY_) ?_
       refine ko @zY_ ?_
       refine CutM.mk _ ?_ rfl rfl
       rw[hp,decide_eq_true hF,if_pos hF]
      ·have d3:decide ((0:Int)<F)=false:=decide_eq_false hF
       first|with_reducible refine ks [] (And.intro @zY_ @d3) ?_|refine kp (And.intro @zY_ @d3) ?_
       refine CutM.mk _ ?_ rfl rfl
       rw[hp,decide_eq_false hF,if_neg hF]
     ·intro g j hg
      simp only[aaT_,aaJ_,pin,qY_,qX_,Nat.reduceAdd]
      subst hg
      clear hp
      generalize hpp:g=p at*
      obtain⟨O4,hO4⟩: ∃O,O=Obj.cells (zv_ p).toArray 114 (0,0):=⟨_,rfl⟩
      first|with_reducible refine ks [] @zY_ ?_|refine kp @zY_ ?_
      refine Cw.regionG [br,b4] [18,21] 22 (by kernel_rfl) rfl ?_
      simp only[List.replicate_succ,List.replicate_zero]
      refine OwG.run [0,1,2,3,4,5,6,9,10,11,12,13] [true,true,true,true,true,true,true,false,false,true,true,true,true,true,false,false,false,false,false,false,false,false] 10 rfl (by kernel_rfl) (by kernel_rfl) fun k hk=> ?_
      simp only[zg_, ↓zd_, ↓zb_, ↓zp_, ↓zq_,za_]
      simp(disch:=(first|assumption|omega| (simp only[xg_,xe_,UInt64.reduceToNat];try omega))) only[↓Sx.S0,Sx.S1,Tryz.fx,zY_,Nat.reduceAdd,Nat.reducePow,Int.reducePow,Nat.reduceBEq, ↓reduceIte,UInt8.reduceToNat,UInt16.reduceToNat,UInt32.reduceToNat,UInt64.reduceToNat,Int.reduceToNat,Md.next_sofnil,Md.next_sofnil]
      (with_reducible refine hk _ _ _ ?_);clear hk k
      rw[←hO4]
      refine OwG.two 7 14 _ _ (by kernel_rfl) rfl rfl ?_ ?_
      ·refine Ow.buildSlice (e:=114) (zv_ p).toArray rfl rfl (zR_ (cs:=zv_ p) Tryz.underlying22 Tryz.ag114 vq_ (by decide) rfl) fun ba hba hwa=> ?_
       with_reducible refine Ow.nil ?_
       refine⟨qx_ (by simp[keys]), ?_⟩
       simp only[List.set_cons_zero,List.set_cons_succ,z0_,qY_,qX_]
       refine OwG.two 8 14 _ _ (by kernel_rfl) rfl rfl ?_ ?_
       ·refine Ow.permL (M:=D1++ ((b4,O4):: (br,prO (vp bw 0) v1 v2):: (bw,wrO s a2 0):: (D2++ (DG++ [(ba, .cells (zv_ p).toArray 114 (0,0))])))) (by classical exact List.perm_iff_count.2 fun a=>by simp only[List.count_append,List.count_cons,List.count_nil]<;>omega) ?_
        refine Ow.appendXG (e:=114) (k:=1) (new:=zv_ p) (X:=D1) v1 rfl rfl rfl rfl Tryz.underlying22 Tryz.ag114 (by kernel_rfl) vq_ (by rw[qf_];rfl) Tryz.underlying22 (by intro k h;cases h) hG1 (fun w' hw'=>AppX.one1 (hw'.has ba (.cells (zv_ p).toArray 114 (0,0)) (by simp)) (jv_ _) (wG_ _)) (by omega) (fun B4 v4 D4 hA4 hB4 hG4 hk41 hk42 hlk4=> ?_)
        have hN4:New w.heap.size D4:=New.of_le fun q hq=>by
         rcases hk42 q hq with h|h
         ·exact hN1.le q h
         ·omega
        refine Ow.permL (M:=(b4,O4):: (br,prO (vp bw 0) v1 v2):: (bw,wrO s a2 0):: (D4++ (D2++ (DG++ [(ba, .cells (zv_ p).toArray 114 (0,0))])))) (by classical exact List.perm_iff_count.2 fun a=>by simp only[List.count_append,List.count_cons,List.count_nil]<;>omega) ?_
        with_reducible refine Ow.nil ?_
        refine⟨(fun r hr=>by simp only[List.mem_cons,List.not_mem_nil,or_false] at hr;rcases hr with rfl|rfl<;>simp(disch:=omega) only[List.cons_append,List.nil_append,zH_,zG_]), ?_⟩
        simp only[List.set_cons_zero,List.set_cons_succ,z0_,qY_,qX_]
        refine OwG.one 14 _ (by kernel_rfl) rfl ?_
        refine Ow.buildSlice (e:=3) #[vi a] rfl rfl (by kernel_rfl) fun bc hbc hwc=> ?_
        with_reducible refine Ow.nil ?_
        refine⟨qx_ (by simp[keys]), ?_⟩
        simp only[List.set_cons_zero,List.set_cons_succ,z0_,qY_,qX_]
        refine OwG.permL (M:=(b4,O4):: (br,prO (vp bw 0) v1 v2):: (bw,wrO s a2 0):: (D4++ (D2++ (DG++ [(ba, .cells (zv_ p).toArray 114 (0,0)),(bc, .cells #[vi a] 3 (0,0))])))) (by classical exact List.perm_iff_count.2 fun a=>by simp only[List.count_append,List.count_cons,List.count_nil]<;>omega) (fun r hr=>by simp only[List.mem_cons,List.not_mem_nil,or_false] at hr;rcases hr with rfl|rfl<;>simp(disch:=omega) only[List.cons_append,List.nil_append,zH_,zG_]) ?_
        refine OwG.rest [15,16,17,18,19,20,21] rfl (by kernel_rfl) (by kernel_rfl) ?_
        simp only[zg_, ↓zd_, ↓zb_, ↓zp_, ↓zq_,za_]
        refine Ow.soft rfl rfl rfl ?_
        refine Ow.permL (M:=D2++ ((b4,O4):: (br,prO (vp bw 0) v1 v2):: (bw,wrO s a2 0):: (D4++ (DG++ [(ba, .cells (zv_ p).toArray 114 (0,0)),(bc, .cells #[vi a] 3 (0,0))])))) (by classical exact List.perm_iff_count.2 fun a=>by simp only[List.count_append,List.count_cons,List.count_nil]<;>omega) ?_
        refine Ow.appendXG (e:=3) (k:=1) (new:=Jh_ a) (X:=D2) v2 rfl rfl rfl rfl Tryz.underlying28 (id (by kernel_rfl):z2_ Tryz.prog 3=some (false,1)) (by kernel_rfl) (id (by kernel_rfl):zE_ Tryz.prog 3=some (vi 0)) rfl Tryz.underlying28 (by intro k h;cases h) hG2 (fun w' hw'=>AppX.one1 (hw'.has bc (.cells #[vi a] 3 (0,0)) (by simp)) (kY_ a) rfl) (by omega) (fun B5 v5 D5 hA5 hB5 hG5 hk51 hk52 hlk5=> ?_)
        have hN5:New w.heap.size D5:=New.of_le fun q hq=>by
         rcases hk52 q hq with h|h
         ·exact hN2.le q h
         ·omega
        refine Ow.permL (M:=(br,prO (vp bw 0) v1 v2):: (bw,wrO s a2 0):: (b4,O4):: (D4++ (D5++ (DG++ [(ba, .cells (zv_ p).toArray 114 (0,0)),(bc, .cells #[vi a] 3 (0,0))])))) (by classical exact List.perm_iff_count.2 fun a=>by simp only[List.count_append,List.count_cons,List.count_nil]<;>omega) ?_
        with_reducible refine Ow.nil ?_
        refine⟨(fun r hr=>by simp only[List.mem_cons,List.not_mem_nil,or_false] at hr;rcases hr with rfl|rfl<;>simp(disch:=omega) only[zH_,zG_]), ?_⟩
        have st4: ∀a,zl_ (some (a,1)) (some (prO (vp bw 0) v1 v2)) 1 v4=some (prO (vp bw 0) v4 v2):=fun a=>Xr_ _ v1 v2 v4 a hG4.cell
        have st5: ∀a,zl_ (some (a,1)) (some (prO (vp bw 0) v4 v2)) 2 v5=some (prO (vp bw 0) v4 v5):=fun a=>KI_ _ v4 v2 v5 a hG5.cell
        refine kq @zY_ ?_
        refine Ow.store rfl rfl rfl (ke (And.intro @zY_ @st4)) ?_
        refine ko (And.intro @zY_ @st5) ?_
        subst hO4
        refine Jump.mk ⟨1,l++ [p],sp++ [a],a2,0,v4,v5,b4,p,D4,D5,DG++ [(ba, .cells (zv_ p).toArray 114 (0,0)),(bc, .cells #[vi a] 3 (0,0))]⟩ rfl (by show n - (l++ [p]).length+1<n - l.length+1;simp;omega) ⟨hw4,hN4,hN5,hNG.app ⟨hwa,hwc,trivial⟩,by simpa using hG4,by simpa using hG5,by simp[hsl],hle2.2,by simp;omega, .inl ⟨rfl, ?_⟩⟩ rfl rfl
        rw[hpr]
        simp
       ·refine Ow.buildSlice (e:=3) #[vi a] rfl rfl (by kernel_rfl) fun bc hbc hwc=> ?_
        with_reducible refine Ow.nil ?_
        refine⟨qx_ (by simp[keys]), ?_⟩
        simp only[List.set_cons_zero,List.set_cons_succ,z0_,qY_,qX_]
        refine OwG.one 8 _ (by kernel_rfl) rfl ?_
        refine Ow.permL (M:=D1++ ((b4,O4):: (br,prO (vp bw 0) v1 v2):: (bw,wrO s a2 0):: (D2++ (DG++ [(ba, .cells (zv_ p).toArray 114 (0,0)),(bc, .cells #[vi a] 3 (0,0))])))) (by classical exact List.perm_iff_count.2 fun a=>by simp only[List.count_append,List.count_cons,List.count_nil]<;>omega) ?_
        refine Ow.appendXG (e:=114) (k:=1) (new:=zv_ p) (X:=D1) v1 rfl rfl rfl rfl Tryz.underlying22 Tryz.ag114 (by kernel_rfl) vq_ (by rw[qf_];rfl) Tryz.underlying22 (by intro k h;cases h) hG1 (fun w' hw'=>AppX.one1 (hw'.has ba (.cells (zv_ p).toArray 114 (0,0)) (by simp)) (jv_ _) (wG_ _)) (by omega) (fun B4 v4 D4 hA4 hB4 hG4 hk41 hk42 hlk4=> ?_)
        have hN4:New w.heap.size D4:=New.of_le fun q hq=>by
         rcases hk42 q hq with h|h
         ·exact hN1.le q h
         ·omega
        refine Ow.permL (M:=(b4,O4):: (br,prO (vp bw 0) v1 v2):: (bw,wrO s a2 0):: (D4++ (D2++ (DG++ [(ba, .cells (zv_ p).toArray 114 (0,0)),(bc, .cells #[vi a] 3 (0,0))])))) (by classical exact List.perm_iff_count.2 fun a=>by simp only[List.count_append,List.count_cons,List.count_nil]<;>omega) ?_
        with_reducible refine Ow.nil ?_
        refine⟨(fun r hr=>by simp only[List.mem_cons,List.not_mem_nil,or_false] at hr;rcases hr with rfl|rfl<;>simp(disch:=omega) only[List.cons_append,List.nil_append,zH_,zG_]), ?_⟩
        simp only[List.set_cons_zero,List.set_cons_succ,z0_,qY_,qX_]
        refine OwG.permL (M:=(b4,O4):: (br,prO (vp bw 0) v1 v2):: (bw,wrO s a2 0):: (D4++ (D2++ (DG++ [(ba, .cells (zv_ p).toArray 114 (0,0)),(bc, .cells #[vi a] 3 (0,0))])))) (by classical exact List.perm_iff_count.2 fun a=>by simp only[List.count_append,List.count_cons,List.count_nil]<;>omega) (fun r hr=>by simp only[List.mem_cons,List.not_mem_nil,or_false] at hr;rcases hr with rfl|rfl<;>simp(disch:=omega) only[List.cons_append,List.nil_append,zH_,zG_]) ?_
        refine OwG.rest [15,16,17,18,19,20,21] rfl (by kernel_rfl) (by kernel_rfl) ?_
        simp only[zg_, ↓zd_, ↓zb_, ↓zp_, ↓zq_,za_]
        refine Ow.soft rfl rfl rfl ?_
        refine Ow.permL (M:=D2++ ((b4,O4):: (br,prO (vp bw 0) v1 v2):: (bw,wrO s a2 0):: (D4++ (DG++ [(ba, .cells (zv_ p).toArray 114 (0,0)),(bc, .cells #[vi a] 3 (0,0))])))) (by classical exact List.perm_iff_count.2 fun a=>by simp only[List.count_append,List.count_cons,List.count_nil]<;>omega) ?_
        refine Ow.appendXG (e:=3) (k:=1) (new:=Jh_ a) (X:=D2) v2 rfl rfl rfl rfl Tryz.underlying28 (id (by kernel_rfl):z2_ Tryz.prog 3=some (false,1)) (by kernel_rfl) (id (by kernel_rfl):zE_ Tryz.prog 3=some (vi 0)) rfl Tryz.underlying28 (by intro k h;cases h) hG2 (fun w' hw'=>AppX.one1 (hw'.has bc (.cells #[vi a] 3 (0,0)) (by simp)) (kY_ a) rfl) (by omega) (fun B5 v5 D5 hA5 hB5 hG5 hk51 hk52 hlk5=> ?_)
        have hN5:New w.heap.size D5:=New.of_le fun q hq=>by
         rcases hk52 q hq with h|h
         ·exact hN2.le q h
         ·omega
        refine Ow.permL (M:=(br,prO (vp bw 0) v1 v2):: (bw,wrO s a2 0):: (b4,O4):: (D4++ (D5++ (DG++ [(ba, .cells (zv_ p).toArray 114 (0,0)),(bc, .cells #[vi a] 3 (0,0))])))) (by classical exact List.perm_iff_count.2 fun a=>by simp only[List.count_append,List.count_cons,List.count_nil]<;>omega) ?_
        with_reducible refine Ow.nil ?_
        refine⟨(fun r hr=>by simp only[List.mem_cons,List.not_mem_nil,or_false] at hr;rcases hr with rfl|rfl<;>simp(disch:=omega) only[zH_,zG_]), ?_⟩
        have st4: ∀a,zl_ (some (a,1)) (some (prO (vp bw 0) v1 v2)) 1 v4=some (prO (vp bw 0) v4 v2):=fun a=>Xr_ _ v1 v2 v4 a hG4.cell
        have st5: ∀a,zl_ (some (a,1)) (some (prO (vp bw 0) v4 v2)) 2 v5=some (prO (vp bw 0) v4 v5):=fun a=>KI_ _ v4 v2 v5 a hG5.cell
        refine kq @zY_ ?_
        refine Ow.store rfl rfl rfl (ke (And.intro @zY_ @st4)) ?_
        refine ko (And.intro @zY_ @st5) ?_
        subst hO4
        refine Jump.mk ⟨1,l++ [p],sp++ [a],a2,0,v4,v5,b4,p,D4,D5,DG++ [(ba, .cells (zv_ p).toArray 114 (0,0)),(bc, .cells #[vi a] 3 (0,0))]⟩ rfl (by show n - (l++ [p]).length+1<n - l.length+1;simp;omega) ⟨hw4,hN4,hN5,hNG.app ⟨hwa,hwc,trivial⟩,by simpa using hG4,by simpa using hG5,by simp[hsl],hle2.2,by simp;omega, .inl ⟨rfl, ?_⟩⟩ rfl rfl
        rw[hpr]
        simp
      ·refine Ow.buildSlice (e:=3) #[vi a] rfl rfl (by kernel_rfl) fun bc hbc hwc=> ?_
       with_reducible refine Ow.nil ?_
       refine⟨qx_ (by simp[keys]), ?_⟩
       simp only[List.set_cons_zero,List.set_cons_succ,z0_,qY_,qX_]
       refine OwG.one 7 _ (by kernel_rfl) rfl ?_
       refine Ow.buildSlice (e:=114) (zv_ p).toArray rfl rfl (zR_ (cs:=zv_ p) Tryz.underlying22 Tryz.ag114 vq_ (by decide) rfl) fun ba hba hwa=> ?_
       with_reducible refine Ow.nil ?_
       refine⟨qx_ (by simp[keys]), ?_⟩
       simp only[List.set_cons_zero,List.set_cons_succ,z0_,qY_,qX_]
       refine OwG.one 8 _ (by kernel_rfl) rfl ?_
       refine Ow.permL (M:=D1++ ((b4,O4):: (br,prO (vp bw 0) v1 v2):: (bw,wrO s a2 0):: (D2++ (DG++ [(ba, .cells (zv_ p).toArray 114 (0,0)),(bc, .cells #[vi a] 3 (0,0))])))) (by classical exact List.perm_iff_count.2 fun a=>by simp only[List.count_append,List.count_cons,List.count_nil]<;>omega) ?_
       refine Ow.appendXG (e:=114) (k:=1) (new:=zv_ p) (X:=D1) v1 rfl rfl rfl rfl Tryz.underlying22 Tryz.ag114 (by kernel_rfl) vq_ (by rw[qf_];rfl) Tryz.underlying22 (by intro k h;cases h) hG1 (fun w' hw'=>AppX.one1 (hw'.has ba (.cells (zv_ p).toArray 114 (0,0)) (by simp)) (jv_ _) (wG_ _)) (by omega) (fun B4 v4 D4 hA4 hB4 hG4 hk41 hk42 hlk4=> ?_)
       have hN4:New w.heap.size D4:=New.of_le fun q hq=>by
        rcases hk42 q hq with h|h
        ·exact hN1.le q h
        ·omega
       refine Ow.permL (M:=(b4,O4):: (br,prO (vp bw 0) v1 v2):: (bw,wrO s a2 0):: (D4++ (D2++ (DG++ [(ba, .cells (zv_ p).toArray 114 (0,0)),(bc, .cells #[vi a] 3 (0,0))])))) (by classical exact List.perm_iff_count.2 fun a=>by simp only[List.count_append,List.count_cons,List.count_nil]<;>omega) ?_
       with_reducible refine Ow.nil ?_
       refine⟨(fun r hr=>by simp only[List.mem_cons,List.not_mem_nil,or_false] at hr;rcases hr with rfl|rfl<;>simp(disch:=omega) only[List.cons_append,List.nil_append,zH_,zG_]), ?_⟩
       simp only[List.set_cons_zero,List.set_cons_succ,z0_,qY_,qX_]
       refine OwG.permL (M:=(b4,O4):: (br,prO (vp bw 0) v1 v2):: (bw,wrO s a2 0):: (D4++ (D2++ (DG++ [(ba, .cells (zv_ p).toArray 114 (0,0)),(bc, .cells #[vi a] 3 (0,0))])))) (by classical exact List.perm_iff_count.2 fun a=>by simp only[List.count_append,List.count_cons,List.count_nil]<;>omega) (fun r hr=>by simp only[List.mem_cons,List.not_mem_nil,or_false] at hr;rcases hr with rfl|rfl<;>simp(disch:=omega) only[List.cons_append,List.nil_append,zH_,zG_]) ?_
       refine OwG.rest [15,16,17,18,19,20,21] rfl (by kernel_rfl) (by kernel_rfl) ?_
       simp only[zg_, ↓zd_, ↓zb_, ↓zp_, ↓zq_,za_]
       refine Ow.soft rfl rfl rfl ?_
       refine Ow.permL (M:=D2++ ((b4,O4):: (br,prO (vp bw 0) v1 v2):: (bw,wrO s a2 0):: (D4++ (DG++ [(ba, .cells (zv_ p).toArray 114 (0,0)),(bc, .cells #[vi a] 3 (0,0))])))) (by classical exact List.perm_iff_count.2 fun a=>by simp only[List.count_append,List.count_cons,List.count_nil]<;>omega) ?_
       refine Ow.appendXG (e:=3) (k:=1) (new:=Jh_ a) (X:=D2) v2 rfl rfl rfl rfl Tryz.underlying28 (id (by kernel_rfl):z2_ Tryz.prog 3=some (false,1)) (by kernel_rfl) (id (by kernel_rfl):zE_ Tryz.prog 3=some (vi 0)) rfl Tryz.underlying28 (by intro k h;cases h) hG2 (fun w' hw'=>AppX.one1 (hw'.has bc (.cells #[vi a] 3 (0,0)) (by simp)) (kY_ a) rfl) (by omega) (fun B5 v5 D5 hA5 hB5 hG5 hk51 hk52 hlk5=> ?_)
       have hN5:New w.heap.size D5:=New.of_le fun q hq=>by
        rcases hk52 q hq with h|h
        ·exact hN2.le q h
        ·omega
       refine Ow.permL (M:=(br,prO (vp bw 0) v1 v2):: (bw,wrO s a2 0):: (b4,O4):: (D4++ (D5++ (DG++ [(ba, .cells (zv_ p).toArray 114 (0,0)),(bc, .cells #[vi a] 3 (0,0))])))) (by classical exact List.perm_iff_count.2 fun a=>by simp only[List.count_append,List.count_cons,List.count_nil]<;>omega) ?_
       with_reducible refine Ow.nil ?_
       refine⟨(fun r hr=>by simp only[List.mem_cons,List.not_mem_nil,or_false] at hr;rcases hr with rfl|rfl<;>simp(disch:=omega) only[zH_,zG_]), ?_⟩
       have st4: ∀a,zl_ (some (a,1)) (some (prO (vp bw 0) v1 v2)) 1 v4=some (prO (vp bw 0) v4 v2):=fun a=>Xr_ _ v1 v2 v4 a hG4.cell
       have st5: ∀a,zl_ (some (a,1)) (some (prO (vp bw 0) v4 v2)) 2 v5=some (prO (vp bw 0) v4 v5):=fun a=>KI_ _ v4 v2 v5 a hG5.cell
       refine kq @zY_ ?_
       refine Ow.store rfl rfl rfl (ke (And.intro @zY_ @st4)) ?_
       refine ko (And.intro @zY_ @st5) ?_
       subst hO4
       refine Jump.mk ⟨1,l++ [p],sp++ [a],a2,0,v4,v5,b4,p,D4,D5,DG++ [(ba, .cells (zv_ p).toArray 114 (0,0)),(bc, .cells #[vi a] 3 (0,0))]⟩ rfl (by show n - (l++ [p]).length+1<n - l.length+1;simp;omega) ⟨hw4,hN4,hN5,hNG.app ⟨hwa,hwc,trivial⟩,by simpa using hG4,by simpa using hG5,by simp[hsl],hle2.2,by simp;omega, .inl ⟨rfl, ?_⟩⟩ rfl rfl
       rw[hpr]
       simp
    ·have d2: (e2 !=0)=true:=bne_iff_ne.2 he
     rw[if_neg he] at hpr
     refine ko (And.intro @zY_ @d2) ?_
     first|with_reducible refine ks [] (And.intro @zY_ @d2) ?_|refine kp (And.intro @zY_ @d2) ?_
     refine Jump.mk ⟨0,l,sp,a2,e2,v1,v2,b4,_,D1,D2,DG⟩ rfl (by show 0<n - l.length+1;omega) ⟨hw4,hN1,hN2,hNG,hG1,hG2,hsl,hle2.2,hln, .inr ⟨rfl, ?_⟩⟩ rfl rfl
     rw[hpr]
     simp
  ·obtain⟨hlab,hpr⟩:=hg
   simp only at hlab
   subst hlab
   simp only[RdL,RdH] at hpr ⊢
   simp only[kF_,Jn_,Bool.or_false,Bool.false_or,Bool.or_true,Bool.true_or,Nat.reduceBEq,beq_self_eq_true, ↓reduceIte,Bool.false_eq_true]
   refine kv ?_
   try with_reducible refine qv_ ?_
   first|with_reducible refine ks [] @zY_ ?_|refine kp @zY_ ?_
   refine⟨_,(ke @zY_), ?_⟩
   refine⟨ad3_ ⟨hw4,hNr⟩,rfl,v1,v2,_,by rw[hpr], ?_, ?_⟩
   ·rw[hpr];exact Gr.i hG1 fun c hc=>by simp[hc]
   ·rw[hpr];exact Gr.i hG2 fun c hc=>by simp[hc]
 ·intro key
  repeat ((try with_reducible refine Cw.go [999999] ?_);(simp(disch:=(first|assumption|omega| (simp only[xg_,xe_,UInt64.reduceToNat];try omega))) only[↓Sx.S0,Sx.S1,Tryz.fx,zY_,Nat.reduceAdd,Nat.reducePow,Int.reducePow,Nat.reduceBEq, ↓reduceIte,UInt8.reduceToNat,UInt16.reduceToNat,UInt32.reduceToNat,UInt64.reduceToNat,Int.reduceToNat]))
  refine Ow.alloc rfl rfl vq_ fun b4 hb4 hw4=> ?_
  simp only[zc_,List.nil_append,List.cons_append]
  refine ko @zY_ ?_
  repeat ((try with_reducible refine Cw.go [999999] ?_);(simp(disch:=(first|assumption|omega| (simp only[xg_,xe_,UInt64.reduceToNat];try omega))) only[↓Sx.S0,Sx.S1,Tryz.fx,zY_,Nat.reduceAdd,Nat.reducePow,Int.reducePow,Nat.reduceBEq, ↓reduceIte,UInt8.reduceToNat,UInt16.reduceToNat,UInt32.reduceToNat,UInt64.reduceToNat,Int.reduceToNat]))
  have key0:=fun f'=>key (⟨1,[],[],a0,e0, .slice none 0 0, .slice none 0 0,b4,z5_,[],[],[]⟩) f'
  simp only[kF_,Jn_,Bool.or_false,Bool.false_or,Bool.or_true,Bool.true_or,Nat.reduceBEq,beq_self_eq_true, ↓reduceIte,Bool.false_eq_true] at key0
  clear key
  refine Cw.label ?_
  refine key0 _ ⟨hw4,trivial,trivial,trivial,Gr.nl,Gr.nl,rfl,ha,Nat.zero_le _, .inl ⟨rfl, ?_⟩⟩ ?_
  ·rfl
  ·rfl
end Go.Proofs
end
section
open Go Go.Proofs Go.Sx Go.StP Go.Flo
namespace Go.Proofs
set_option maxRecDepth 10000
set_option maxHeartbeats 400000
set_option linter.unusedSimpArgs false
abbrev arl_ (w:World) (v:Value) (l:List Nat):Prop:=SlV 1 Jh_ 0 w v l
abbrev ObSl (w:World) (v:Value) (l:List ObL):Prop:=SlV 2 obC ob0 w v l
def PackIn (w:World) (bp:Nat) (l:List PartL) (sp:List Nat) (ids:List IdL) (os:List ObL):Prop:=
 ∃v0 v1 v2 v3,w.heap[bp]? =some (pkO v0 v1 v2 v3)∧k3_ w v0 l∧arl_ w v1 sp∧IdS w v2 ids∧ObSl w v3 os
def PackD (D:ze_) (bp:Nat) (l:List PartL) (sp:List Nat) (ids:List IdL) (os:List ObL):Prop:=
 ∃v0 v1 v2 v3,(bp,pkO v0 v1 v2 v3)∈D∧GrI D 114 3 v0 l.length (l.map zv_).flatten∧GrI D 3 1 v1 sp.length (sp.map Jh_).flatten∧GrI D 37 32 v2 ids.length (ids.map wb_).flatten∧GrI D 43 2 v3 os.length (os.map obC).flatten
theorem PackD.mono {D D':ze_} {bp:Nat} {l:List PartL} {sp:List Nat} {ids:List IdL} {os:List ObL} (h:PackD D bp l sp ids os) (hD: ∀p,p∈D→p∈D'):PackD D' bp l sp ids os:=by
 obtain⟨v0,v1,v2,v3,h1,h2,h3,h4,h5⟩:=h
 exact⟨v0,v1,v2,v3,hD _ h1,h2.mono hD,h3.mono hD,h4.mono hD,h5.mono hD⟩
theorem PackD.inW {w0 w:World} {D L:ze_} {bp:Nat} {l:List PartL} {sp:List Nat} {ids:List IdL} {os:List ObL} (h:PackD D bp l sp ids os) (hD: ∀p,p∈D→p∈L) (hw:Hp w0 L w):PackIn w bp l sp ids os:=by
 obtain⟨v0,v1,v2,v3,h1,h2,h3,h4,h5⟩:=h.mono hD
 exact⟨v0,v1,v2,v3,hw.has _ _ h1,h2.slV hw rfl rfl jv_,h3.slV hw rfl rfl kY_,h4.slV hw rfl rfl qZ_,h5.slV hw rfl rfl Km_⟩
theorem PackIn.old {w w':World} {L:ze_} {bp:Nat} {l:List PartL} {sp:List Nat} {ids:List IdL} {os:List ObL} (h:PackIn w bp l sp ids os) (hw:Hp w L w') (hn:New w.heap.size L):PackIn w' bp l sp ids os:=by
 obtain⟨v0,v1,v2,v3,h1,h2,h3,h4,h5⟩:=h
 exact⟨v0,v1,v2,v3,by rw[hw.old bp (Array.getElem?_eq_some_iff.1 h1).1 (hn.not (Array.getElem?_eq_some_iff.1 h1).1)];exact h1,h2.oldN hw hn,h3.oldN hw hn,h4.oldN hw hn,h5.oldN hw hn⟩
theorem arq_ (b o:Nat):qO_ Tryz.prog .eql 38 (vp b o) (.pointer none)=some (.bool false):=by
 simp[qO_,eqX,qH_,qI_,Tryz.underlying38,vp]
theorem ani_ {w:World} {v:Value} {l:List Nat} {b off:Nat} {arr:Array Value} {E:TypeId} {fz:Nat×Nat} (h:RowS 1 Jh_ 0 w v l b off arr E fz) {k:Nat} (hk:k<l.length) (n:Nat):
  zs_ (some (false,n)) (some (.cells arr E fz)) (off+k)=some (vi (l.getD k 0)):=by
 have:=h.cell (j:=0) (n:=n) hk (by omega)
 rwa [Nat.mul_one,Nat.add_zero] at this
set_option linter.defProp false
def jf_:=And.intro (And.intro (And.intro (@zi_) (And.intro (@zh_) (@Wh_))) (And.intro (@afV_) (And.intro (@aeZ_) (@afB_)))) (And.intro (And.intro (@arq_) (And.intro (@ja_) (@qs_))) (And.intro (@qt_) (And.intro (@qB_) (@j4_))))
theorem acn_ (bp:Nat) (l:List PartL) (sp:List Nat) (ids:List IdL) (os:List ObL) (w:World) (h:PackIn w bp l sp ids os):
  Rets Tryz.prog 20 #[vp bp 0] w (fun v D=>v=vi l.length∧D= []):=by
 obtain⟨v0,v1,v2,v3,h1,h2,h3,h4,h5⟩:=h
 have ln:=h2.len
 refine Rets.enterV Tryz.func20 rfl (rs:= [.tmp 2]) Tryz.results20 Tryz.ntmps20 ?_
 refine kf ?_
 first|with_reducible refine ks [] (And.intro @jf_ (And.intro @h1 (@ln))) ?_|refine kp (And.intro @jf_ (And.intro @h1 (@ln))) ?_
 refine⟨_,(ke @jf_),trivial, ?_⟩
 rfl
def hasV (l:List PartL) (i:Int):Bool:=decide (0≤i)&&decide (i< (l.length:Int))
theorem ab0_ (bp:Nat) (i:Int) (l:List PartL) (sp:List Nat) (ids:List IdL) (os:List ObL) (w:World) (h:PackIn w bp l sp ids os):
  Rets Tryz.prog 77 #[vp bp 0,vi i] w (fun v D=>v= .bool (hasV l i)∧D= []):=by
 refine Rets.enterV Tryz.func77 rfl (rs:= [.tmp 4]) Tryz.results77 Tryz.ntmps77 ?_
 refine kf ?_
 unfold hasV
 by_cases hi:0≤i
 ·have d1:decide (0≤i)=true:=decide_eq_true hi
  rw[d1,Bool.true_and]
  first|with_reducible refine ks [] (And.intro @jf_ @d1) ?_|refine kp (And.intro @jf_ @d1) ?_
  refine Ow.callFV rfl Tryz.call20 (fun w' hw'=>acn_ bp l sp ids os w' (h.old hw' trivial)) ?_
  refine ko (And.intro @jf_ @d1) ?_
  first|with_reducible refine ks [] @jf_ ?_|refine kp @jf_ ?_
  refine⟨_,(ke @jf_),trivial, ?_⟩
  rfl
 ·have d1:decide (0≤i)=false:=decide_eq_false hi
  rw[d1,Bool.false_and]
  first|with_reducible refine ks [] (And.intro @jf_ @d1) ?_|refine kp (And.intro @jf_ @d1) ?_
  refine⟨_,(ke @jf_),trivial, ?_⟩
  rfl
theorem ahw_ (bp:Nat) (i:Int) (l:List PartL) (sp:List Nat) (ids:List IdL) (os:List ObL) (w:World) (h:PackIn w bp l sp ids os) (hsp:sp.length=l.length):
  Rets Tryz.prog 23 #[vp bp 0,vi i] w (fun v D=>v=vi (if hasV l i then((sp.getD i.toNat 0:Nat):Int) else 0)∧D= []):=by
 obtain⟨v0,v1,v2,v3,h1,h2,h3,h4,h5⟩:=id h
 obtain⟨b,off,arr,E,fz,hr⟩:=h3.row
 refine Rets.enterV Tryz.func23 rfl (rs:= [.tmp 4]) Tryz.results23 Tryz.ntmps23 ?_
 refine kf ?_
 first|with_reducible refine ks [] @jf_ ?_|refine kp @jf_ ?_
 refine Ow.callFV rfl Tryz.call77 (fun w' hw'=>ab0_ bp i l sp ids os w' (h.old hw' trivial)) ?_
 cases hc:hasV l i with
 |false=>
  refine ko @jf_ ?_
  first|with_reducible refine ks [] @jf_ ?_|refine kp @jf_ ?_
  refine⟨_,(ke @jf_),trivial, ?_⟩
  rfl
 |true=>
  unfold hasV at hc
  simp only[Bool.and_eq_true,decide_eq_true_eq] at hc
  obtain⟨k,rfl⟩: ∃k:Nat,i=(k:Int):=⟨i.toNat,by omega⟩
  have hk:k<sp.length:=by omega
  have hx:=hr.has (by omega)
  have ix:=hr.idx false k hk
  rw[Nat.mul_one] at ix
  have ld:=ani_ hr hk
  refine ko @jf_ ?_
  first|with_reducible refine ks [] (And.intro @jf_ (And.intro @h1 (And.intro @hx (And.intro @ix (@ld))))) ?_|refine kp (And.intro @jf_ (And.intro @h1 (And.intro @hx (And.intro @ix (@ld))))) ?_
  refine⟨_,(ke @jf_),trivial, ?_⟩
  rfl
theorem amT_ (bp:Nat) (i:Int) (l:List PartL) (sp:List Nat) (ids:List IdL) (os:List ObL) (w:World) (h:PackIn w bp l sp ids os) (hsp:ids.length=l.length):
  Rets Tryz.prog 22 #[vp bp 0,vi i] w (fun v D=>v= .agg (a8 (if hasV l i then ids.getD i.toNat id0 else id0).l)∧D= []):=by
 obtain⟨v0,v1,v2,v3,h1,h2,h3,h4,h5⟩:=id h
 obtain⟨b,off,arr,E,fz,hr⟩:=h4.row
 have hi0:=id0.h
 refine Rets.enterV Tryz.func22 rfl (rs:= [.cell 4 37]) Tryz.results22 Tryz.ntmps22 ?_
 refine kf ?_
 first|with_reducible refine ks [] @jf_ ?_|refine kp @jf_ ?_
 refine Ow.alloc rfl rfl wv_ fun b4 hb4 hw4=> ?_
 simp only[zc_,List.nil_append,List.cons_append]
 refine ko @jf_ ?_
 first|with_reducible refine ks [] @jf_ ?_|refine kp @jf_ ?_
 refine Ow.callFV rfl Tryz.call77 (fun w' hw'=>ab0_ bp i l sp ids os w' (h.old hw' ⟨hw4,trivial⟩)) ?_
 cases hc:hasV l i with
 |false=>
  refine ko @jf_ ?_
  first|with_reducible refine ks [] @jf_ ?_|refine kp @jf_ ?_
  refine Ow.build (.agg (a8 id0.l)) rfl abF_ ?_
  refine ko @jf_ ?_
  first|with_reducible refine ks [] @jf_ ?_|refine kp @jf_ ?_
  refine⟨_,(ke @jf_),⟨hw4,trivial⟩, ?_⟩
  rfl
 |true=>
  unfold hasV at hc
  simp only[Bool.and_eq_true,decide_eq_true_eq] at hc
  obtain⟨k,rfl⟩: ∃k:Nat,i=(k:Int):=⟨i.toNat,by omega⟩
  have hk:k<ids.length:=by omega
  have hx:=hr.has (by omega)
  have hbl:=hr.lt (by omega)
  have hbp:=(Array.getElem?_eq_some_iff.1 h1).1
  have hn4:b4≠b:=by omega
  have hn4p:b4≠bp:=by omega
  have ix:=hr.idx true k hk
  have ld:=JH_ hr hk
  have hil:=(ids.getD k id0).h
  refine ko @jf_ ?_
  first|with_reducible refine ks [] (And.intro @jf_ (And.intro @h1 (And.intro @hx (And.intro @ix (@ld))))) ?_|refine kp (And.intro @jf_ (And.intro @h1 (And.intro @hx (And.intro @ix (@ld))))) ?_
  refine⟨_,(ke @jf_),⟨hw4,trivial⟩, ?_⟩
  rfl
end Go.Proofs
end
