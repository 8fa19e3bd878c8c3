/-
  Part 2 of the walk: contracts of the functions that the law reaches, and the calculus they stand on.
  No conditions.
-/
import Derived.Test.YtcakbfbidacnlaaDoorF1
import Derived.Lib.Strings
import Derived.Lib.Bytealg
import GoSem.Core.Float
import Derived.Laws.MakeOwn
namespace Go.Sx
open Go
section
variable {P:Program} {w0:World} {l:List Oper} {R ts:List Nat} {n:Nat} {listed:List Bool} {f:Fr} {L:za_} {N:Fr→za_→Prop}
def OwG (P:Program) (w0:World) (l:List Oper) (R ts:List Nat) (n:Nat) (listed:List Bool) (f:Fr) (L:za_) (N:Fr→za_→Prop):Prop:=
 ∀w,Hp w0 L w→jV_ P l.toArray (q5_ w0 N) ts (SR w0 R L) n listed.toArray (act f) w
def chkG (P:Program) (l:List Oper) (ts:List Nat):List Nat→List Bool→Option (List Bool)
 | [],listed=>some listed
 |k::is,listed=>
  match xL_ l k with
  |some o=>if !ts.contains k&& (ts.all fun t=> !listed.toArray.getD t true)&& (Region.ready .any l.toArray listed.toArray).contains k&&Region.free .any l.toArray listed.toArray k&&
    (jQ_ P o.op|| (Jc_ o.op&&Z1_ l.toArray ts listed.toArray k)) then chkG P l ts is (listed.set k true) else none
  |none=>none
theorem OwG.step {k:Nat} {o:Oper} {v:Value} (hns:Region.noSelect l.toArray=true) (hk:xL_ l k=some o) {rest:List Bool} (hc:chkG P l ts [k] listed=some rest)
  (hY:YieldsC P l.toArray (SR w0 R L) (jQ_ P o.op=true) o v (act f)) (h:OwG P w0 l R ts n rest (qj_ f o.dst v) L N):OwG P w0 l R ts (n+1) listed f L N:=by
 have hoi:l.toArray[k]? =some o:=by rw[jv_] at hk;simpa using hk
 unfold chkG at hc
 rw[hk] at hc
 simp only at hc
 split at hc
 ·rename_i hcc
  simp only[chkG,Option.some.injEq] at hc
  subst hc
  simp only[Bool.and_eq_true,Bool.or_eq_true,Bool.not_eq_true',List.all_eq_true,List.contains_eq_mem,decide_eq_true_eq,decide_eq_false_iff_not] at hcc
  obtain⟨⟨⟨⟨c2,c3⟩,c4⟩,c5⟩,c9⟩:=hcc
  have hsel:=Region.noSelect_spec hns
  intro w hw
  refine km_ hoi c2 hsel (fun c a w h=>zJ_ h) _ _ _ _ (jZ_ (P:=P) hoi c4 c5 (c9.imp id fun h=>⟨h.1,h.2,fun t ht=>c3 t ht⟩)) (.inr fun t ht=>c3 t ht) hY ?_
  rw[zT_,z2_]
  exact h w hw
 ·cases hc
theorem afg_ {k:Nat} {is:List Nat} {listed listed':List Bool} (h:chkG P l ts (k::is) listed=some listed'):chkG P l ts [k] listed=some (listed.set k true)∧chkG P l ts is (listed.set k true)=some listed':=by
 rw[chkG] at h
 cases ho:xL_ l k with
 |none=>rw[ho] at h;cases h
 |some o=>
  rw[ho] at h
  simp only at h
  split at h
  ·rename_i hcc
   refine⟨?_,h⟩
   rw[chkG,ho]
   simp only
   rw[if_pos hcc];rfl
  ·cases h
theorem OwG.runs {k:Md→List Oper→Fr→za_→Prop} (hns:Region.noSelect l.toArray=true): ∀ (is:List Nat) {listed listed':List Bool} {f:Fr} {L:za_},chkG P l ts is listed=some listed'→
  (∀md r f' L',k md r f' L'→r= []∧OwG P w0 l R ts n listed' f' L' N)→vcL P w0 l.toArray false (.sof R [] []) (xv_ l is) f L k→OwG P w0 l R ts (is.length+n) listed f L N
 | [],listed,listed',f,L,hc,hk,h=>by
  cases hc
  rw[List.length_nil,Nat.zero_add]
  exact(hk _ _ _ _ h).2
 |i::is,listed,listed',f,L,hc,hk,h=>by
  obtain⟨hc1,hc2⟩:=afg_ hc
  rw[zb_] at h
  cases ho:xL_ l i with
  |none=>unfold chkG at hc1;rw[ho] at hc1;cases hc1
  |some o=>
   rw[ho,zc_] at h
   unfold vcL at h
   rw[List.length_cons,show is.length+1+n=(is.length+n)+1 by omega]
   cases hs:zk_ l.toArray f o with
   |true=>
    rw[hs] at h
    have hw0:Region.wanted o (yielded l.toArray (act f).tmps)=false:=by rw[z3_,hs];rfl
    exact OwG.step hns ho hc1 (v:=undef) (.inr ⟨hw0,rfl⟩) (OwG.runs hns is hc2 hk h)
   |false=>
    rw[hs] at h
    have hw0:Region.wanted o (yielded l.toArray (act f).tmps)=true:=by rw[z3_,hs];rfl
    simp only[ib,vcB] at h
    split at h
    ·cases hrd:XZ_ (.sof R [] []) f o.op with
     |false=>rw[hrd] at h;exact absurd (hk _ _ _ _ h).1 (by simp)
     |true=>
      rw[hrd] at h
      simp only at h
      cases hv:xK_ P w0 L f o.op with
      |none=>rw[hv] at h;exact absurd (hk _ _ _ _ h).1 (by simp)
      |some v=>
       rw[hv] at h
       refine OwG.step hns ho hc1 (v:=v) (.inl ⟨hw0,fun w hw=> ?_⟩) (OwG.runs hns is hc2 hk h)
       rw[qZ_]
       rcases hw with hp|hw
       ·exact qw_ (Hp.refl w) (xe_ hp hv w)
       ·exact qw_ (Hp.refl w) (vL_ hrd hv hw)
    ·exact absurd (hk _ _ _ _ h).1 (by simp)
    ·exact absurd (hk _ _ _ _ h).1 (by simp)
theorem OwG.run (is:List Nat) (listed':List Bool) (n:Nat) {m:Nat} (hm:m=is.length+n) (hns:Region.noSelect l.toArray=true) (hc:chkG P l ts is listed=some listed')
  (h: ∀k:Md→List Oper→Fr→za_→Prop,(∀md f L,OwG P w0 l R ts n listed' f L N→k md [] f L)→nl (xv_ l is) fun l'=>vcL P w0 l.toArray false (.sof R [] []) l' f L k):OwG P w0 l R ts m listed f L N:=by
 subst hm
 refine OwG.runs (k:=fun _ r f' L'=>r= []∧OwG P w0 l R ts n listed' f' L' N) hns is hc (fun _ _ _ _ h=>h) ?_
 exact h _ fun _ _ _ h=>⟨rfl,h⟩
def abn_ (l:List Oper) (ts:List Nat) (ks:List Nat) (listed:List Bool):Bool:=
 ((Region.ready .any l.toArray listed.toArray).all fun i=>ks.contains i)&& (Region.ready .any l.toArray listed.toArray != [])&&ks.all fun k=> !ts.contains k
theorem OwG.softs (ks:List Nat) (hs:abn_ l ts ks listed=true)
  (h: ∀k,k∈ks→ ∀o,xL_ l k=some o→Ow P w0 l.toArray .seq [o] f L (fun f' L'=>(∀r,r∈R→zy_ w0 L' r=zy_ w0 L r)∧OwG P w0 l R ts n (listed.set k true) f' L' N)):
  OwG P w0 l R ts (n+1) listed f L N:=by
 unfold abn_ at hs
 simp only[Bool.and_eq_true,List.all_eq_true,bne_iff_ne,ne_eq,List.contains_eq_mem,decide_eq_true_eq,Bool.not_eq_true',decide_eq_false_iff_not] at hs
 obtain⟨⟨c3,c4⟩,c6⟩:=hs
 intro w hw
 refine⟨fun _=>SR.of hw,fun hr=>absurd hr c4,fun i hi=> ?_⟩
 have hik:=c3 i hi
 obtain⟨-,oi,hoi,-⟩:=mem_ready.1 hi
 have hni:xL_ l i=some oi:=by rw[jv_];simpa using hoi
 refine vA_ hoi (X:=jV_ P l.toArray (q5_ w0 N) ts (SR w0 R L) n (listed.toArray.setIfInBounds i true)) ?_ hw
 intro w' hw'
 have h1:=h i hik oi hni w' hw'
 refine xz_ ?_ h1
 rintro f' L' ⟨hS,hO⟩ w'' hw''
 rw[vd_ hS,z2_]
 exact hO w'' hw''
theorem OwG.one (i:Nat) (oi:Oper) (hs:abn_ l ts [i] listed=true) (hi:xL_ l i=some oi)
  (h:Ow P w0 l.toArray .seq [oi] f L (fun f' L'=>(∀r,r∈R→zy_ w0 L' r=zy_ w0 L r)∧OwG P w0 l R ts n (listed.set i true) f' L' N)):OwG P w0 l R ts (n+1) listed f L N:=
 OwG.softs [i] hs fun k hk o ho=>by
  rw[List.mem_singleton] at hk
  subst hk
  rw[hi] at ho
  cases ho
  exact h
theorem OwG.two (i j:Nat) (oi oj:Oper) (hs:abn_ l ts [i,j] listed=true) (hi:xL_ l i=some oi) (hj:xL_ l j=some oj)
  (h1:Ow P w0 l.toArray .seq [oi] f L (fun f' L'=>(∀r,r∈R→zy_ w0 L' r=zy_ w0 L r)∧OwG P w0 l R ts n (listed.set i true) f' L' N))
  (h2:Ow P w0 l.toArray .seq [oj] f L (fun f' L'=>(∀r,r∈R→zy_ w0 L' r=zy_ w0 L r)∧OwG P w0 l R ts n (listed.set j true) f' L' N)):OwG P w0 l R ts (n+1) listed f L N:=
 OwG.softs [i,j] hs fun k hk o ho=>by
  simp only[List.mem_cons,List.not_mem_nil,or_false] at hk
  rcases hk with rfl|rfl
  ·rw[hi] at ho;cases ho;exact h1
  ·rw[hj] at ho;cases ho;exact h2
theorem OwG.permL {M:za_} (hp:M.Perm L) (hR: ∀r,r∈R→zy_ w0 M r=zy_ w0 L r) (h:OwG P w0 l R ts n listed f M N):OwG P w0 l R ts n listed f L N:=by
 intro w hw
 rw[vd_ hR]
 exact h w (hw.perm hp)
def akz_ (P:Program) (l:List Oper) (is ts:List Nat) (listed:List Bool):Bool:=
 Region.noSelect l.toArray&&w3_ P l.toArray ts is listed.toArray&&ts.all fun t=> !listed.toArray.getD t true
theorem OwG.rest (is:List Nat) {m:Nat} (hm:m=is.length) (hB:akz_ P l is ts listed=true) (hl:is.map (fun i:Nat=>l[i]?)=(xv_ l is).map some)
  (h:nl (xv_ l is) fun l'=>Ow P w0 l.toArray (.sof R is ts) l' f L N):OwG P w0 l R ts m listed f L N:=by
 subst hm
 revert hl h
 generalize xv_ l is=l'
 intro hl h w hw
 simp only[akz_,Bool.and_eq_true,List.all_eq_true,Bool.not_eq_true'] at hB
 obtain⟨⟨h1,h4⟩,h5⟩:=hB
 have hlen:is.length=l'.length:=by have:=congrArg List.length hl;simpa using this
 have hF:Fits P l.toArray ts is l' listed.toArray:=⟨hlen,fun j=>by
  have:=congrArg (·[j]?) hl
  simp only[List.getElem?_map] at this
  cases hj:is[j]? with
  |none=>
   rw[hj] at this
   simp only[Option.map_none] at this
   cases hj':l'[j]? with
   |none=>rfl
   |some x=>rw[hj'] at this;cases this
  |some i=>
   rw[hj] at this
   simp only[Option.map_some] at this
   cases hj':l'[j]? with
   |none=>rw[hj'] at this;cases this
   |some x=>
    rw[hj'] at this
    simp only[Option.map_some,Option.some.injEq] at this
    simp[this],h1,h4⟩
 rw[hlen]
 exact(h:Ow P w0 l.toArray (.sof R is ts) l' f L N) listed.toArray hF (fun t ht=>h5 t ht) w hw
end
def CutO {G:Type} (M:List Nat) (S:G→List (Nat×Value)) (H:G→za_) (J:G→Prop) (f f':Fr) (L':za_):Prop:=
 ∃g,J g∧L'=H g∧f'=pin (qk_ (vr_ f') M 0 f) (S g)
theorem CutO.mk {G:Type} {M:List Nat} {S:G→List (Nat×Value)} {H:G→za_} {J:G→Prop} {f f':Fr} {L':za_} (g:G) (hJ:J g) (hL:L'=H g) (hf:f'=pin (qk_ (vr_ f') M 0 f) (S g)):CutO M S H J f f' L':=⟨g,hJ,hL,hf⟩
theorem Cw.cutO {P:Program} {w0:World} {x y:Code} {f:Fr} {L:za_} {K:j1_} {G:Type} (M:List Nat) (S:G→List (Nat×Value)) (H:G→za_) (J:G→Prop) (h1:Cw P w0 x f L (kT_ (CutO M S H J f) K))
  (h2: ∀ (g:G) (j:Nat→Value),J g→Cw P w0 y (pin (qk_ j M 0 f) (S g)) (H g) K):Cw P w0 (.seq x y) f L K:=by
 refine Cw.seq (h1.mono fun e f' L' k=> ?_)
 cases e with
 |normal=>
  obtain⟨g,hJ,rfl,hf⟩:=k
  have:=h2 g (vr_ f') hJ
  rw[←hf] at this
  exact this
 |_=>exact k
end Go.Sx
section
open Go Go.Proofs Go.Sx Go.StP
namespace Go.Proofs
set_option maxRecDepth 10000
set_option maxHeartbeats 1000000
set_option linter.unusedSimpArgs false
theorem ZE_ (s:List UInt8) (v1:Value) (F:List Nat) (n d:Nat) (hd:d<F.length):zn_ (some (false,n)) (some (ixO s v1 F)) (2+d)=some (vi ((F.getD d 0:Nat):Int)):=by
 unfold ixO zn_
 simp only[List.getElem?_toArray]
 rw[List.getElem?_append_right (by simp),show 2+d - [vs s,v1].length=d from by simp,List.getElem?_map,List.getElem?_eq_getElem hd,List.getD_eq_getElem?_getD,List.getElem?_eq_getElem hd]
 rfl
theorem adg_ (s:List UInt8) (v1:Value) (F:List Nat) (d x:Nat) (a:Bool) (hd:d<F.length):zl_ (some (a,1)) (some (ixO s v1 F)) (2+d) (vi (x:Int))=some (ixO s v1 (F.set d x)):=by
 have e1: ([vs s,v1]++ (F.map fun(n:Nat)=>vi (n:Int)))=([vs s,v1]++ (F.take d).map (fun(n:Nat)=>vi (n:Int)))++ ([vi ((F.getD d 0:Nat):Int)]++ (F.drop (d+1)).map (fun(n:Nat)=>vi (n:Int))):=by
  have hF:F=F.take d++ (F.getD d 0::F.drop (d+1)):=by rw[←jN_ (z:=0) hd,List.take_append_drop]
  conv=>lhs;rw[hF]
  simp
 have e2: ([vs s,v1]++ ((F.set d x).map fun(n:Nat)=>vi (n:Int)))=([vs s,v1]++ (F.take d).map (fun(n:Nat)=>vi (n:Int)))++ ([vi (x:Int)]++ (F.drop (d+1)).map (fun(n:Nat)=>vi (n:Int))):=by
  rw[List.set_eq_take_append_cons_drop,if_pos hd]
  simp
 unfold ixO
 rw[e1,e2]
 exact zY_ _ [vi ((F.getD d 0:Nat):Int)] [vi (x:Int)] _ a _ 78 (by simp;omega) rfl rfl rfl rfl
theorem zrIx:qd_ Tryd.prog 78=some (.agg ([vs [], .slice none 0 0]++ (List.replicate 16 0).map fun(n:Nat)=>vi (n:Int)).toArray):=id (by kernel_rfl)
theorem ak9_:QW_ Tryd.prog 78=some [(0,1),(1,1),(2,16)]:=id (by kernel_rfl)
theorem agF_ {w:World} {v1:Value} {l:List RwL} (s:List UInt8) (hv:RwSl w v1 l):jb_ (QW_ Tryd.prog 78) (qd_ Tryd.prog 78) [(0,vs s),(1,v1)]=some (.agg ([vs s,v1]++ (xI_ []).map fun(n:Nat)=>vi (n:Int)).toArray):=by
 rw[ak9_,zrIx]
 obtain⟨b,off,c,arr,E,fz,hr,hc,⟨rfl,rfl,rfl⟩ | ⟨rfl,hb,hsz⟩⟩:=hv<;>rfl
theorem alg_ (s:List UInt8) (v1:Value) (F:List Nat):Obj.cells (Value.cells (.agg ([vs s,v1]++F.map fun(n:Nat)=>vi (n:Int)).toArray)) 78 (0,0)=ixO s v1 F:=(rfl)
theorem KS_ {l:List RwL} {k:Nat}: ∀ {n:Nat},k<n→Zi_ l n=true→Zi_ l (k+1)=true
 |0,h,_=>by omega
 |n+1,h,h'=>by
  by_cases hk:k=n
  ·subst hk;exact h'
  ·refine KS_ (n:=n) (by omega) ?_
   unfold Zi_ at h'
   simp only[Bool.and_eq_true] at h'
   exact h'.1.1
def OfIS (s:List UInt8) (v1:Value) (l:List RwL) (v:Value) (D:za_):Prop:=
 if Zi_ l l.length=true then∃b,v= .tuple #[vp b 0, .bool (decide (s.length=4)&&decide (l.length≤200))]∧(b,ixO s v1 (xI_ l))∈D else v= .tuple #[.pointer none, .bool false]
structure OfG where
 k:Nat
 DG:za_
set_option linter.defProp false
def zD_:=And.intro (And.intro (And.intro (@ze_) (@zd_)) (And.intro (@qQ_) (And.intro (@kg_) (@vc_)))) (And.intro (And.intro (@k0_) (@vj_)) (And.intro (@q6_) (And.intro (@Sx.tup2_0) (@Sx.tup2_1))))
theorem abt_ (s:List UInt8) (v1:Value) (l:List RwL) (w:World) (hv:RwSl w v1 l) (hl:l.length<1000000):
  Rets Tryd.prog 31 #[vs s,v1] w (XS w [] (OfIS s v1 l)):=by
 obtain⟨bb,off,arr,E,fz,hr⟩:=hv.row
 have ln:=hv.len
 refine Rets.enterX Tryd.func31 rfl (rs:= [.tmp 4, .tmp 5]) Tryd.results31 Tryd.ntmps31 (fun p hp=>by cases hp) (by simp[keys]) ?_
 refine kf ?_
 first|with_reducible refine ks [] @zD_ ?_|refine kp @zD_ ?_
 refine Ow.build _ rfl (agF_ s hv) ?_
 refine ko @zD_ ?_
 refine Ow.box rfl rfl fun b6 hb6 hw6=> ?_
 simp only[jL_,jr_,jq_,alg_,List.nil_append]
 refine Ow.permL (M:= [(b6,ixO s v1 (xI_ []))]) (List.Perm.refl _) ?_
 refine ko @zD_ ?_
 first|with_reducible refine ks [] (And.intro @zD_ @ln) ?_|refine kp (And.intro @zD_ @ln) ?_
 rw[show xI_ []=xI_ (l.take 0) from rfl]
 refine Cw.loopG (G:=OfG) [17,18,19,20,8,7,21,22,23,24,25,26,27,28,29,30,31,32,33,34,35,36,37,38,39,40,41,42,43,44,45,46,47,48,49,50,51,52,4,5,53,54,55,9,56,57,60,61,62,63,64,65,66,67,68,69,58,59,70,16] (fun g=> [(16,vi g.k)]) (fun g=>(b6,ixO s v1 (xI_ (l.take g.k)))::g.DG) (fun g=>g.k≤l.length∧Zi_ l g.k=true∧New w.heap.size g.DG) (fun g=>l.length - g.k) ⟨0,[]⟩ rfl rfl ?_ ?_
 ·exact⟨Nat.zero_le _,rfl,trivial⟩
 intro g j hg
 refine kv ?_
 obtain⟨k,DG⟩:=g
 simp only at hg ⊢
 obtain⟨hk,hok,hNG⟩:=hg
 by_cases hlt:k<l.length
 ·have d1:decide ((k:Int)< (l.length:Int))=true:=decide_eq_true (by omega)
  have hbl:=hr.lt (by omega)
  have hNr:New w.heap.size ((b6,ixO s v1 (xI_ (l.take k)))::DG):=⟨hw6,hNG⟩
  have rd:zy_ w ((b6,ixO s v1 (xI_ (l.take k)))::DG) bb=some (.cells arr E fz):=by rw[qx_ (hNr.not hbl)];exact hr.has (by omega)
  have ix:=hr.idx true k hlt
  have ld:=hr.load z1_ (by omega) hlt
  first|with_reducible refine ks [11,1000005] (And.intro @zD_ (And.intro @d1 (And.intro @rd (And.intro @ix (@ld))))) ?_|refine kp (And.intro @zD_ (And.intro @d1 (And.intro @rd (And.intro @ix (@ld))))) ?_
  refine Ow.alloc rfl rfl zrRw fun b8 hb8 hw8=> ?_
  simp only[zg_,List.nil_append,List.cons_append]
  have h68:b6<b8:=zz_ hb8 (by simp[keys])
  refine Ow.permL (M:=(b8, .cells (rwC rw0).toArray 45 (0,0)):: (b6,ixO s v1 (xI_ (l.take k)))::DG) (by classical exact List.perm_iff_count.2 fun a=>by simp only[List.count_append,List.count_cons,List.count_nil]<;>omega) ?_
  have htk:l.take (k+1)=l.take k++ [l.getD k rw0]:=take_snoc (z:=rw0) hlt
  have hok1:Zi_ l (k+1)=((decide (k=0) ||decide (wO_ (l.getD (k - 1) rw0).id (l.getD k rw0).id<0))&&jo_ (l.getD k rw0)):=by show(Zi_ l k&&_&&_)=_;rw[hok,Bool.true_and]
  have hno:Zi_ l (k+1)=false→ ¬Zi_ l l.length=true:=fun h h'=>by rw[KS_ hlt h'] at h;cases h
  generalize hrr:l.getD k rw0=r at*
  have hN8:New w.heap.size ((b8,Obj.cells (rwC r).toArray 45 (0,0)):: (b6,ixO s v1 (xI_ (l.take k)))::DG):=⟨hw8,hNr⟩
  have rd8:zy_ w ((b8,Obj.cells (rwC r).toArray 45 (0,0)):: (b6,ixO s v1 (xI_ (l.take k)))::DG) bb=some (.cells arr E fz):=by rw[qx_ (hN8.not hbl)];exact hr.has (by omega)
  refine ko @zD_ ?_
  refine Cw.cutO (G:=Unit) [21,22,23,24,25,26,27,28,29,30,31,32,33,34,35,36,37,38,39,40,41,42,43,44,45,46,47,48,49,50,51,52] (fun g=> []) (fun g=>(b8, .cells (rwC r).toArray 45 (0,0)):: (b6,ixO s v1 (xI_ (l.take k)))::DG) (fun g=>Zi_ l (k+1)=true) ?_ ?_
  ·rcases Nat.eq_zero_or_pos k with rfl|hk0
   ·have d5:decide ((0:Int)< ((0:Nat):Int))=false:=rfl
    have hok2:Zi_ l (0+1)=jo_ r:=by rw[hok1,decide_eq_true (rfl:0=0),Bool.true_or,Bool.true_and]
    first|with_reducible refine ks [] @zD_ ?_|refine kp @zD_ ?_
    refine Cw.regionS [b8,bb] [0,1,2,3,4,5,6,7,8,9,10,11,12,13,14,15,16,17,18,19,20,21,22,23,24,25,26,27,28,29,30,31] [] (by kernel_rfl) (by kernel_rfl) (by kernel_rfl) ?_
    simp only[zj_, ↓zf_, ↓zb_, ↓zp_, ↓zq_,zc_]
    cases p1:decide (r.place<0) with
    |true=>
     have hbad:=hok2.trans (show jo_ r=false by simp[jo_,p1])
     refine kq (And.intro @zD_ (And.intro @d5 (@p1))) ?_
     first|with_reducible refine ks [] @zD_ ?_|refine kp @zD_ ?_
     refine⟨_,(ke @zD_), ?_⟩
     refine⟨Ext.of_new hN8, ?_⟩
     unfold OfIS
     rw[if_neg (hno hbad)]
     rfl
    |false=>
     cases p2:decide (1099511627775<r.place) with
     |true=>
      have hbad:=hok2.trans (show jo_ r=false by simp[jo_,p2])
      refine kq (And.intro @zD_ (And.intro @d5 (And.intro @p1 (@p2)))) ?_
      first|with_reducible refine ks [] @zD_ ?_|refine kp @zD_ ?_
      refine⟨_,(ke @zD_), ?_⟩
      refine⟨Ext.of_new hN8, ?_⟩
      unfold OfIS
      rw[if_neg (hno hbad)]
      rfl
     |false=>
      cases p3:decide (r.spot<0) with
      |true=>
       have hbad:=hok2.trans (show jo_ r=false by simp[jo_,p3])
       refine kq (And.intro @zD_ (And.intro @d5 (And.intro @p1 (And.intro @p2 (@p3))))) ?_
       first|with_reducible refine ks [] @zD_ ?_|refine kp @zD_ ?_
       refine⟨_,(ke @zD_), ?_⟩
       refine⟨Ext.of_new hN8, ?_⟩
       unfold OfIS
       rw[if_neg (hno hbad)]
       rfl
      |false=>
       cases p4:decide (1099511627775<r.spot) with
       |true=>
        have hbad:=hok2.trans (show jo_ r=false by simp[jo_,p4])
        refine kq (And.intro @zD_ (And.intro @d5 (And.intro @p1 (And.intro @p2 (And.intro @p3 (@p4)))))) ?_
        first|with_reducible refine ks [] @zD_ ?_|refine kp @zD_ ?_
        refine⟨_,(ke @zD_), ?_⟩
        refine⟨Ext.of_new hN8, ?_⟩
        unfold OfIS
        rw[if_neg (hno hbad)]
        rfl
       |false=>
        refine kq (And.intro @zD_ (And.intro @d5 (And.intro @p1 (And.intro @p2 (And.intro @p3 (@p4)))))) ?_
        exact CutO.mk () (by rw[hok2];simp[jo_,p1,p2,p3,p4]) rfl rfl
   ·have d5:decide ((0:Int)< (k:Int))=true:=decide_eq_true (by omega)
    have hki: (k:Int) - 1=((k - 1:Nat):Int):=by omega
    have ix':=hr.idx true (k - 1) (by omega)
    have ld':=hr.load z1_ (by omega) (k:=k - 1) (by omega)
    rw[decide_eq_false (show¬k=0 by omega),Bool.false_or] at hok1
    first|with_reducible refine ks [] @zD_ ?_|refine kp @zD_ ?_
    refine Cw.regionS [b8,bb] [0,1,2,3,4,5,6,7,8,9,10,11,12,13,14,15,16,17,18,19,20,21,22,23,24,25,26,27,28,29,30,31] [] (by kernel_rfl) (by kernel_rfl) (by kernel_rfl) ?_
    simp only[zj_, ↓zf_, ↓zb_, ↓zp_, ↓zq_,zc_]
    refine kq (And.intro @zD_ (And.intro @d5 (And.intro @hki (And.intro @ix' (And.intro @ld' (@rd8)))))) ?_
    refine Ow.soft rfl rfl rfl ?_
    refine Ow.callFV rfl Tryd.call39 (fun w' hw'=>JY_ (l.getD (k - 1) rw0) r w') ?_
    with_reducible refine Ow.nil ?_
    refine⟨by intro b hb;simp only[List.mem_cons,List.not_mem_nil,or_false] at hb;(try subst hb);rfl, ?_⟩
    generalize wO_ (l.getD (k - 1) rw0).id r.id=c at*
    by_cases hc:c<0
    ·have d6:decide (0≤c)=false:=decide_eq_false (by omega)
     have hok2:Zi_ l (k+1)=jo_ r:=by rw[hok1,decide_eq_true hc,Bool.true_and]
     cases p1:decide (r.place<0) with
     |true=>
      have hbad:=hok2.trans (show jo_ r=false by simp[jo_,p1])
      refine kq (And.intro @zD_ (And.intro @d6 (@p1))) ?_
      first|with_reducible refine ks [] @zD_ ?_|refine kp @zD_ ?_
      refine⟨_,(ke @zD_), ?_⟩
      refine⟨Ext.of_new hN8, ?_⟩
      unfold OfIS
      rw[if_neg (hno hbad)]
      rfl
     |false=>
      cases p2:decide (1099511627775<r.place) with
      |true=>
       have hbad:=hok2.trans (show jo_ r=false by simp[jo_,p2])
       refine kq (And.intro @zD_ (And.intro @d6 (And.intro @p1 (@p2)))) ?_
       first|with_reducible refine ks [] @zD_ ?_|refine kp @zD_ ?_
       refine⟨_,(ke @zD_), ?_⟩
       refine⟨Ext.of_new hN8, ?_⟩
       unfold OfIS
       rw[if_neg (hno hbad)]
       rfl
      |false=>
       cases p3:decide (r.spot<0) with
       |true=>
        have hbad:=hok2.trans (show jo_ r=false by simp[jo_,p3])
        refine kq (And.intro @zD_ (And.intro @d6 (And.intro @p1 (And.intro @p2 (@p3))))) ?_
        first|with_reducible refine ks [] @zD_ ?_|refine kp @zD_ ?_
        refine⟨_,(ke @zD_), ?_⟩
        refine⟨Ext.of_new hN8, ?_⟩
        unfold OfIS
        rw[if_neg (hno hbad)]
        rfl
       |false=>
        cases p4:decide (1099511627775<r.spot) with
        |true=>
         have hbad:=hok2.trans (show jo_ r=false by simp[jo_,p4])
         refine kq (And.intro @zD_ (And.intro @d6 (And.intro @p1 (And.intro @p2 (And.intro @p3 (@p4)))))) ?_
         first|with_reducible refine ks [] @zD_ ?_|refine kp @zD_ ?_
         refine⟨_,(ke @zD_), ?_⟩
         refine⟨Ext.of_new hN8, ?_⟩
         unfold OfIS
         rw[if_neg (hno hbad)]
         rfl
        |false=>
         refine kq (And.intro @zD_ (And.intro @d6 (And.intro @p1 (And.intro @p2 (And.intro @p3 (@p4)))))) ?_
         exact CutO.mk () (by rw[hok2];simp[jo_,p1,p2,p3,p4]) rfl rfl
    ·have d6:decide (0≤c)=true:=decide_eq_true (by omega)
     have hbad:Zi_ l (k+1)=false:=by rw[hok1,decide_eq_false hc,Bool.false_and]
     refine kq (And.intro @zD_ @d6) ?_
     first|with_reducible refine ks [] @zD_ ?_|refine kp @zD_ ?_
     refine⟨_,(ke @zD_), ?_⟩
     refine⟨Ext.of_new hN8, ?_⟩
     unfold OfIS
     rw[if_neg (hno hbad)]
     rfl
  ·intro u ju hu
   refine kv ?_
   first|with_reducible refine ks [] @zD_ ?_|refine kp @zD_ ?_
   refine Ow.callFV rfl Tryd.call33 (fun w' hw'=>ZO_ r.id w') ?_
   refine ko @zD_ ?_
   rw[←ajH_ (l.take k) r]
   refine Cw.loopG (G:=Nat) [56,57,60,61,62,63,64,65,66,67,68,69,58,59,9] (fun g=> [(9,vi g)]) (fun g=>(b8, .cells (rwC r).toArray 45 (0,0)):: (b6,ixO s v1 (Kd_ (l.take k) r g))::DG) (fun g=>zO_ r.id≤g∧g≤16) (fun g=>16 - g) (zO_ r.id) rfl rfl ?_ ?_
   ·exact⟨Nat.le_refl _,Nat.le_of_lt (abc_ _)⟩
   intro g j hg
   refine kv ?_
   obtain⟨hg1,hg2⟩:=hg
   by_cases hgl:g<16
   ·have d7:decide ((g:Int)<16)=true:=decide_eq_true (by omega)
    have lf:=fun n=>ZE_ s v1 (Kd_ (l.take k) r g) n g (by rw[Zt_];exact hgl)
    rw[ahd_ _ _ hgl] at lf
    have h86:b8≠b6:=by omega
    have sf:=fun a=>adg_ s v1 (Kd_ (l.take k) r g) g (xM_ (l.take k) g+1) a (by rw[Zt_];exact hgl)
    rw[af3_ _ _ hgl hg1,show((xM_ (l.take k) g+1:Nat):Int)=((xM_ (l.take k) g:Nat):Int)+1 by omega] at sf
    have hfv:xM_ (l.take k) g≤k:=by
     have h1:xM_ (l.take k) g≤ (l.take k).length:=List.countP_le_length
     rw[List.length_take] at h1
     omega
    first|with_reducible refine ks [] (And.intro @zD_ @d7) ?_|refine kp (And.intro @zD_ @d7) ?_
    refine Cw.regionS [b6] [0,1,2,3,4,7,8,5,6,9,10] [10] (by kernel_rfl) (by kernel_rfl) (by kernel_rfl) ?_
    simp only[zj_, ↓zf_, ↓zb_, ↓zp_, ↓zq_,zc_]
    refine kq (And.intro @zD_ @lf) ?_
    refine Ow.store rfl rfl rfl (ke (And.intro @zD_ @sf)) ?_
    refine ko @zD_ ?_
    first|with_reducible refine ks [] @zD_ ?_|refine kp @zD_ ?_
    exact Again.mk (G:=Nat) (g+1) (by show 16 - (g+1)<16 - g;omega) ⟨by omega,by omega⟩ rfl rfl
   ·obtain rfl:g=16:=by omega
    have d7:decide (((16:Nat):Int)<16)=false:=rfl
    rw[ain_,←htk]
    first|with_reducible refine ks [] @zD_ ?_|refine kp @zD_ ?_
    refine Cw.permL (M:=(b6,ixO s v1 (xI_ (l.take (k+1)))):: (b8, .cells (rwC r).toArray 45 (0,0))::DG) (by classical exact List.perm_iff_count.2 fun a=>by simp only[List.count_append,List.count_cons,List.count_nil]<;>omega) ?_
    first|with_reducible refine ks [] @zD_ ?_|refine kp @zD_ ?_
    exact Again.mk ⟨k+1,(b8, .cells (rwC r).toArray 45 (0,0))::DG⟩ (by show l.length - (k+1)<l.length - k;omega) ⟨hlt,hu,hw8,hNG⟩ rfl rfl
 ·obtain rfl:k=l.length:=by omega
  have d1:decide ((l.length:Int)< (l.length:Int))=false:=decide_eq_false (by omega)
  rw[List.take_length]
  by_cases h4:s.length=4
  ·have d2: ((s.length:Int)==4)=true:=by rw[h4];rfl
   first|with_reducible refine ks [] (And.intro @zD_ (And.intro @d1 (And.intro @d2 (@ln)))) ?_|refine kp (And.intro @zD_ (And.intro @d1 (And.intro @d2 (@ln)))) ?_
   refine⟨_,(ke @zD_), ?_⟩
   refine⟨Ext.of_new ⟨hw6,hNG⟩, ?_⟩
   unfold OfIS
   rw[if_pos hok]
   refine⟨b6, ?_,List.mem_cons_self⟩
   have e:decide ((l.length:Int)≤200)=decide (l.length≤200):=decide_eq_decide.2 (by omega)
   rw[decide_eq_true h4,Bool.true_and,←e];rfl
  ·have d2: ((s.length:Int)==4)=false:=beq_eq_false_iff_ne.2 (by omega)
   first|with_reducible refine ks [] (And.intro @zD_ (And.intro @d1 (And.intro @d2 (@ln)))) ?_|refine kp (And.intro @zD_ (And.intro @d1 (And.intro @d2 (@ln)))) ?_
   refine⟨_,(ke @zD_), ?_⟩
   refine⟨Ext.of_new ⟨hw6,hNG⟩, ?_⟩
   unfold OfIS
   rw[if_pos hok]
   exact⟨b6,by rw[decide_eq_false h4,Bool.false_and];rfl,List.mem_cons_self⟩
end Go.Proofs
end
section
open Go Go.Proofs Go.Sx Go.StP
namespace Go.Proofs
set_option maxRecDepth 10000
set_option maxHeartbeats 4000000
set_option linter.unusedSimpArgs false
structure ComL where
 tree:IdL
 par:List IdL
 text:List UInt8
def vN_ (t:IdL) (p:Value) (x:List UInt8):List Value:=t.l.map v8++ ([p]++ [vs x])
theorem abu_ (t:IdL) (p:Value) (x:List UInt8): (vN_ t p x).length=34:=by simp[vN_,t.h]
theorem xu_ (t:IdL) (p:Value) (x:List UInt8):Value.cells (.agg (vN_ t p x).toArray)=(vN_ t p x).toArray:=zg_ _
theorem kQ_ (t:IdL) (p:Value) (x:List UInt8) (E:TypeId) (fz:Nat×Nat):zn_ (some (true,32)) (some (.cells (vN_ t p x).toArray E fz)) 0=some (.agg (a8 t.l)):=by
 unfold vN_;exact x8_ [] _ _ E fz rfl (by simp[t.h])
theorem kF_ (t:IdL) (p:Value) (x:List UInt8) (n:Nat) (E:TypeId) (fz:Nat×Nat):zn_ (some (false,n)) (some (.cells (vN_ t p x).toArray E fz)) 32=some p:=by
 unfold vN_;exact qG_ _ _ p n E fz (by simp[t.h])
theorem kN_ (t:IdL) (p:Value) (x:List UInt8) (n:Nat) (E:TypeId) (fz:Nat×Nat):zn_ (some (false,n)) (some (.cells (vN_ t p x).toArray E fz)) 33=some (vs x):=by
 have e:vN_ t p x=(t.l.map v8++ [p])++ ([vs x]++ []):=by unfold vN_;simp only[List.append_assoc,List.append_nil]
 rw[e];exact qG_ _ _ (vs x) n E fz (by simp[t.h])
theorem wh_ (t:IdL) (p:Value) (x:List UInt8) (E:TypeId) (fz:Nat×Nat):zn_ (some (true,34)) (some (.cells (vN_ t p x).toArray E fz)) 0=some (.agg (vN_ t p x).toArray):=xb_ _ E fz 34 (by rw[List.size_toArray,abu_])
def ali_ (l:List IdL) (i:Nat):Bool:= !((l.take i).any fun y=>(l.getD i id0).l==y.l)
def aku_ (c:ComL):Bool:=(decide (c.par.length≤4)&&decide (c.text.length≤64))&& (List.range c.par.length).all (ali_ c.par)
abbrev ComS (w:World) (v:Value) (c:ComL):Prop:= ∃p,v= .agg (vN_ c.tree p c.text).toArray∧IdS w p c.par
theorem SlV.one {α:Type} {m:Nat} {enc:α→List Value} {z:α} {w:World} {v:Value} {l:List α} (h:SlV m enc z w v l):Value.oneCell' v=true∧v.cells= #[v]:=by
 obtain⟨b,off,c,arr,E,fz,-,-,⟨rfl,-,-⟩ | ⟨rfl,-,-⟩⟩:=h<;>exact⟨rfl,rfl⟩
set_option linter.defProp false
def ans_:=And.intro (And.intro (And.intro (@adS_) (@W3_)) (And.intro (@qH_) (And.intro (@ze_) (@zd_)))) (And.intro (And.intro (@kQ_) (@kF_)) (And.intro (@kN_) (And.intro (@wh_) (@xu_))))
end Go.Proofs
end
section
open Go Go.Proofs Go.Sx Go.StP
namespace Go.Proofs
set_option maxRecDepth 10000
set_option maxHeartbeats 4000000
set_option linter.unusedSimpArgs false
set_option linter.defProp false
def an0_:=And.intro (And.intro (And.intro (@adS_) (@W3_)) (And.intro (@qH_) (And.intro (@ze_) (@zd_)))) (And.intro (And.intro (@kQ_) (@kF_)) (And.intro (@kN_) (And.intro (@wh_) (@xu_))))
def anE_ (a b:ComL):Bool:=(a.tree.l==b.tree.l)&& (a.text==b.text)&&decide (a.par=b.par)
end Go.Proofs
end
section
open Go Go.Proofs Go.Sx
namespace Go.Proofs
set_option maxRecDepth 10000
set_option maxHeartbeats 4000000
set_option linter.unusedSimpArgs false
theorem acO_ {n:Nat} (h:n<1099511627776):zP_ (n:Int)=n:=by unfold zP_ maxN;omega
end Go.Proofs
end
section
open Go Go.Proofs Go.Sx Go.StP
namespace Go.Proofs
set_option maxRecDepth 10000
set_option maxHeartbeats 400000
set_option linter.unusedSimpArgs false
set_option linter.defProp false
def amG_:=And.intro (And.intro (And.intro (@xs_) (@xQ_)) (And.intro (@xP_) (@qI_))) (And.intro (And.intro (@z0_) (@qa_)) (And.intro (@ze_) (@zd_)))
def entB (e:EntL):List UInt8:=(z9_ (zP_ e.kind)++j7_ e.name)++e.id.l
def alA_ (l:List EntL):List UInt8:=(l.map entB).flatten
def idsB (l:List IdL):List UInt8:=(l.map IdL.l).flatten
def alx_ (c:ComL):List UInt8:=c.tree.l++z9_ (zP_ c.par.length)
def comB (c:ComL):List UInt8:=alx_ c++idsB c.par++j7_ c.text
set_option linter.defProp false
def anV_:=And.intro (And.intro (And.intro (@adS_) (@W3_)) (And.intro (@qH_) (And.intro (@ze_) (@zd_)))) (And.intro (And.intro (@kQ_) (@kF_)) (And.intro (@kN_) (And.intro (@wh_) (@xu_))))
end Go.Proofs
end
section
open Go Go.Proofs Go.Sx Go.StP
namespace Go.Proofs
set_option maxRecDepth 10000
set_option maxHeartbeats 400000
set_option linter.unusedSimpArgs false
instance:DecidableEq EntL:=fun a b=>if h:a.name=b.name∧a.kind=b.kind∧a.id.l=b.id.l then .isTrue (by cases a;cases b;simp only at h;obtain⟨rfl,rfl,h3⟩:=h;rw[IdL.ext' h3]) else .isFalse (fun e=>h (by rw[e];exact⟨rfl,rfl,rfl⟩))
theorem EntL.ext' {a b:EntL} (h: (a.name==b.name&&a.kind==b.kind&&a.id.l==b.id.l)=true):a=b:=by
 simp only[Bool.and_eq_true,beq_iff_eq] at h
 cases a;cases b;simp only at h;obtain⟨⟨rfl,rfl⟩,h3⟩:=h;rw[IdL.ext' h3]
set_option linter.defProp false
def anq_:=And.intro (And.intro (And.intro (@xs_) (@xQ_)) (And.intro (@xP_) (@qI_))) (And.intro (And.intro (@z0_) (@qa_)) (And.intro (@ze_) (@zd_)))
end Go.Proofs
end
section
open Go Go.Proofs Go.Sx Go.StP
namespace Go.Proofs
set_option maxRecDepth 10000
set_option maxHeartbeats 400000
set_option linter.unusedSimpArgs false
structure SoG where
 g:Nat
 Z:List EntL
 v:Value
 D:za_
set_option linter.defProp false
def amL_:=And.intro (And.intro (And.intro (@xs_) (@xQ_)) (And.intro (@xP_) (@qI_))) (And.intro (And.intro (@z0_) (@qa_)) (And.intro (@ze_) (@zd_)))
end Go.Proofs
end
section
open Go Go.Proofs Go.Sx Go.StP
namespace Go.Proofs
set_option maxRecDepth 10000
set_option maxHeartbeats 400000
set_option linter.unusedSimpArgs false
def wU_ (l:List UInt8):IdL:=if h:l.length=32 then⟨l,h⟩ else id0
theorem abf_ {l:List UInt8} (h:l.length=32): (wU_ l).l=l:=by unfold wU_;rw[dif_pos h]
theorem aeE_ (s:List UInt8) (a:Nat) (e:Int): (idR s a e).1.length=32:=by
 unfold idR
 simp only
 split
 ·assumption
 ·simp[z32]
theorem ahL_ {s:List UInt8} {a:Nat} {e:Int} (ha:a≤s.length):a≤ (idR s a e).2.1∧(idR s a e).2.1≤s.length:=vz_ ha
theorem XY_ {s:List UInt8} {a:Nat} {e most:Int} (ha:a≤s.length):a≤ (qe_ s a e most).2.1∧(qe_ s a e most).2.1≤s.length:=by
 have hp:=js_ (e:=e) (most:=most) ha
 have hq:=vz_ (e:=(zE_ s a e most).2.2) (n:=(zE_ s a e most).1) hp.2
 unfold qe_
 simp only
 split
 ·exact⟨Nat.le_refl _,ha⟩
 ·exact⟨by omega,hq.2⟩
theorem aeJ_ (s:List UInt8) (a:Nat) (e most:Int): (qe_ s a e most).1.length≤s.length:=by
 have: ∀ (b:Nat) (e n:Int),(qz_ s b e n).1.length≤s.length:=by
  intro b e n
  unfold qz_
  split
  ·simp
  ·split
   ·simp
   ·split
    ·simp
    ·simp only[List.length_take,List.length_drop];omega
 unfold qe_
 simp only
 split
 ·simp
 ·exact this _ _ _
theorem ahR_ {s:List UInt8} {a:Nat} {e n:Int} (he:e≠0): (qz_ s a e n).2=(a,e):=by unfold qz_;rw[if_pos he]
theorem aa2_ {s:List UInt8} {a:Nat} {e most:Int} (he:e≠0): (zE_ s a e most).2=(a,e):=by unfold zE_;rw[if_pos he]
theorem ah3_ {s:List UInt8} {a:Nat} {e most:Int} (he:e≠0): (qe_ s a e most).2=(a,e):=by
 unfold qe_
 simp only[aa2_ he,ahR_ he]
 rw[if_pos he]
theorem akp_ {s:List UInt8} {a:Nat} {e:Int} (he:e≠0): (idR s a e).2=(a,e):=by unfold idR;simp only[ahR_ he]
theorem ad2_ {s:List UInt8} {a:Nat} {e n:Int} (h:e≠5): (qz_ s a e n).2.2≠5:=by
 unfold qz_
 split
 ·exact h
 ·split
  ·show(2:Int)≠5;decide
  ·split
   ·show(3:Int)≠5;decide
   ·show(0:Int)≠5;decide
theorem aiB_ (most:Int): ∀ (l:List UInt8) (k n x:Nat),qJ_ most l k n= .error x→x≠5:=by
 intro l
 induction l with
 |nil=>intro k n x h;unfold qJ_ at h;cases h;decide
 |cons c r ih=>
  intro k n x h
  unfold qJ_ at h
  split at h
  ·split at h
   ·cases h;decide
   ·exact ih _ _ _ h
  ·split at h
   ·cases h;decide
   ·split at h
    ·cases h
    ·cases h;decide
theorem ajp_ (most:Int): ∀ (l:List UInt8) (k n:Nat),qJ_ most l k n≠ .error 0:=by
 intro l
 induction l with
 |nil=>intro k n h;unfold qJ_ at h;cases h
 |cons c r ih=>
  intro k n h
  unfold qJ_ at h
  split at h
  ·split at h
   ·cases h
   ·exact ih _ _ h
  ·split at h
   ·cases h
   ·split at h
    ·cases h
    ·cases h
theorem aeU_ {s:List UInt8} {a:Nat} {e most:Int} (h:e≠5): (zE_ s a e most).2.2≠5:=by
 unfold zE_
 split
 ·exact h
 ·split
  ·show(0:Int)≠5;decide
  ·rename_i x hx
   have:=aiB_ _ _ _ _ _ hx
   show((x:Nat):Int)≠5
   omega
theorem aiT_ {s:List UInt8} {a:Nat} {e most:Int} (h:e≠5): (qe_ s a e most).2.2≠5:=by
 unfold qe_
 simp only
 split
 ·exact ad2_ (aeU_ h)
 ·exact ad2_ (aeU_ h)
theorem alK_ {s:List UInt8} {a:Nat} {e:Int} (h:e≠5): (idR s a e).2.2≠5:=by unfold idR;exact ad2_ h
theorem aiI_ {s:List UInt8} {a:Nat} {e most:Int} (h: (zE_ s a e most).2.2=0):a< (zE_ s a e most).2.1:=by
 unfold zE_ at h ⊢
 split
 ·rename_i he
  rw[if_pos he] at h
  exact absurd h he
 ·rename_i he
  rw[if_neg he] at h
  split
  ·rename_i n k hk
   have:=X9_ _ _ _ _ _ _ hk
   show a<a+k
   omega
  ·rename_i x hx
   rw[hx] at h
   exfalso
   have:x=0:=by have: ((x:Nat):Int)=0:=h;omega
   subst this
   exact ajp_ _ _ _ _ hx
def VU_ (s:List UInt8) (a:Nat) (e:Int):EntL×Nat×Int:=
 let p:=zE_ s a e 2
 let q:=qe_ s p.2.1 p.2.2 32
 let i:=idR s q.2.1 q.2.2
 (⟨q.1,p.1,wU_ i.1⟩,i.2)
theorem ai7_ {s:List UInt8} {a:Nat} {e:Int} (ha:a≤s.length):a≤ (VU_ s a e).2.1∧(VU_ s a e).2.1≤s.length:=by
 have h1:=js_ (e:=e) (most:=2) ha
 have h2:=XY_ (e:=(zE_ s a e 2).2.2) (most:=32) h1.2
 have h3:=ahL_ (e:=(qe_ s (zE_ s a e 2).2.1 (zE_ s a e 2).2.2 32).2.2) h2.2
 unfold VU_
 exact⟨by simp only;omega,h3.2⟩
theorem akn_ {s:List UInt8} {a:Nat} {e:Int} (h:e≠5): (VU_ s a e).2.2≠5:=alK_ (aiT_ (aeU_ h))
theorem ai5_ {s:List UInt8} {a:Nat} {e:Int} (ha:a≤s.length) (h: (VU_ s a e).2.2=0):a< (VU_ s a e).2.1:=by
 have h1:=js_ (e:=e) (most:=2) ha
 have h2:=XY_ (e:=(zE_ s a e 2).2.2) (most:=32) h1.2
 have h3:=ahL_ (e:=(qe_ s (zE_ s a e 2).2.1 (zE_ s a e 2).2.2 32).2.2) h2.2
 unfold VU_ at h ⊢
 simp only at h ⊢
 have e2: (qe_ s (zE_ s a e 2).2.1 (zE_ s a e 2).2.2 32).2.2=0:=Decidable.byContradiction fun hn=>by rw[akp_ hn] at h;exact hn h
 have e1: (zE_ s a e 2).2.2=0:=Decidable.byContradiction fun hn=>by rw[ah3_ hn] at e2;exact hn e2
 have:=aiI_ e1
 omega
def Ze_ (s:List UInt8):Nat→Nat→Int→List EntL→List EntL×Nat×Int
 |0,a,e,l=>(l,a,e)
 |n+1,a,e,l=>if e=0∧a<s.length then Ze_ s n (VU_ s a e).2.1 (VU_ s a e).2.2 (l++ [(VU_ s a e).1]) else(l,a,e)
theorem aeQ_ {s:List UInt8} {n a:Nat} {e:Int} {l:List EntL} (h:e=0∧a<s.length):Ze_ s (n+1) a e l=Ze_ s n (VU_ s a e).2.1 (VU_ s a e).2.2 (l++ [(VU_ s a e).1]):=by rw[Ze_,if_pos h]
theorem ab5_ {s:List UInt8} {n a:Nat} {e:Int} {l:List EntL} (h: ¬ (e=0∧a<s.length)):Ze_ s n a e l=(l,a,e):=by
 cases n with
 |zero=>rfl
 |succ n=>rw[Ze_,if_neg h]
def XB_ (s:List UInt8):List EntL×Nat×Int:=Ze_ s (s.length+1) 0 0 []
structure EntsJ (s:List UInt8) (n a:Nat) (e:Int) (l:List EntL):Prop where
 go:XB_ s=Ze_ s n a e l
 le:a≤s.length
 five:e≠5
 fuel:e=0→s.length<a+n
 cnt:l.length+n=s.length+1
 short: ∀i,i<l.length→(l.getD i ent0).name.length≤s.length
theorem EntsJ.next {s:List UInt8} {n a:Nat} {e:Int} {l:List EntL} (h:EntsJ s n a e l) (hc:e=0∧a<s.length): ∃m,n=m+1∧EntsJ s m (VU_ s a e).2.1 (VU_ s a e).2.2 (l++ [(VU_ s a e).1]):=by
 have:=h.fuel hc.1
 obtain⟨m,rfl⟩: ∃m,n=m+1:=⟨n - 1,by omega⟩
 refine⟨m,rfl,h.go.trans (aeQ_ hc),(ai7_ h.le).2,akn_ h.five,fun h0=> ?_, ?_,fun i hi=> ?_⟩
 ·have:=ai5_ h.le h0;omega
 ·have:=h.cnt;simp only[List.length_append,List.length_cons,List.length_nil];omega
 ·by_cases hlt:i<l.length
  ·rw[qq_ hlt];exact h.short i hlt
  ·have:i=l.length:=by simp only[List.length_append,List.length_cons,List.length_nil] at hi;omega
   subst this
   rw[qf_ (Nat.le_refl _),Nat.sub_self]
   exact aeJ_ _ _ _ _
theorem EntsJ.done {s:List UInt8} {n a:Nat} {e:Int} {l:List EntL} (h:EntsJ s n a e l) (hc: ¬ (e=0∧a<s.length)):XB_ s=(l,a,e):=h.go.trans (ab5_ hc)
theorem EntsJ.sh {s:List UInt8} {n a:Nat} {e:Int} {l:List EntL} (h:EntsJ s n a e l) (hs:s.length<1000000):ajS_ l:=fun i hi=>by have:=h.short i hi;omega
end Go.Proofs
end
section
open Go Go.Proofs Go.Sx Go.StP
namespace Go.Proofs
set_option maxRecDepth 10000
set_option maxHeartbeats 400000
set_option linter.unusedSimpArgs false
def alb_ (s:List UInt8):Option (List EntL):=if(XB_ s).2.2=0∧ahC_ (XB_ s).1=true∧alA_ (XB_ s).1=s then some (XB_ s).1 else none
structure EnG where
 n:Nat
 a:Nat
 e:Int
 l:List EntL
 v:Value
 D:za_
set_option linter.defProp false
def ana_:=And.intro (And.intro (And.intro (@j6_) (And.intro (@j8_) (@jX_))) (And.intro (@jh_) (And.intro (@jk_) (@qI_)))) (And.intro (And.intro (@J3_) (And.intro (@Xd_) (@Xg_))) (And.intro (And.intro (@z0_) (@qa_)) (And.intro (@ze_) (@zd_))))
end Go.Proofs
end
section
open Go Go.Proofs Go.Sx Go.StP
namespace Go.Proofs
set_option maxRecDepth 10000
set_option maxHeartbeats 400000
set_option linter.unusedSimpArgs false
theorem ZG_ (most:Int): ∀ (l:List UInt8) (k n m k':Nat),qJ_ most l k n= .ok (m,k')→(m:Int)≤most
 | [],_,_,_,_,h=>by simp[qJ_] at h
 |c::r,k,n,m,k',h=>by
  unfold qJ_ at h
  split at h
  ·split at h
   ·cases h
   ·exact ZG_ most r _ _ _ _ h
  ·split at h
   ·cases h
   ·split at h
    ·rename_i hh
     cases h
     exact hh.2
    ·cases h
theorem vn_ {s:List UInt8} {a:Nat} {e most:Int} (h0:0≤most):0≤ (zE_ s a e most).1∧(zE_ s a e most).1≤most:=by
 unfold zE_
 split
 ·exact⟨Int.le_refl 0,h0⟩
 ·split
  ·rename_i n k h
   exact⟨Int.natCast_nonneg _,ZG_ most _ _ _ _ _ h⟩
  ·exact⟨Int.le_refl 0,h0⟩
def ajx_ (s:List UInt8) (a:Nat) (e:Int):Nat→List IdL×Nat×Int
 |0=>([],a,e)
 |n+1=>let p:=ajx_ s a e n;let i:=idR s p.2.1 p.2.2;(p.1++ [wU_ i.1],i.2)
def comN (s:List UInt8):Int×Nat×Int:=zE_ s (idR s 0 0).2.1 (idR s 0 0).2.2 4
def comP (s:List UInt8):List IdL×Nat×Int:=ajx_ s (comN s).2.1 (comN s).2.2 (comN s).1.toNat
def comT (s:List UInt8):List UInt8×Nat×Int:=qe_ s (comP s).2.1 (comP s).2.2 64
def comE (s:List UInt8):ComL×Nat×Int:=(⟨wU_ (idR s 0 0).1,(comP s).1,(comT s).1⟩,(comT s).2)
def w5_ (s:List UInt8) (a:Nat) (e:Int):Int:=if e≠0 then e else if(a:Int)< (s.length:Int) then 5 else 0
def aki_ (s:List UInt8):Option ComL:=if w5_ s (comE s).2.1 (comE s).2.2=0∧aku_ (comE s).1=true∧comB (comE s).1=s then some (comE s).1 else none
theorem acq_ (t x:IdL) (p:Value) (y:List UInt8) (a:Bool) (E:TypeId):zl_ (some (a,32)) (some (.cells (vN_ t p y).toArray E (0,0))) 0 (.agg (a8 x.l))=some (.cells (vN_ x p y).toArray E (0,0)):=
 zY_ [] _ _ _ a _ E rfl (by simp[t.h]) (zg_ _) (by simp[x.h]) (Z3_ _)
theorem acz_ (t:IdL) (p:Value) (y z:List UInt8) (a:Bool) (E:TypeId):zl_ (some (a,1)) (some (.cells (vN_ t p y).toArray E (0,0))) 33 (vs z)=some (.cells (vN_ t p z).toArray E (0,0)):=by
 have e: ∀y,vN_ t p y=(t.l.map v8++ [p])++ ([vs y]++ []):=fun y=>by unfold vN_;simp only[List.append_assoc,List.append_nil]
 rw[e,e];exact zY_ _ _ _ _ a _ E (by simp[t.h]) rfl rfl rfl rfl
theorem ajM_:qr_ Tryd.prog 36=some (true,32):=id (by kernel_rfl)
theorem alv_:qd_ Tryd.prog 36=some (.agg (a8 id0.l)):=id (by kernel_rfl)
end Go.Proofs
end
section
open Go Go.Proofs Go.Sx Go.StP
namespace Go.Proofs
set_option maxRecDepth 10000
set_option maxHeartbeats 400000
set_option linter.unusedSimpArgs false
def amf_ (s:List UInt8) (v:Value) (D:za_):Prop:=
 match aki_ s with
 |some c=> ∃p,v= .tuple #[.agg (vN_ c.tree p c.text).toArray, .bool true]∧Gr D 36 32 p c.par.length (c.par.map idLC).flatten
 |none=>v= .tuple #[.agg (vN_ id0 (.slice none 0 0) []).toArray, .bool false]
structure CmG where
 g:Nat
 v:Value
 D:za_
set_option linter.defProp false
def anM_:=And.intro (And.intro (And.intro (@j6_) (And.intro (@j8_) (@jX_))) (And.intro (And.intro (@jh_) (@jk_)) (And.intro (@kQ_) (@kF_)))) (And.intro (And.intro (@kN_) (And.intro (@wh_) (@xu_))) (And.intro (And.intro (@acq_) (@acz_)) (And.intro (@ze_) (@zd_))))
end Go.Proofs
end
section
open Go Go.Proofs Go.Sx Go.StP
namespace Go.Proofs
set_option maxRecDepth 10000
set_option maxHeartbeats 400000
set_option linter.unusedSimpArgs false
def roC (r v:Value) (t:IdL) (p:Value) (y:List UInt8):List Value:= [r]++ ([v]++vN_ t p y)
theorem XT_ (r v:Value) (t:IdL) (p:Value) (y:List UInt8) (n:Nat) (E:TypeId) (fz:Nat×Nat):zn_ (some (false,n)) (some (.cells (roC r v t p y).toArray E fz)) 0=some r:=qG_ [] _ r n E fz rfl
theorem Xx_ (r v:Value) (t:IdL) (p:Value) (y:List UInt8) (n:Nat) (E:TypeId) (fz:Nat×Nat):zn_ (some (false,n)) (some (.cells (roC r v t p y).toArray E fz)) 1=some v:=by
 unfold roC;exact qG_ [r] _ v n E fz rfl
theorem X0_ (r v:Value) (t:IdL) (p:Value) (y:List UInt8) (E:TypeId) (fz:Nat×Nat):zn_ (some (true,34)) (some (.cells (roC r v t p y).toArray E fz)) 2=some (.agg (vN_ t p y).toArray):=by
 have e:roC r v t p y= [r,v]++ (vN_ t p y++ []):=by unfold roC;simp
 rw[e];exact x8_ [r,v] _ _ E fz rfl (abu_ _ _ _)
theorem Vi_ (r v:Value) (t:IdL) (p:Value) (y:List UInt8) (n:Nat) (E:TypeId) (fz:Nat×Nat):zn_ (some (false,n)) (some (.cells (roC r v t p y).toArray E fz)) 34=some p:=by
 have e:roC r v t p y=([r,v]++t.l.map v8)++ ([p]++ [vs y]):=by unfold roC vN_;simp
 rw[e];exact qG_ _ _ p n E fz (by simp[t.h])
theorem afd_ (r v:Value) (t x:IdL) (p:Value) (y:List UInt8) (a:Bool) (E:TypeId):zl_ (some (a,32)) (some (.cells (roC r v t p y).toArray E (0,0))) 2 (.agg (a8 x.l))=some (.cells (roC r v x p y).toArray E (0,0)):=by
 have e: ∀t,roC r v t p y= [r,v]++ (t.l.map v8++ ([p]++ [vs y])):=fun t=>by unfold roC vN_;simp
 rw[e,e];exact zY_ [r,v] _ _ _ a _ E rfl (by simp[t.h]) (zg_ _) (by simp[x.h]) (Z3_ _)
theorem ab3_ (r v:Value) (t:IdL) (p:Value) (y z:List UInt8) (a:Bool) (E:TypeId):zl_ (some (a,1)) (some (.cells (roC r v t p y).toArray E (0,0))) 35 (vs z)=some (.cells (roC r v t p z).toArray E (0,0)):=by
 have e: ∀y,roC r v t p y=(([r,v]++t.l.map v8)++ [p])++ ([vs y]++ []):=fun y=>by unfold roC vN_;simp
 rw[e,e];exact zY_ _ _ _ _ a _ E (by simp[t.h]) rfl rfl rfl rfl
theorem J7_ (b:Nat) (s:List UInt8) (a:Nat) (e:Int) (w:World) (ho:w.heap[b]? =some (.cells #[vs s,vi a,vi e] 110 (0,0))):
  Rets Tryd.prog 28 #[vp b 0] w (fun v D=>v=vi (w5_ s a e)∧D= []):=adi_ b s a e w ho
set_option linter.defProp false
def amr_:=And.intro (And.intro (And.intro (And.intro (@j6_) (@j8_)) (And.intro (@jX_) (@jh_))) (And.intro (And.intro (@jk_) (@XT_)) (And.intro (@Xx_) (@X0_)))) (And.intro (And.intro (And.intro (@Vi_) (@qI_)) (And.intro (@J3_) (@Xd_))) (And.intro (And.intro (@Xg_) (@z0_)) (And.intro (@qa_) (And.intro (@ze_) (@zd_)))))
structure EnH where
 n:Nat
 a:Nat
 e:Int
 l:List EntL
 v:Value
 D:za_
 H:za_
end Go.Proofs
end
section
open Go Go.Proofs Go.Sx Go.StP
namespace Go.Proofs
set_option maxRecDepth 10000
set_option maxHeartbeats 400000
set_option linter.unusedSimpArgs false
set_option linter.defProp false
def amU_:=And.intro (And.intro (And.intro (@j6_) (And.intro (@j8_) (@jX_))) (And.intro (And.intro (@jh_) (@jk_)) (And.intro (@XT_) (@Xx_)))) (And.intro (And.intro (@X0_) (And.intro (@Vi_) (@afd_))) (And.intro (And.intro (@ab3_) (@xu_)) (And.intro (@ze_) (@zd_))))
structure CmH where
 g:Nat
 v:Value
 D:za_
 H:za_
end Go.Proofs
end
section
open Go Go.Proofs Go.Sx Go.StP
namespace Go.Proofs
set_option maxRecDepth 10000
set_option maxHeartbeats 400000
set_option linter.unusedSimpArgs false
abbrev obV (k:Int) (t:List UInt8):Value:= .agg #[vi k,vs t]
theorem qv_ (k:Int) (t:List UInt8) (E:TypeId) (fz:Nat×Nat):zn_ (some (true,2)) (some (.cells #[vi k,vs t] E fz)) 0=some (obV k t):=(rfl)
theorem z4_ (k:Int) (t:List UInt8) (n:Nat) (E:TypeId) (fz:Nat×Nat):zn_ (some (false,n)) (some (.cells #[vi k,vs t] E fz)) 0=some (vi k):=(rfl)
theorem z6_ (k:Int) (t:List UInt8) (n:Nat) (E:TypeId) (fz:Nat×Nat):zn_ (some (false,n)) (some (.cells #[vi k,vs t] E fz)) 1=some (vs t):=(rfl)
theorem qb_ (k k':Int) (t t':List UInt8) (a:Bool) (E:TypeId):zl_ (some (a,2)) (some (.cells #[vi k',vs t'] E (0,0))) 0 (obV k t)=some (.cells #[vi k,vs t] E (0,0)):=(rfl)
set_option linter.defProp false
def am1_:=And.intro (And.intro (@qv_) (And.intro (@z4_) (@z6_))) (And.intro (@qb_) (And.intro (@ze_) (@zd_)))
def fnV (k:Nat):Value:= .func (.func k) #[] #[]
def RdOk (k:Int) (t:List UInt8):Bool:=
 if 1≤k∧k≤3∧t.length≤4096 then
  (if k=1 then true else if k=2 then(w5_ t (XB_ t).2.1 (XB_ t).2.2==0&&ahC_ (XB_ t).1) else(w5_ t (comE t).2.1 (comE t).2.2==0&&aku_ (comE t).1))
 else false
end Go.Proofs
end
section
open Go Go.Proofs Go.Sx Go.StP
namespace Go.Proofs
set_option maxRecDepth 10000
set_option maxHeartbeats 400000
set_option linter.unusedSimpArgs false
set_option linter.defProp false
def ank_:=And.intro (And.intro (And.intro (@qv_) (@z4_)) (And.intro (@z6_) (@qb_))) (And.intro (And.intro (@Sx.tup2_0) (@Sx.tup2_1)) (And.intro (@ze_) (@zd_)))
def anw_ (k:Int) (t:List UInt8) (ok:Bool):Int:=if ok&&RdOk k t then k else 0
def amC_ (k:Int) (t:List UInt8) (ok:Bool):List UInt8:=if ok&&RdOk k t then t else []
def am3_ (k:Int) (t:List UInt8) (ok:Bool):Int:=if ok&&RdOk k t then 0 else 1
end Go.Proofs
end
section
open Go Go.Proofs Go.Sx Go.StP
namespace Go.Proofs
set_option maxRecDepth 10000
set_option maxHeartbeats 400000
set_option linter.unusedSimpArgs false
set_option linter.defProp false
def ang_:=And.intro (And.intro (And.intro (@qv_) (And.intro (@z4_) (@z6_))) (And.intro (@qb_) (And.intro (@Sx.tup2_0) (@Sx.tup2_1)))) (And.intro (And.intro (@kQ_) (And.intro (@kF_) (@kN_))) (And.intro (And.intro (@wh_) (@xu_)) (And.intro (@ze_) (@zd_))))
theorem VF_ (x:IdL):QR_ Tryd.prog 31 1 [(0, .agg (a8 x.l))]=some (36,a8 x.l):=wb_ (cs:=x.l.map v8) Tryd.underlying31 ajM_ alv_ (by decide) (by simp[x.h])
theorem VP_ (x:IdL) {w':World} {b:Nat} (h:w'.heap[b]? =some (.cells (a8 x.l) 36 (0,0))):RowS 32 idLC id0 w' (vsl b 0 1 1) [x] b 0 (a8 x.l) 36 (0,0):=RowS.sl rfl h (by
 intro k hk j hj
 obtain rfl:k=0:=by simpa using hk
 simp only[Nat.zero_mul,Nat.zero_add,List.getD_cons_zero]
 rw[←adY_,List.getElem?_toArray])
end Go.Proofs
end
section
open Go Go.Proofs Go.Sx Go.StP
namespace Go.Proofs
set_option maxRecDepth 10000
set_option maxHeartbeats 400000
set_option linter.unusedSimpArgs false
set_option linter.defProp false
def any_:=And.intro (And.intro (And.intro (@qv_) (And.intro (@z4_) (@z6_))) (And.intro (And.intro (@qb_) (@Sx.tup2_0)) (And.intro (@Sx.tup2_1) (@xs_)))) (And.intro (And.intro (@xQ_) (And.intro (@xP_) (@qI_))) (And.intro (And.intro (@z0_) (@qa_)) (And.intro (@ze_) (@zd_))))
structure WrG where
 g:Nat
 D:za_
end Go.Proofs
end
section
open Go Go.Proofs Go.Sx Go.StP
namespace Go.Proofs
set_option maxRecDepth 10000
set_option maxHeartbeats 400000
set_option linter.unusedSimpArgs false
set_option linter.defProp false
def amx_:=And.intro (And.intro (And.intro (@qv_) (@z4_)) (And.intro (@z6_) (And.intro (@qb_) (@Sx.tup2_0)))) (And.intro (And.intro (@Sx.tup2_1) (And.intro (@XT_) (@Xx_))) (And.intro (@X0_) (And.intro (@ze_) (@zd_))))
def am2_ (k:Int) (t:List UInt8) (v:Value) (D:za_):Prop:=
 if RdOk k t=true∧k=3 then∃p,v= .tuple #[.agg (vN_ (comE t).1.tree p (comE t).1.text).toArray,vi 0]∧Gr D 36 32 p (comE t).1.par.length ((comE t).1.par.map idLC).flatten else v= .tuple #[.agg (vN_ id0 (.slice none 0 0) []).toArray,vi 1]
end Go.Proofs
end
section
open Go Go.Proofs Go.Sx Go.StP
namespace Go.Proofs
set_option maxRecDepth 10000
set_option maxHeartbeats 400000
set_option linter.unusedSimpArgs false
set_option linter.defProp false
def aoe_:=And.intro (And.intro (And.intro (@qv_) (@z4_)) (And.intro (@z6_) (@qb_))) (And.intro (And.intro (@Sx.tup2_0) (@Sx.tup2_1)) (And.intro (@ze_) (@zd_)))
def alh_ (k:Int):List UInt8:=(([32,98,116,99]:List UInt8).take (k+1).toNat).drop k.toNat
def akx_ (k:Int) (t:List UInt8):List UInt8:=alh_ k++j7_ t
end Go.Proofs
end
section
open Go Go.Proofs Go.Sx Go.StP
namespace Go.Proofs
set_option maxRecDepth 10000
set_option maxHeartbeats 400000
set_option linter.unusedSimpArgs false
set_option linter.defProp false
def anc_:=And.intro (And.intro (And.intro (@qv_) (@z4_)) (And.intro (@z6_) (@qb_))) (And.intro (And.intro (@Sx.tup2_0) (@Sx.tup2_1)) (And.intro (@xu_) (And.intro (@ze_) (@zd_))))
def akm_ (k:Int) (t:List UInt8):Bool:=if 4096<t.length then false else if k=2 then(alb_ t).isSome else if k=3 then(aki_ t).isSome else k==1
end Go.Proofs
end
section
open Go Go.Proofs Go.Sx Go.StP
namespace Go.Proofs
set_option maxRecDepth 10000
set_option maxHeartbeats 400000
set_option linter.unusedSimpArgs false
theorem afF_ (n:Nat):0< (z9_ n).length:=by
 by_cases h:n<128
 ·rw[k5_ h];simp
 ·rw[ZA_ h];simp
theorem qA_ {n:Nat} (h:n≤1099511627775):zP_ (n:Int)=n:=acO_ (by omega)
theorem acN_ {s:List UInt8} {a:Nat} {n:Int} (ha:a≤s.length) (h: (qz_ s a 0 n).2.2=0):0≤n∧(qz_ s a 0 n).1.length=n.toNat∧s.drop a=(qz_ s a 0 n).1++s.drop (qz_ s a 0 n).2.1:=by
 unfold qz_ at h ⊢
 rw[if_neg (by simp)] at h ⊢
 split at h
 ·exact absurd (show(2:Int)=0 from h) (by decide)
 ·rename_i h1
  rw[if_neg h1]
  split at h
  ·exact absurd (show(3:Int)=0 from h) (by decide)
  ·rename_i h2
   rw[if_neg h2]
   refine⟨by omega, ?_, ?_⟩
   ·simp only[List.length_take,List.length_drop];omega
   ·simp only
    rw[←List.drop_drop,List.take_append_drop]
theorem WY_ (most:Int) (r:List UInt8): ∀ (n k acc:Nat),(0<k→0<n)→k+ (z9_ n).length≤6→acc+n*128^k≤1099511627775→((acc+n*128^k:Nat):Int)≤most→
  qJ_ most (z9_ n++r) k acc= .ok (acc+n*128^k,k+ (z9_ n).length):=by
 intro n
 induction n using Nat.strongRecOn with
 |ind n ih=>
  intro k acc hk hl hs hm
  by_cases h:n<128
  ·rw[k5_ h,List.cons_append,List.nil_append,qJ_]
   have hc: (UInt8.ofNat n).toNat=n:=by rw[UInt8.toNat_ofNat'];omega
   rw[hc,Nat.mod_eq_of_lt h,if_neg (by omega),if_neg (by omega),if_pos ⟨hs,hm⟩]
   rfl
  ·have hb:=ZA_ h
   rw[hb] at hl ⊢
   rw[List.cons_append,qJ_]
   have hc: (UInt8.ofNat (n%128+128)).toNat=n%128+128:=by rw[UInt8.toNat_ofNat'];omega
   have hp:=afF_ (n / 128)
   rw[List.length_cons] at hl
   have e:acc+ (n%128+128)%128*128^k+n / 128*128^ (k+1)=acc+n*128^k:=by
    have h1: (n%128+128)%128=n%128:=by omega
    rw[h1,Nat.pow_succ,Nat.add_assoc]
    congr 1
    have h2:n / 128* (128^k*128)=(n / 128*128)*128^k:=by rw[Nat.mul_comm (128^k),Nat.mul_assoc]
    rw[h2,←Nat.add_mul]
    congr 1
    omega
   rw[hc,if_pos (by omega),if_neg (by omega),ih (n / 128) (by omega) (k+1) _ (fun _=>by omega) (by omega) (by rw[e];exact hs) (by rw[e];exact hm),e,List.length_cons]
   congr 2
   omega
theorem q3_ (A r:List UInt8) (n:Nat) (most:Int) (hn:n≤1099511627775) (hm: (n:Int)≤most):zE_ (A++ (z9_ n++r)) A.length 0 most=((n:Int),A.length+ (z9_ n).length,0):=by
 have hl:=vK_ 6 n (by omega) (by omega)
 have h:=WY_ most r n 0 0 (fun h=>absurd h (Nat.lt_irrefl 0)) (by omega) (by simpa using hn) (by simpa using hm)
 simp only[Nat.pow_zero,Nat.mul_one,Nat.zero_add] at h
 exact WK_ rfl (by rw[List.drop_left];exact h)
theorem kP_ (A x r:List UInt8):qz_ (A++ (x++r)) A.length 0 (x.length:Int)=(x,A.length+x.length,0):=by
 unfold qz_
 rw[if_neg (by simp),if_neg (by omega),if_neg (by simp only[List.length_append];omega),List.drop_left,Int.toNat_natCast,List.take_left]
theorem acT_ (A t r:List UInt8) (most:Int) (hn:t.length≤1099511627775) (hm: (t.length:Int)≤most):qe_ (A++ (j7_ t++r)) A.length 0 most=(t,A.length+ (j7_ t).length,0):=by
 have h1:=q3_ A (t++r) t.length most hn hm
 have h2:=kP_ (A++z9_ t.length) t r
 unfold qe_ j7_
 rw[qA_ (by omega)]
 rw[List.append_assoc,h1]
 simp only
 rw[List.append_assoc,List.length_append] at h2
 rw[h2]
 simp only[ne_eq,not_true_eq_false, ↓reduceIte,List.length_append,Nat.add_assoc]
theorem abe_ (A r:List UInt8) (i:IdL):idR (A++ (i.l++r)) A.length 0=(i.l,A.length+32,0):=by
 have h:=kP_ A i.l r
 have hi:=i.h
 rw[hi] at h
 unfold idR
 rw[show(32:Int)=((32:Nat):Int) from rfl,h]
 simp only[hi, ↓reduceIte]
theorem aeN_ (i:IdL):wU_ i.l=i:=by unfold wU_;rw[dif_pos i.h]
def aj5_ (l:List EntL):Prop:= ∀x,x∈l→0≤x.kind∧x.kind≤2∧x.name.length≤32
end Go.Proofs
end
section
open Go Go.Proofs Go.Sx Go.StP
namespace Go.Proofs
set_option maxRecDepth 10000
set_option maxHeartbeats 400000
set_option linter.unusedSimpArgs false
def idxT (s:List UInt8):List UInt8→Int
 | []=>0
 |c::_=>Lib.indexByte s c
abbrev letL:List UInt8:= [32,98,116,99]
def frR (s:List UInt8):List UInt8×Nat×Int:=qz_ s 0 0 1
def frT (s:List UInt8):List UInt8×Nat×Int:=qe_ s (frR s).2.1 (frR s).2.2 4096
def frK (s:List UInt8):Int:=idxT letL (frR s).1
def frOk (s:List UInt8):Bool:=w5_ s (frT s).2.1 (frT s).2.2==0&&RdOk (frK s) (frT s).1
def alZ_ (s:List UInt8) (v:Value):Prop:=v= .tuple #[obV (if frOk s then frK s else 0) (if frOk s then(frT s).1 else []),vi (if frOk s then 0 else 2)]
set_option linter.defProp false
def aoa_:=And.intro (And.intro (And.intro (@qv_) (@z4_)) (And.intro (@z6_) (@qb_))) (And.intro (And.intro (@Sx.tup2_0) (@Sx.tup2_1)) (And.intro (@ze_) (@zd_)))
end Go.Proofs
end
section
open Go Go.Proofs Go.Sx Go.StP
namespace Go.Proofs
set_option maxRecDepth 10000
set_option maxHeartbeats 400000
set_option linter.unusedSimpArgs false
def fkC (c:UInt8):Int:=if c=98 then 1 else if c=116 then 2 else if c=99 then 3 else 0
def lfT (r:List UInt8):List UInt8×Nat×Int:=qe_ r 0 0 4096
def lfK (s:List UInt8):Int:=match s with| []=>0|c::_=>fkC c
def lfOk (s:List UInt8):Bool:=lfK s !=0&&w5_ (s.drop 1) (lfT (s.drop 1)).2.1 (lfT (s.drop 1)).2.2==0&&akm_ (lfK s) (lfT (s.drop 1)).1
def alR_ (s:List UInt8) (v:Value):Prop:=v= .tuple #[obV (if lfOk s then lfK s else 0) (if lfOk s then(lfT (s.drop 1)).1 else []), .bool (lfOk s)]
theorem ad9_ (k k':Int) (t:List UInt8) (a:Bool) (E:TypeId):zl_ (some (a,1)) (some (.cells #[vi k',vs t] E (0,0))) 0 (vi k)=some (.cells #[vi k,vs t] E (0,0)):=(rfl)
theorem adu_ (k:Int) (t t':List UInt8) (a:Bool) (E:TypeId):zl_ (some (a,1)) (some (.cells #[vi k,vs t'] E (0,0))) 1 (vs t)=some (.cells #[vi k,vs t] E (0,0)):=(rfl)
set_option linter.defProp false
def amX_:=And.intro (And.intro (And.intro (@qv_) (@z4_)) (And.intro (@z6_) (And.intro (@qb_) (@ad9_)))) (And.intro (And.intro (@adu_) (@Sx.tup2_0)) (And.intro (@Sx.tup2_1) (And.intro (@ze_) (@zd_))))
end Go.Proofs
end
namespace Go.Flo
open Go Ieee
abbrev F (n:Int):Nat:=FloatKind.f64.nearest n
def dat (n:Int):Datum:= .number (decide (n<0)) (n.natAbs*2^ (52 - n.natAbs.log2)) ((n.natAbs.log2:Int) - 52)
def plc (n:Int):Int:=if n=0 then -1074 else(n.natAbs.log2:Int) - 52
def mag (n:Int):Nat:=if n=0 then 0 else n.natAbs*2^ (52 - n.natAbs.log2)
end Go.Flo
namespace Go.Sx
open Go Go.Flo
def fl (n:Int):Value:= .float .f64 (F n)
def cx (a b:Int):Value:= .complex .f64 (F a) (F b)
section
variable {P:Program} {w0:World} {f:Fr} {L:za_} {N:Fr→za_→Prop} {ops:Array Oper} {rest:List Oper} {md:Md}
 {d:Option Tmp} {ty:TypeId} {ps:String} {af:Array Edge} {g:Option (Nat×Bool)}
theorem Ow.real {x:Operand} {ts:Array TypeId} {a b:Int} (hs:zk_ ops f ⟨d, .call ⟨.builtin .real, #[x],ts⟩,ty,ps,af,g⟩=false) (hx:ev f x=cx a b)
  (hn:Ow P w0 ops md.next rest (qj_ f d (fl a)) L N):Ow P w0 ops md (⟨d, .call ⟨.builtin .real, #[x],ts⟩,ty,ps,af,g⟩::rest) f L N:=by
 refine Ow.calm rfl rfl hs (fun w hw=> .inl ⟨fl a,w,L, ?_,hw,rfl,rfl⟩) hn
 simp only[execOp,resolve,Sem.run_bind,Sem.run_pure,Result.andThen_ok,invoke,builtin,List.map_toArray,List.map_cons,List.map_nil,hx]
 rfl
theorem Ow.imag {x:Operand} {ts:Array TypeId} {a b:Int} (hs:zk_ ops f ⟨d, .call ⟨.builtin .imag, #[x],ts⟩,ty,ps,af,g⟩=false) (hx:ev f x=cx a b)
  (hn:Ow P w0 ops md.next rest (qj_ f d (fl b)) L N):Ow P w0 ops md (⟨d, .call ⟨.builtin .imag, #[x],ts⟩,ty,ps,af,g⟩::rest) f L N:=by
 refine Ow.calm rfl rfl hs (fun w hw=> .inl ⟨fl b,w,L, ?_,hw,rfl,rfl⟩) hn
 simp only[execOp,resolve,Sem.run_bind,Sem.run_pure,Result.andThen_ok,invoke,builtin,List.map_toArray,List.map_cons,List.map_nil,hx]
 rfl
end
end Go.Sx
namespace Go.Sx
open Go Go.Flo
theorem Vn_ (P:Program) (t:TypeId) (a b:Int):qC_ P .eql t (fl a) (fl b)=none:=by
 show(qg_ (P.underlying t) (fl a) (fl b)).map _=none
 unfold qg_ fl
 split<;>simp_all
theorem ZN_ (P:Program) (t:TypeId) (a b a' b':Int):qC_ P .eql t (cx a b) (cx a' b')=none:=by
 show(qg_ (P.underlying t) (cx a b) (cx a' b')).map _=none
 unfold qg_ cx
 split<;>simp_all
section
variable {P:Program} {w0:World} {st:Bool} {f:Fr} {L:za_} {md:Md} {d:Option Tmp} {ty:TypeId} {ps:String} {af:Array Edge} {g:Option (Nat×Bool)} {go:Fr→za_→Prop} {stop:Prop}
theorem Kb_ (a:Array Operand) (t:Array TypeId):vcB P w0 st md ⟨d, .call ⟨.builtin .real,a,t⟩,ty,ps,af,g⟩ f L go stop=stop:=(rfl)
theorem XQ_ (a:Array Operand) (t:Array TypeId):vcB P w0 st md ⟨d, .call ⟨.builtin .imag,a,t⟩,ty,ps,af,g⟩ f L go stop=stop:=(rfl)
theorem xl_ (a:Array Operand) (t:Array TypeId):vcB P w0 st md ⟨d, .call ⟨.builtin .complex,a,t⟩,ty,ps,af,g⟩ f L go stop=stop:=(rfl)
end
end Go.Sx
section
open Go Go.Proofs Go.Sx Go.StP Go.Flo
namespace Go.Proofs
set_option maxRecDepth 10000
set_option maxHeartbeats 400000
set_option linter.unusedSimpArgs false
structure PcL where
 a:Nat
 n:Nat
 x:List UInt8
def pc0:PcL:=⟨0,0,[]⟩
def pcC (p:PcL):List Value:= [cx p.a p.n,vs p.x]
def PcB (p:PcL):Prop:=p.a≤4099∧p.n≤4099
def cpV (p:PcL) (b:Int):Option (Nat×Nat):=if 1≤p.n∧p.n≤4099∧p.x= []∧(p.a:Int)≤b - p.n then some (p.a,p.n) else none
def ajK_ (p:PcL) (b:Int):Nat:=if p.a=0∧p.n=0∧p.x.length≤4099 then p.x.length else match cpV p b with|some q=>q.2|none=>0
def sumP (b:Int) (l:List PcL):Nat:=(l.map fun p=>ajK_ p b).sum
def anyZ (b:Int) (l:List PcL):Bool:=l.any fun p=>ajK_ p b==0
def chkV (b:Int) (l:List PcL):Int×Int:=if b<0∨4099<b then(0,1) else if anyZ b l=true then(0,1) else if 4099<sumP b l then(0,19) else((sumP b l:Nat),0)
def pcT (base:List UInt8) (p:PcL):List UInt8:=match cpV p base.length with|some q=>(base.drop q.1).take q.2++p.x|none=>p.x
def txtP (base:List UInt8) (l:List PcL):List UInt8:=(l.map (pcT base)).flatten
def pcR (d:List UInt8) (a:Nat):PcL×Nat×Int:=
 if(zE_ d a 0 8199).1%2=1 then
  (⟨(zE_ d (zE_ d a 0 8199).2.1 (zE_ d a 0 8199).2.2 4099).1.toNat,((zE_ d a 0 8199).1 / 2).toNat,[]⟩,(zE_ d (zE_ d a 0 8199).2.1 (zE_ d a 0 8199).2.2 4099).2)
 else(⟨0,0,(qz_ d (zE_ d a 0 8199).2.1 (zE_ d a 0 8199).2.2 ((zE_ d a 0 8199).1 / 2)).1⟩,(qz_ d (zE_ d a 0 8199).2.1 (zE_ d a 0 8199).2.2 ((zE_ d a 0 8199).1 / 2)).2)
def pcsF (d:List UInt8):Nat→Nat→List PcL×Nat×Int
 |0,a=>([],a,0)
 |k+1,a=>if a<d.length then(if(pcR d a).2.2=0 then((pcR d a).1:: (pcsF d k (pcR d a).2.1).1,(pcsF d k (pcR d a).2.1).2) else([(pcR d a).1],(pcR d a).2)) else([],a,0)
def pcs (d:List UInt8) (a:Nat):List PcL×Nat×Int:=pcsF d (d.length - a) a
def akk_ (d:List UInt8):Option (Nat×List PcL):=
 if(zE_ d (zE_ d 0 0 4099).2.1 (zE_ d 0 0 4099).2.2 4099).2.2≠0 then none
 else if(pcs d (zE_ d (zE_ d 0 0 4099).2.1 (zE_ d 0 0 4099).2.2 4099).2.1).2.2≠0 then none
 else if chkV (zE_ d 0 0 4099).1 (pcs d (zE_ d (zE_ d 0 0 4099).2.1 (zE_ d 0 0 4099).2.2 4099).2.1).1=((zE_ d (zE_ d 0 0 4099).2.1 (zE_ d 0 0 4099).2.2 4099).1,0) then some ((zE_ d 0 0 4099).1.toNat,(pcs d (zE_ d (zE_ d 0 0 4099).2.1 (zE_ d 0 0 4099).2.2 4099).2.1).1)
 else none
def aka_ (base d:List UInt8):List UInt8×Int:=
 match akk_ d with
 |none=>([],2)
 |some p=>if p.1≠base.length then([],19) else(txtP base p.2,0)
end Go.Proofs
end
section
open Go Go.Proofs Go.Sx Go.StP Go.Flo
namespace Go.Proofs
set_option maxRecDepth 10000
set_option maxHeartbeats 400000
set_option linter.unusedSimpArgs false
set_option linter.defProp false
def am8_:=And.intro (@ze_) (And.intro (@zd_) (@Vn_))
theorem jC_ (p:PcL) (E:TypeId) (n:Nat):zn_ (some (false,n)) (some (.cells (pcC p).toArray E (0,0))) 0=some (cx p.a p.n):=(rfl)
theorem jD_ (p:PcL) (E:TypeId) (n:Nat):zn_ (some (false,n)) (some (.cells (pcC p).toArray E (0,0))) 1=some (vs p.x):=(rfl)
theorem xJ_ (p:PcL) (E:TypeId):zn_ (some (true,2)) (some (.cells (pcC p).toArray E (0,0))) 0=some (.agg (pcC p).toArray):=xb_ _ E (0,0) 2 rfl
theorem jE_ (p:PcL):Value.cells (.agg (pcC p).toArray)=(pcC p).toArray:=zg_ _
def cpO (p:PcL) (b:Int):Value:=match cpV p b with
 |some q=> .tuple #[vi q.1,vi q.2, .bool true]
 |none=> .tuple #[vi 0,vi 0, .bool false]
theorem cxz: (Value.complex FloatKind.f64 0 0)=cx 0 0:=id (by kernel_rfl)
set_option linter.defProp false
def amS_:=And.intro (And.intro (And.intro (And.intro (@ze_) (@zd_)) (And.intro (@jC_) (@jD_))) (And.intro (And.intro (@xJ_) (@jE_)) (And.intro (@ZN_) (@cxz)))) (And.intro (And.intro (And.intro (@Kb_) (@XQ_)) (And.intro (@xl_) (@Sx.tup2_0))) (And.intro (And.intro (@Sx.tup2_1) (@Sx.tup3_0)) (And.intro (@Sx.tup3_1) (@Sx.tup3_2))))
abbrev PcSl (w:World) (v:Value) (l:List PcL):Prop:=SlV 2 pcC pc0 w v l
def BndP (l:List PcL):Prop:= ∀g,g<l.length→PcB (l.getD g pc0)∧(l.getD g pc0).x.length<9223372036854775808
end Go.Proofs
end
section
open Go Go.Proofs Go.Sx Go.StP Go.Flo
namespace Go.Proofs
set_option maxRecDepth 10000
set_option maxHeartbeats 400000
set_option linter.unusedSimpArgs false
def pcAt (p:PcL) (b:Int):Nat×Nat:=match cpV p b with|some q=>q|none=>(0,0)
theorem BldAt.zeroK (b:Nat) {L:za_} (h:Sx.look L b=some (.cells #[.pointer none, .slice none 0 0] 93 (0,0))):BldAt b [] L:=
 ⟨_,_,h, .inl rfl, .nl,fun h=>by cases h⟩
structure TxG where
 g:Nat
 D:za_
 E:za_
set_option linter.defProp false
def amn_:=And.intro (And.intro (And.intro (@ze_) (@zd_)) (And.intro (@jC_) (And.intro (@jD_) (@xJ_)))) (And.intro (And.intro (@jE_) (And.intro (@Sx.tup2_0) (@Sx.tup2_1))) (And.intro (@Sx.tup3_0) (And.intro (@Sx.tup3_1) (@Sx.tup3_2))))
end Go.Proofs
end
namespace Go.Sx
open Go
section
variable {α:Type} {m:Nat} {enc:α→List Value} {z:α}
end
section
variable {P:Program} {w0:World} {f:Fr} {L:za_} {N:Fr→za_→Prop} {ops:Array Oper} {rest:List Oper} {md:Md} {d:Option Tmp} {ty:TypeId} {ps:String} {af:Array Edge} {g:Option (Nat×Bool)}
theorem Ow.makeSlice {t e:TypeId} {m:Bool×Nat} {z:Value} {x y:Operand} {n c:Nat} {md':Md} (he:md.turn=some md') (hs:zk_ ops f ⟨d, .makeSlice t x y,ty,ps,af,g⟩=false)
  (hu:P.underlying t=some (.slice e)) (hm:qr_ P e=some m) (hi:kq_ P e=true) (hz:qd_ P e=some z) (hx:ev f x=vi n) (hy:ev f y=vi c) (hnc:n≤c) (hbig:c≤2^38)
  (hn: ∀b,jS_ L b→w0.heap.size≤b→Ow P w0 ops md' rest (qj_ f d (vsl b 0 n c)) (L++ [(b, .cells (madeCells z.cells (c*m.2)) e (0,0))]) N):
  Ow P w0 ops md (⟨d, .makeSlice t x y,ty,ps,af,g⟩::rest) f L N:=by
 refine Ow.step he rfl hs fun w hw=> .inl ⟨vsl w.heap.size 0 n c,w.alloc (.cells (madeCells z.cells (c*m.2)) e (0,0)),_, ?_,hw.alloc _,hn _ (qi_ fun b hb=>hw.lt hb) hw.size⟩
 obtain⟨i,hie,-,hb⟩:=kG_ hi hbig
 have hiz:i.zero=some z:=by
  unfold qd_ at hz
  rw[hie] at hz
  exact hz
 have him:i.size=m.2:=by
  unfold qr_ at hm
  rw[hie] at hm
  split at hm
  ·rename_i h1 h2
   cases h2
   cases hm
   rfl
  ·cases hm
 have hbb: (i.bytes:Int)* (c:Int)≤281474976710656:=by
  have: ((i.bytes*c:Nat):Int)≤281474976710656:=by rw[Nat.mul_comm];exact Int.ofNat_le.2 hb
  rwa [Int.natCast_mul] at this
 have hr:=run_make (P:=P) w t e i z hu hie hiz .i64 .i64 (n:Int) (c:Int) (by omega) (by omega) hbb (by omega)
 simp only[Int.toNat_natCast,him] at hr
 show(execOp (ev f) _).run P w=_
 simp only[execOp,Sem.run_bind]
 rw[hx,hy]
 show((Instr.makeSlice t (.int .i64 (n:Int)) (.int .i64 (c:Int))).run P w).andThen _=_
 rw[hr]
 rfl
theorem Ow.appendXG {ts tx e:TypeId} {m:Bool×Nat} {z:Value} {s x:Operand} {n k:Nat} {cs new:List Value} {dx:TypeDesc} {md':Md} {X Y:za_} (sv:Value) (hL:L=X++Y) (hsv:ev f s=sv) (he:md.turn=some md')
  (hs:zk_ ops f ⟨d, .call ⟨.builtin .append, #[s,x], #[ts,tx]⟩,ty,ps,af,g⟩=false)
  (hu:P.underlying ts=some (.slice e)) (hm:qr_ P e=some m) (hi:kq_ P e=true) (hz:qd_ P e=some z) (hzs:z.cells.size=m.2) (hux:P.underlying tx=some dx) (hnx: ∀k,dx≠ .int k)
  (hB:Gr X e m.2 sv n cs) (hX: ∀w,Hp w0 L w→AppX P w m.2 (ev f x) k new) (hbig:2* (n+k)+768≤2^38)
  (hn: ∀B v' D,jS_ L B→w0.heap.size≤B→Gr D e m.2 v' (n+k) (cs++new)→(∀c,c∈keys X→c∈keys D)→(∀c,c∈keys D→c∈keys X∨B≤c)→(∀c o,slB sv≠some c→look X c=some o→look D c=some o)→Ow P w0 ops md' rest (qj_ f d v') (D++Y) N):
  Ow P w0 ops md (⟨d, .call ⟨.builtin .append, #[s,x], #[ts,tx]⟩,ty,ps,af,g⟩::rest) f L N:=by
 subst hL
 refine Ow.step he rfl hs fun w hw=> ?_
 have hp:=hw.part
 have hA:jS_ (X++Y) w.heap.size:=qi_ fun b hb=>hw.lt hb
 have fin: ∀v' w' D,(Builtin.append_ #[ts,tx] ty #[sv,ev f x]).run P w= .ok v' w'→Hp w D w'→Gr D e m.2 v' (n+k) (cs++new)→(∀c,c∈keys X→c∈keys D)→(∀c,c∈keys D→c∈keys X∨w.heap.size≤c)→(∀c o,slB sv≠some c→look X c=some o→look D c=some o)→
   (∃v w' L',(execOp (ev f) ⟨d, .call ⟨.builtin .append, #[s,x], #[ts,tx]⟩,ty,ps,af,g⟩).run P w= .ok (.value v) w'∧Hp w0 L' w'∧Ow P w0 ops md' rest (qj_ f d v) L' N):=by
  intro v' w' D hr hD hb h1 h2 h3
  refine⟨v',w',D++Y, ?_,hw.join hD h1 h2,hn w.heap.size v' D hA hw.size hb h1 h2 h3⟩
  simp only[execOp,resolve,Sem.run_bind,Sem.run_pure,Result.andThen_ok,invoke,builtin,List.map_toArray,List.map_cons,List.map_nil,hsv]
  rw[hr]
  rfl
 rcases hB with hB| ⟨rfl,rfl,b,rfl,hlk⟩
 ·obtain⟨v',w',D,hr,hD,hb,hg,-⟩:=Xa_ (w0:=w) (L:=X) (ty:=ty) (x:=ev f x) hp hu hm hi hz hzs hux hnx hB (fun w2 hw2=>hX w2 (by
   refine hw.join hw2 (fun c hc=>hc) (fun c hc=> .inl hc))) hbig
  exact .inl (fin v' w' D hr hD (.inl hb) hg.keys (fun c hc=>(hg.new c hc).imp id And.right) hg.look)
 ·rcases Za_ (w0:=w) (L:=X) (ty:=ty) (b:=b) (x:=ev f x) hp hu hm hi hz hzs hux hnx (fun w2 hw2=>hX w2 (by
   refine hw.join hw2 (fun c hc=>hc) (fun c hc=> .inl hc))) hbig with⟨h0,hr⟩ | ⟨-,v',w',D,hr,hD,hb,hg,-⟩
  ·subst h0
   have hnw:=(hX w hw).size
   obtain rfl:new= []:=List.eq_nil_of_length_eq_zero (by rw[hnw,Nat.zero_mul])
   exact .inl (fin _ w X hr hp (.inr ⟨rfl,rfl,b,rfl,hlk⟩) (fun c hc=>hc) (fun c hc=> .inl hc) (fun c o _ hl=>hl))
  ·exact .inl (fin v' w' D hr hD (.inl hb) hg.keys (fun c hc=>(hg.new c hc).imp id And.right) (fun c o _ hl=>hg.look c o (by simp[slB]) hl))
end
theorem New.perm {n:Nat} {D D':za_} (h:New n D) (hp:D.Perm D'):New n D':=New.of_le fun c hc=>h.le c ((hp.map Prod.fst).mem_iff.2 hc)
end Go.Sx
section
open Go Go.Proofs Go.Sx Go.StP Go.Flo
namespace Go.Proofs
set_option maxRecDepth 10000
set_option maxHeartbeats 400000
set_option linter.unusedSimpArgs false
def dB (d:List UInt8):Int×Nat×Int:=zE_ d 0 0 4099
def dM (d:List UInt8):Int×Nat×Int:=zE_ d (dB d).2.1 (dB d).2.2 4099
structure EG where
 lab:Nat
 br:Nat
 a:Nat
 e:Int
 out:List PcL
 v:Value
 D:za_
def drO (d:List UInt8) (a e:Int):Obj:= .cells #[vs d,vi a,vi e] 110 (0,0)
def EH (d:List UInt8) (g:EG):za_:=match g.lab with
 |1=>(g.br,drO d g.a g.e)::g.D
 |0=>(g.br,drO d g.a g.e)::g.D
 |_=>g.D
def ES (d:List UInt8) (g:EG):List (Nat×Value):=match g.lab with
 |1=> [(5,vp g.br 0),(6,vi (dB d).1),(7,vi (dM d).1),(8,g.v)]
 |0=> [(6,vi (dB d).1),(7,vi (dM d).1),(8,g.v)]
 |_=> []
def EL (g:EG):Nat:=match g.lab with
 |1=>1
 |0=>0
 |_=>2
def pcE (d:List UInt8) (a:Nat) (e:Int):PcL×Nat×Int:=
 if(zE_ d a e 8199).1%2=1 then
  (⟨(zE_ d (zE_ d a e 8199).2.1 (zE_ d a e 8199).2.2 4099).1.toNat,((zE_ d a e 8199).1 / 2).toNat,[]⟩,(zE_ d (zE_ d a e 8199).2.1 (zE_ d a e 8199).2.2 4099).2)
 else(⟨0,0,(qz_ d (zE_ d a e 8199).2.1 (zE_ d a e 8199).2.2 ((zE_ d a e 8199).1 / 2)).1⟩,(qz_ d (zE_ d a e 8199).2.1 (zE_ d a e 8199).2.2 ((zE_ d a e 8199).1 / 2)).2)
set_option linter.defProp false
def ani_:=And.intro (And.intro (And.intro (@ze_) (And.intro (@zd_) (@jC_))) (And.intro (@jD_) (And.intro (@xJ_) (@jE_)))) (And.intro (And.intro (@Sx.tup2_0) (And.intro (@Sx.tup2_1) (@Sx.tup3_0))) (And.intro (@Sx.tup3_1) (And.intro (@Sx.tup3_2) (@xl_))))
end Go.Proofs
end
section
open Go Go.Proofs Go.Sx Go.StP Go.Flo
namespace Go.Proofs
set_option maxRecDepth 10000
set_option maxHeartbeats 400000
set_option linter.unusedSimpArgs false
set_option linter.defProp false
def aog_:=And.intro (And.intro (And.intro (@ze_) (@zd_)) (And.intro (@jC_) (And.intro (@jD_) (@xJ_)))) (And.intro (And.intro (@jE_) (And.intro (@Sx.tup2_0) (@Sx.tup2_1))) (And.intro (@Sx.tup3_0) (And.intro (@Sx.tup3_1) (@Sx.tup3_2))))
end Go.Proofs
end
section
open Go Go.Proofs Go.Sx Go.StP Go.Flo
namespace Go.Proofs
set_option maxRecDepth 10000
set_option maxHeartbeats 400000
set_option linter.unusedSimpArgs false
structure PartL where
 d:Bool
 b:Int
 x:List UInt8
def wS_:PartL:=⟨false,0,[]⟩
def x5_ (p:PartL):List Value:= [.bool p.d,vi p.b,vs p.x]
theorem afu_ (p:PartL): (x5_ p).all Value.oneCell'=true:=rfl
def adv_ (l:List PartL):Nat→Nat→Except Int (List Nat)
 |0,_=> .error 11
 |k+1,at_=>
  if(l.getD at_ wS_).d=true then
   (if(l.getD at_ wS_).b<0∨(at_:Int)≤ (l.getD at_ wS_).b then .error 2
   else if k=0 then .error 11
   else(adv_ l k (l.getD at_ wS_).b.toNat).map (at_:: ·))
  else if(l.getD at_ wS_).b≠0 then .error 2 else .ok [at_]
def afU_ (l:List PartL) (at_:Int):Except Int (List Nat):=
 if 200<l.length∨at_<0∨(l.length:Int)≤at_ then .error 1 else adv_ l 5 at_.toNat
def ZR_ (p:PartL) (base:List UInt8):List UInt8×Int:=if p.d=true then aka_ base p.x else if 4099<p.x.length then([],19) else(p.x,0)
def ajI_ (l:List PartL):List Nat→Except Int (List UInt8)
 | []=> .ok []
 |a::p=>(ajI_ l p).bind fun s=>if(ZR_ (l.getD a wS_) s).2=0 then .ok (ZR_ (l.getD a wS_) s).1 else .error (ZR_ (l.getD a wS_) s).2
def vW_ (l:List PartL) (at_:Int):Except Int (List UInt8):=(afU_ l at_).bind (ajI_ l)
def ajX_ (l:List PartL):Nat→Except Int (List (List UInt8))
 |0=> .ok []
 |k+1=>(ajX_ l k).bind fun ts=>(vW_ l (k:Nat)).map fun s=>ts++ [s]
def allV (l:List PartL):Except Int (List (List UInt8)):=if 200<l.length then .error 1 else ajX_ l l.length
end Go.Proofs
end
section
open Go Go.Proofs Go.Sx Go.StP Go.Flo
namespace Go.Proofs
set_option maxRecDepth 10000
set_option maxHeartbeats 400000
set_option linter.unusedSimpArgs false
def natC (n:Nat):List Value:= [vi n]
abbrev alV_ (w:World) (v:Value) (l:List PartL):Prop:=SlV 3 x5_ wS_ w v l
theorem qX_ (p:PartL) (E:TypeId) (n:Nat):zn_ (some (false,n)) (some (.cells (x5_ p).toArray E (0,0))) 0=some (.bool p.d):=(rfl)
theorem qU_ (p:PartL) (E:TypeId) (n:Nat):zn_ (some (false,n)) (some (.cells (x5_ p).toArray E (0,0))) 1=some (vi p.b):=(rfl)
theorem qT_ (p:PartL) (E:TypeId) (n:Nat):zn_ (some (false,n)) (some (.cells (x5_ p).toArray E (0,0))) 2=some (vs p.x):=(rfl)
theorem qB_ (p:PartL):Value.cells (.agg (x5_ p).toArray)=(x5_ p).toArray:=zg_ _
theorem Xf_ (p q:PartL) (E:TypeId):zl_ (some (true,3)) (some (.cells (x5_ q).toArray E (0,0))) 0 (.agg (x5_ p).toArray)=some (.cells (x5_ p).toArray E (0,0)):=
 xq_ (x5_ p) (n:=3) true (x5_ q).toArray E rfl (afu_ p) rfl
structure PaG where
 lab:Nat
 at_:Nat
 out:List Nat
 v:Value
 b7:Nat
 q:PartL
 e:Int
 D:za_
def PaJ (l:List PartL) (a0:Int) (n:Nat) (g:PaG):Prop:=
 (g.lab=1∧n≤g.b7∧New n g.D∧g.b7∉keys g.D∧Gr g.D 3 1 g.v g.out.length (g.out.map natC).flatten∧g.at_<l.length∧l.length≤200∧g.out.length≤4∧
  afU_ l a0=(adv_ l (5 - g.out.length) g.at_).map (g.out++ ·))∨
 (g.lab=0∧New n g.D∧afU_ l a0= .error g.e)
def PaS (g:PaG):List (Nat×Value):=match g.lab with
 |1=> [(1,vi g.at_),(6,g.v),(7,vp g.b7 0),(8,vi 1)]
 |_=> [(8,vi g.e)]
def PaL (g:PaG):Nat:=match g.lab with
 |1=>1
 |_=>0
def anD_ (l:List PartL) (a0:Int) (v:Value) (D:za_):Prop:=match afU_ l a0 with
 | .ok p=> ∃x,v= .tuple #[x,vi 0]∧p.length≤5∧GrI D 3 1 x p.length (p.map natC).flatten
 | .error e=>v= .tuple #[.slice none 0 0,vi e]
set_option linter.defProp false
def anh_:=And.intro (And.intro (And.intro (@ze_) (@zd_)) (And.intro (@qX_) (@qU_))) (And.intro (And.intro (@qT_) (@qB_)) (And.intro (@Sx.tup2_0) (@Sx.tup2_1)))
end Go.Proofs
end
section
open Go Go.Proofs Go.Sx Go.StP Go.Flo
namespace Go.Proofs
set_option maxRecDepth 10000
set_option maxHeartbeats 400000
set_option linter.unusedSimpArgs false
def BndL (l:List PartL):Prop:= ∀g,g<l.length→(l.getD g wS_).x.length<9223372036854775808
set_option linter.defProp false
def amK_:=And.intro (And.intro (And.intro (@ze_) (@zd_)) (And.intro (@qX_) (@qU_))) (And.intro (And.intro (@qT_) (@qB_)) (And.intro (@Sx.tup2_0) (@Sx.tup2_1)))
def an5_ (r:Except Int (List UInt8)):Value:=match r with
 | .ok s=> .tuple #[vs s,vi 0]
 | .error e=> .tuple #[vs [],vi e]
end Go.Proofs
end
section
open Go Go.Proofs Go.Sx Go.StP Go.Flo
namespace Go.Proofs
set_option maxRecDepth 10000
set_option maxHeartbeats 400000
set_option linter.unusedSimpArgs false
def ajF_:Nat→List (List UInt8)→List (Int×List UInt8)
 |_,[]=> []
 |i,t::ts=>((i:Int),t)::ajF_ (i+1) ts
def tabT (ts:List (List UInt8)):List (Int×List UInt8):=ajF_ 0 ts
abbrev MapT (o:Obj) (ts:List (List UInt8)):Prop:=MapG vi vs o (tabT ts)
theorem ac3_ (v:Value) (E:TypeId) (n:Nat):zn_ (some (false,n)) (some (.cells #[v] E (0,0))) 0=some v:=(rfl)
set_option linter.defProp false
def anP_:=And.intro (And.intro (And.intro (@ze_) (@zd_)) (And.intro (@ac3_) (@qX_))) (And.intro (And.intro (@qU_) (@qT_)) (And.intro (@qB_) (And.intro (@Sx.tup2_0) (@Sx.tup2_1))))
end Go.Proofs
end
section
open Go Go.Proofs Go.Sx Go.StP Go.Flo
namespace Go.Proofs
set_option maxRecDepth 10000
set_option maxHeartbeats 400000
set_option linter.unusedSimpArgs false
def VS_ (s:List UInt8):List Value:= [vs s]
structure AlG where
 ts:List (List UInt8)
 v:Value
 o:Obj
 D:za_
def AllS (l:List PartL) (v:Value) (D:za_):Prop:=match allV l with
 | .ok ts=> ∃x,v= .tuple #[x,vi 0]∧GrI D 9 1 x ts.length (ts.map VS_).flatten
 | .error e=>v= .tuple #[.slice none 0 0,vi e]
theorem acu_ (b:Nat) (E:TypeId) (x:Value):zl_ (some (false,1)) (some (.cells #[x] E (0,0))) 0 (vm b)=some (.cells #[vm b] E (0,0)):=(rfl)
set_option linter.defProp false
def aob_:=And.intro (And.intro (@ze_) (And.intro (@zd_) (@ac3_))) (And.intro (@acu_) (And.intro (@Sx.tup2_0) (@Sx.tup2_1)))
end Go.Proofs
end
namespace Go.Dig
open Go.Sx
def hexL:List UInt8:= [48,49,50,51,52,53,54,55,56,57,97,98,99,100,101,102]
def Xc_ (b:UInt8):Int:=if 48≤b.toNat∧b.toNat≤57 then(b.toNat:Int) - 48 else if 97≤b.toNat∧b.toNat≤102 then(b.toNat:Int) - 97+10 else -1
def hexD (n:Nat):UInt8:=hexL.getD n 0
def hexB (b:UInt8):List UInt8:= [hexD (b.toNat / 16),hexD (b.toNat%16)]
def hexV (id:List UInt8):List UInt8:=id.flatMap hexB
def amd_ (id:List UInt8) (g:Nat):List UInt8:=hexV (id.take g)++List.replicate (64 - 2*g) 0
def ahK_ (l:List UInt8) (n:Nat):List UInt8:=(List.range n).map fun i=>UInt8.ofInt (Xc_ (l.getD (2*i) 0)*16+Xc_ (l.getD (2*i+1) 0))
def all_ (l:List UInt8):Bool:=l.length==64&&l.all fun c=>decide (0≤Xc_ c)
def ame_ (l:List UInt8):List UInt8:=if all_ l then ahK_ l 32 else List.replicate 32 0
def akU_ (l:List UInt8) (g:Nat):List UInt8:=ahK_ l g++List.replicate (32 - g) 0
def refB (l:List UInt8) (i k:Nat):UInt8:=
 if 2*k+1<i then UInt8.ofInt (Xc_ (l.getD (2*k) 0)*16+Xc_ (l.getD (2*k+1) 0)) else if 2*k<i then UInt8.ofInt (Xc_ (l.getD (2*k) 0)) else 0
def amb_ (l:List UInt8) (i:Nat):List UInt8:=(List.range 32).map (refB l i)
def rgt (x:UInt32) (n:UInt64):UInt32:=qE_ x n.toNat|||jT_ x (32 - n).toNat
def rol (x:UInt32) (k:Int):UInt32:=jT_ x (UInt64.ofInt k&&&31).toNat|||qE_ x (32 - (UInt64.ofInt k&&&31)).toNat
def amM_ (x:UInt32) (a b c:Int):UInt32:=rol x (-a)^^^rol x (-b)^^^qE_ x c.toNat
def amt_ (x:UInt32) (a b c:Int):UInt32:=rol x (-a)^^^rol x (-b)^^^rol x (-c)
def S1 (e:UInt32):UInt32:=rgt e 6^^^rgt e 11^^^rgt e 25
def S0 (a:UInt32):UInt32:=rgt a 2^^^rgt a 13^^^rgt a 22
def s1 (y:UInt32):UInt32:=rgt y 17^^^rgt y 19^^^qE_ y 10
def s0 (x:UInt32):UInt32:=rgt x 7^^^rgt x 18^^^qE_ x 3
def kL:List UInt32:= [1116352408,1899447441,3049323471,3921009573,961987163,1508970993,2453635748,2870763221,3624381080,310598401,607225278,1426881987,1925078388,2162078206,2614888103,3248222580,3835390401,4022224774,264347078,604807628,770255983,1249150122,1555081692,1996064986,2554220882,2821834349,2952996808,3210313671,3336571891,3584528711,113926993,338241895,666307205,773529912,1294757372,1396182291,1695183700,1986661051,2177026350,2456956037,2730485921,2820302411,3259730800,3345764771,3516065817,3600352804,4094571909,275423344,430227734,506948616,659060556,883997877,958139571,1322822218,1537002063,1747873779,1955562222,2024104815,2227730452,2361852424,2428436474,2756734187,3204031479,3329325298]
def Kt_:List UInt32:= [1779033703,3144134277,1013904242,2773480762,1359893119,2600822924,528734635,1541459225]
def alu_ (b:List UInt8) (i:Nat):UInt32:=
 UInt32.ofNat (b.getD (4*i) 0).toNat*16777216+UInt32.ofNat (b.getD (4*i+1) 0).toNat*65536+UInt32.ofNat (b.getD (4*i+2) 0).toNat*256+UInt32.ofNat (b.getD (4*i+3) 0).toNat
def wPre (b:List UInt8) (i:Nat):List UInt32:=(List.range 64).map fun j=>if j<i then alu_ b j else 0
def ak8_ (w:List UInt32) (g:Nat):List UInt32:=w.set g (s1 (w.getD (g - 2) 0)+w.getD (g - 7) 0+s0 (w.getD (g - 15) 0)+w.getD (g - 16) 0)
def wGo (w:List UInt32):Nat→List UInt32
 |0=>w
 |n+1=>ak8_ (wGo w n) (16+n)
def wAll (b:List UInt8):List UInt32:=wGo (wPre b 16) 48
def alw_ (s:List UInt32) (k w:UInt32):List UInt32:=
 let t:=s.getD 7 0+S1 (s.getD 4 0)+ (s.getD 4 0&&&s.getD 5 0||| ~~~ s.getD 4 0&&&s.getD 6 0)+k+w
 let u:=S0 (s.getD 0 0)+ (s.getD 0 0&&&s.getD 1 0|||s.getD 0 0&&&s.getD 2 0|||s.getD 1 0&&&s.getD 2 0)
 [t+u,s.getD 0 0,s.getD 1 0,s.getD 2 0,s.getD 3 0+t,s.getD 4 0,s.getD 5 0,s.getD 6 0]
def rGo (st w:List UInt32):Nat→List UInt32
 |0=>st
 |n+1=>alw_ (rGo st w n) (kL.getD n 0) (w.getD n 0)
def adx_ (st s:List UInt32) (i:Nat):List UInt32:=(List.range 8).map fun j=>if j<i then st.getD j 0+s.getD j 0 else st.getD j 0
theorem XE_ (st s:List UInt32) (i:Nat): (adx_ st s i).length=8:=by simp[adx_]
def comp (st:List UInt32) (b:List UInt8):List UInt32:=adx_ st (rGo st (wAll b) 64) 8
theorem aal_ (st:List UInt32) (b:List UInt8): (comp st b).length=8:=XE_ _ _ _
def XP_ (st:List UInt32) (m:List UInt8):Nat→List UInt32
 |0=>st
 |n+1=>comp (XP_ st m n) ((m.drop (64*n)).take 64)
theorem KM_ (st:List UInt32) (m x:List UInt8) (n:Nat) (h:64*n≤m.length):XP_ st (m++x) n=XP_ st m n:=by
 induction n with
 |zero=>rfl
 |succ n ih=>
  simp only[XP_]
  rw[ih (by omega),List.drop_append_of_le_length (by omega),List.take_append_of_le_length (by simp;omega)]
def kt_ (bg:Bool) (st:List UInt32) (rest:List UInt8) (many:Int) (taken:UInt64):List Value:=
 .bool bg:: (st.map (fun x=>Value.int .u32 (x.toNat:Int))++ (rest.map (fun x=>Value.int .u8 (x.toNat:Int))++ [vi many,v64 taken]))
def z8_ (bg:Bool) (st:List UInt32) (rest:List UInt8) (many:Int) (taken:UInt64):Array Value:=(kt_ bg st rest many taken).toArray
section
variable {bg:Bool} {st:List UInt32} {rest:List UInt8} {many:Int} {taken:UInt64} {E:TypeId}
theorem je_ (h:st.length=8∧rest.length=64): (z8_ bg st rest many taken).size=75:=by simp[z8_,kt_,h]
theorem adX_: (z8_ bg st rest many taken)[0]? =some (.bool bg):=rfl
theorem afe_ (k:Nat) (hk:k<8) (h:st.length=8): (z8_ bg st rest many taken)[1+k]? =some (v32 (st.getD k 0)):=by
 have:1+k=k+1:=by omega
 rw[this,z8_,List.getElem?_toArray,kt_,List.getElem?_cons_succ,List.getElem?_append_left (by simp;omega)]
 simp[v32,List.getD_eq_getElem?_getD,h,hk]
theorem VQ_ (k:Nat) (hk:k<64) (h:st.length=8∧rest.length=64): (z8_ bg st rest many taken)[9+k]? =some (v8 (rest.getD k 0)):=by
 have:9+k=(8+k)+1:=by omega
 rw[this,z8_,List.getElem?_toArray,kt_,List.getElem?_cons_succ,List.getElem?_append_right (by simp;omega),List.getElem?_append_left (by simp;omega)]
 have e:8+k - (List.map (fun x:UInt32=>Value.int .u32 (x.toNat:Int)) st).length=k:=by simp;omega
 rw[e]
 simp[v8,List.getD_eq_getElem?_getD,h,hk]
theorem adn_ (h:st.length=8∧rest.length=64): (z8_ bg st rest many taken)[73]? =some (vi many):=by
 rw[z8_,List.getElem?_toArray,kt_,List.getElem?_cons_succ,List.getElem?_append_right (by simp;omega),List.getElem?_append_right (by simp;omega)]
 simp[h]
theorem adr_ (h:st.length=8∧rest.length=64): (z8_ bg st rest many taken)[74]? =some (v64 taken):=by
 rw[z8_,List.getElem?_toArray,kt_,List.getElem?_cons_succ,List.getElem?_append_right (by simp;omega),List.getElem?_append_right (by simp;omega)]
 simp[h]
theorem kX_ (n:Nat):zn_ (some (false,n)) (some (.cells (z8_ bg st rest many taken) E (0,0))) 0=some (.bool bg):=adX_
theorem vf_ (n k:Nat) (h:k<8∧st.length=8):zn_ (some (false,n)) (some (.cells (z8_ bg st rest many taken) E (0,0))) (1+k)=some (v32 (st.getD k 0)):=afe_ k h.1 h.2
theorem vo_ (n k:Nat) (h:k<64∧st.length=8∧rest.length=64):zn_ (some (false,n)) (some (.cells (z8_ bg st rest many taken) E (0,0))) (9+k)=some (v8 (rest.getD k 0)):=VQ_ k h.1 h.2
theorem kn_ (n j k:Nat) (h:j+k<64∧st.length=8∧rest.length=64):zn_ (some (false,n)) (some (.cells (z8_ bg st rest many taken) E (0,0))) (9+j+k)=some (v8 (rest.getD (j+k) 0)):=by
 rw[Nat.add_assoc];exact VQ_ (j+k) h.1 h.2
theorem vh_ (n:Nat) (h:st.length=8∧rest.length=64):zn_ (some (false,n)) (some (.cells (z8_ bg st rest many taken) E (0,0))) 73=some (vi many):=adn_ h
theorem va_ (n:Nat) (h:st.length=8∧rest.length=64):zn_ (some (false,n)) (some (.cells (z8_ bg st rest many taken) E (0,0))) 74=some (v64 taken):=adr_ h
theorem x7_ (h:st.length=8∧rest.length=64):zn_ (some (true,8)) (some (.cells (z8_ bg st rest many taken) E (0,0))) 1=some (.agg (a32 st)):=by
 have hs:1+8≤ (z8_ bg st rest many taken).size:=by rw[je_ h];omega
 simp only[zn_,hs, ↓reduceIte]
 congr 2
 rw[z8_,a32,kt_]
 simp only[List.extract_toArray,List.extract_eq_take_drop]
 congr 1
 simp[h]
theorem xC_ (h:st.length=8∧rest.length=64):zn_ (some (true,75)) (some (.cells (z8_ bg st rest many taken) E (0,0))) 0=some (.agg (z8_ bg st rest many taken)):=xb_ _ _ _ _ (je_ h)
theorem ahz_: (z8_ bg st rest many taken).toList.all Value.oneCell'=true:=by
 simp[z8_,kt_,Value.oneCell',vi,v64]
theorem j0_ (old:Array Value) (h:st.length=8∧rest.length=64∧old.size=75):zl_ (some (true,75)) (some (.cells old E (0,0))) 0 (.agg (z8_ bg st rest many taken))=some (.cells (z8_ bg st rest many taken) E (0,0)):=
 wj_ _ _ _ _ _ ⟨je_ ⟨h.1,h.2.1⟩,h.2.2⟩ ahz_
theorem kw_ (i:Nat) (v:Value): (z8_ bg st rest many taken).setIfInBounds i v=((kt_ bg st rest many taken).set i v).toArray:=by simp[z8_]
theorem kh_ (b:Bool) (h:st.length=8∧rest.length=64):zl_ (some (false,1)) (some (.cells (z8_ bg st rest many taken) E (0,0))) 0 (.bool b)=some (.cells (z8_ b st rest many taken) E (0,0)):=by
 rw[xm_ _ _ _ _ _ (by rw[je_ h];omega) rfl rfl,kw_];rfl
theorem x4_ (k:Nat) (x:UInt32) (h:k<8∧st.length=8∧rest.length=64):zl_ (some (false,1)) (some (.cells (z8_ bg st rest many taken) E (0,0))) (1+k) (v32 x)=some (.cells (z8_ bg (st.set k x) rest many taken) E (0,0)):=by
 have e:1+k=k+1:=by omega
 rw[xm_ _ _ _ _ _ (by rw[je_ h.2];omega) rfl rfl,kw_,e,kt_,List.set_cons_succ,List.set_append_left _ _ (by simp;omega)]
 simp only[z8_,kt_,List.map_set];rfl
theorem ke_ (k:Nat) (x:UInt8) (h:k<64∧st.length=8∧rest.length=64):zl_ (some (false,1)) (some (.cells (z8_ bg st rest many taken) E (0,0))) (9+k) (v8 x)=some (.cells (z8_ bg st (rest.set k x) many taken) E (0,0)):=by
 have e:9+k=(8+k)+1:=by omega
 rw[xm_ _ _ _ _ _ (by rw[je_ h.2];omega) rfl rfl,kw_,e,kt_,List.set_cons_succ,List.set_append_right _ _ (by simp;omega),List.set_append_left _ _ (by simp;omega)]
 have e2:8+k - (List.map (fun x:UInt32=>Value.int .u32 (x.toNat:Int)) st).length=k:=by simp;omega
 rw[e2]
 simp only[z8_,kt_,List.map_set];rfl
theorem kp_ (m:Int) (h:st.length=8∧rest.length=64):zl_ (some (false,1)) (some (.cells (z8_ bg st rest many taken) E (0,0))) 73 (vi m)=some (.cells (z8_ bg st rest m taken) E (0,0)):=by
 rw[xm_ _ _ _ _ _ (by rw[je_ h];omega) rfl rfl,kw_,kt_,List.set_cons_succ,List.set_append_right _ _ (by simp;omega),List.set_append_right _ _ (by simp;omega)]
 simp[z8_,kt_,h]
theorem ko_ (t:UInt64) (h:st.length=8∧rest.length=64):zl_ (some (false,1)) (some (.cells (z8_ bg st rest many taken) E (0,0))) 74 (v64 t)=some (.cells (z8_ bg st rest many t) E (0,0)):=by
 rw[xm_ _ _ _ _ _ (by rw[je_ h];omega) rfl rfl,kw_,kt_,List.set_cons_succ,List.set_append_right _ _ (by simp;omega),List.set_append_right _ _ (by simp;omega)]
 simp[z8_,kt_,h]
theorem xH_ (st':List UInt32) (h:st.length=8∧rest.length=64∧st'.length=8):zl_ (some (true,8)) (some (.cells (z8_ bg st rest many taken) E (0,0))) 1 (.agg (a32 st'))=some (.cells (z8_ bg st' rest many taken) E (0,0)):=by
 have hs:1+8≤ (z8_ bg st rest many taken).size:=by rw[je_ ⟨h.1,h.2.1⟩];omega
 have hp:x3_ (z8_ bg st rest many taken) 1 (a32 st').toList=z8_ bg st' rest many taken:=by
  have:=Xm_ (a32 st').toList [.bool bg] (st.map fun x=>Value.int .u32 (x.toNat:Int)) (rest.map (fun x=>Value.int .u8 (x.toNat:Int))++ [vi many,v64 taken]) (by simp[a32,h])
  simpa [z8_,kt_,a32] using this
 have h1: (a32 st').size=8:=by rw[wo_];exact h.2.2
 simp only[zl_,zg_,h1,hs,Nat.le_refl,true_or,aeG_,and_self, ↓reduceIte,hp]
end
def acc (b:List UInt8) (i:Nat):Nat→UInt32
 |0=>0
 |k+1=>jT_ (acc b i k) 8|||UInt32.ofNat (b.getD (4*i+k) 0).toNat
theorem qV_ {α:Type} (l:List α) (i:Nat) (x d:α) (h:i<l.length): (l.set i x).getD i d=x:=by
 simp[List.getD_eq_getElem?_getD,h]
def wG (b:List UInt8) (g:Nat):List UInt32:=wGo (wPre b 16) (g - 16)
def Glob (w:World):Prop:= ∃e0 e1 f0 f1,w.heap[0]? =some (.cells (a32 Kt_) e0 f0)∧w.heap[1]? =some (.cells (a32 kL) e1 f1)
theorem Glob.of {w0 w:World} {L:za_} (hg:Glob w0) (h:Hp w0 L w) (hk: ∀b,b∈keys L→1<b):Glob w:=by
 obtain⟨e0,e1,f0,f1,h0,h1⟩:=hg
 refine⟨e0,e1,f0,f1, ?_, ?_⟩
 ·rw[h.old 0 (Array.getElem?_eq_some_iff.1 h0).1 (fun hm=>by have:=hk 0 hm;omega)];exact h0
 ·rw[h.old 1 (Array.getElem?_eq_some_iff.1 h1).1 (fun hm=>by have:=hk 1 hm;omega)];exact h1
structure Hs where
 st:List UInt32
 rest:List UInt8
 many:Nat
structure Hs.Ok (s:Hs):Prop where
 st:s.st.length=8
 rest:s.rest.length=64
 many:s.many<64
def hput (s:Hs) (x:UInt8):Hs:=
 if s.many+1=64 then⟨comp s.st (s.rest.set s.many x),s.rest.set s.many x,0⟩ else⟨s.st,s.rest.set s.many x,s.many+1⟩
theorem ajn_ {s:Hs} (x:UInt8) (h:s.Ok): (hput s x).Ok:=by
 unfold hput
 split
 ·exact⟨aal_ _ _,by simp[h.rest],by show(0:Nat)<64;omega⟩
 ·exact⟨h.st,by simp[h.rest],by show s.many+1<64;have:=h.many;omega⟩
def aiY_ (s:Hs) (l:List UInt8):Hs:=l.foldl hput s
def alY_ (bg:Bool) (s:Hs):Hs:=if bg then s else{s with st:=Kt_}
def anF_ (s:Hs) (taken:UInt64):Array Value:=z8_ true s.st s.rest s.many taken
def akq_ (t:UInt64) (l:List (List UInt8)):UInt64:=l.foldl (fun t a=>t+UInt64.ofNat a.length) t
theorem loadV_one (cs:Array Value) (E:TypeId) (fz:Nat×Nat) (n i:Nat):zn_ (some (false,n)) (some (.cells cs E fz)) i=cs[i]? :=(rfl)
structure Strs (w:World) (v:Value) (l:List (List UInt8)):Prop where
 nil_or: (l= []∧v= .slice none 0 0)∨ ∃b off c arr E fz,v=vsl b off l.length c∧w.heap[b]? =some (.cells arr E fz)∧ ∀i,i<l.length→arr[off+i]? =some (vs (l.getD i []))
end Go.Dig
section
open Go Go.Proofs Go.Sx Go.Dig
namespace Go.Proofs
set_option maxRecDepth 10000
set_option maxHeartbeats 4000000
set_option linter.unusedSimpArgs false
end Go.Proofs
end
section
open Go Go.Proofs Go.Sx Go.Dig
namespace Go.Proofs
set_option maxRecDepth 10000
set_option maxHeartbeats 4000000
set_option linter.unusedSimpArgs false
set_option linter.defProp false
def aoh_:=And.intro (And.intro (And.intro (And.intro (@kX_) (@vf_)) (And.intro (@vo_) (@kn_))) (And.intro (And.intro (@vh_) (@va_)) (And.intro (@x7_) (@xC_)))) (And.intro (And.intro (And.intro (@j0_) (@kh_)) (And.intro (@x4_) (@ke_))) (And.intro (And.intro (@kp_) (@ko_)) (And.intro (@xH_) (@qV_))))
end Go.Proofs
end
section
open Go Go.Proofs Go.Sx Go.Dig
namespace Go.Proofs
set_option maxRecDepth 10000
set_option maxHeartbeats 1000000
set_option linter.unusedSimpArgs false
set_option linter.defProp false
def anm_:=And.intro (And.intro (And.intro (And.intro (@kX_) (@vf_)) (And.intro (@vo_) (@kn_))) (And.intro (And.intro (@vh_) (@va_)) (And.intro (@x7_) (@xC_)))) (And.intro (And.intro (And.intro (@j0_) (@kh_)) (And.intro (@x4_) (@ke_))) (And.intro (And.intro (@kp_) (@ko_)) (And.intro (@xH_) (@qV_))))
end Go.Proofs
end
namespace Go.Dig
open Go.Sx
def akr_ (m:Nat):Nat:=(120 - m)%64
def lenB (t:UInt64) (g:Nat):UInt8:=UInt8.ofNat (jl_ (8*t) (56 - 8*g)).toNat
def len8 (t:UInt64):List UInt8:=(List.range 8).map (lenB t)
def outB (st:List UInt32) (j:Nat):UInt8:=UInt8.ofNat (qE_ (st.getD (j / 4) 0) (24 - 8* (j%4))).toNat
def aba_ (st:List UInt32) (k:Nat):List UInt8:=(List.range 32).map fun j=>if j<k then outB st j else 0
def akD_ (s:Hs) (taken:UInt64):Hs:=aiY_ (aiY_ (hput s 128) (List.replicate (akr_ (hput s 128).many) 0)) (len8 taken)
def hsum (s:Hs) (taken:UInt64):List UInt8:=aba_ (akD_ s taken).st 32
def H0:Hs:=⟨Kt_,List.replicate 64 0,0⟩
theorem alQ_:H0.Ok:=⟨rfl,by simp[H0],by show(0:Nat)<64;omega⟩
def sumV (l:List (List UInt8)):List UInt8:=hsum (aiY_ H0 l.flatten) (akq_ 0 l)
theorem outPre_length (st:List UInt32) (k:Nat): (aba_ st k).length=32:=by simp[aba_]
end Go.Dig
section
open Go Go.Proofs Go.Sx Go.Dig
namespace Go.Proofs
set_option maxRecDepth 10000
set_option maxHeartbeats 1000000
set_option linter.unusedSimpArgs false
set_option linter.defProp false
def amE_:=And.intro (And.intro (And.intro (And.intro (@kX_) (@vf_)) (And.intro (@vo_) (@kn_))) (And.intro (And.intro (@vh_) (@va_)) (And.intro (@x7_) (@xC_)))) (And.intro (And.intro (And.intro (@j0_) (@kh_)) (And.intro (@x4_) (@ke_))) (And.intro (And.intro (@kp_) (@ko_)) (And.intro (@xH_) (@qV_))))
end Go.Proofs
end
section
open Go Go.Proofs Go.Sx Go.Dig
namespace Go.Proofs
set_option maxRecDepth 10000
set_option maxHeartbeats 1000000
set_option linter.unusedSimpArgs false
set_option linter.defProp false
def am6_:=And.intro (And.intro (And.intro (And.intro (@kX_) (@vf_)) (And.intro (@vo_) (@kn_))) (And.intro (And.intro (@vh_) (@va_)) (And.intro (@x7_) (@xC_)))) (And.intro (And.intro (And.intro (@j0_) (@kh_)) (And.intro (@x4_) (@ke_))) (And.intro (And.intro (@kp_) (@ko_)) (And.intro (@xH_) (@qV_))))
end Go.Proofs
end
namespace Go.Dig
open Go.Sx
def quoN (t:UInt64):Nat→UInt64
 |0=>t
 |n+1=>quoN t n / 256
def alG_ (t:UInt64) (j:Nat):UInt8:=UInt8.ofNat (jl_ t (56 - 8*j)).toNat
def ale_ (t:UInt64) (i:Nat):List UInt8:=(List.range 8).map fun j=>if 8≤j+i then alG_ t j else 0
def padR (m:List UInt8):List UInt8:=m++ [128]++List.replicate (akr_ ((m.length+1)%64)) 0++len8 (UInt64.ofNat m.length)
def shaR (m:List UInt8):List UInt8:=aba_ (XP_ Kt_ (padR m) ((padR m).length / 64)) 32
end Go.Dig
section
open Go Go.Proofs Go.Sx Go.Dig
namespace Go.Proofs
set_option maxRecDepth 10000
set_option maxHeartbeats 1000000
set_option linter.unusedSimpArgs false
set_option linter.defProp false
def ant_:= @qV_
end Go.Proofs
end
section
open Go Go.Proofs Go.Sx Go.Dig
namespace Go.Proofs
set_option maxRecDepth 10000
set_option maxHeartbeats 1000000
set_option linter.unusedSimpArgs false
set_option linter.defProp false
def amH_:= @qV_
end Go.Proofs
end
namespace Go.Dig
open Go.Sx
structure Inv (s:Hs) (p:List UInt8):Prop where
 ok:s.Ok
 st:s.st=XP_ Kt_ p (p.length / 64)
 many:s.many=p.length%64
 rest:s.rest.take s.many=p.drop (64* (p.length / 64))
theorem Inv.put {s:Hs} {p:List UInt8} (h:Inv s p) (x:UInt8):Inv (hput s x) (p++ [x]):=by
 obtain⟨hok,hst,hmany,hrest⟩:=h
 have hk:=ajn_ x hok
 have hm64:=hok.many
 have hrl:=hok.rest
 have hle:64* (p.length / 64)≤p.length:=by omega
 have htake: (s.rest.set s.many x).take (s.many+1)=p.drop (64* (p.length / 64))++ [x]:=by
  rw[List.take_add_one,List.take_set,←hrest]
  congr 1
  ·rw[List.set_eq_of_length_le (by simp only[List.length_take];exact Nat.min_le_left _ _)]
  ·simp[hrl,hm64]
 have hlen: (p++ [x]).length=p.length+1:=by simp
 have hc:XP_ Kt_ (p++ [x]) (p.length / 64)=XP_ Kt_ p (p.length / 64):=KM_ _ _ _ _ hle
 by_cases h64:s.many+1=64
 ·have e:hput s x=⟨comp s.st (s.rest.set s.many x),s.rest.set s.many x,0⟩:=by unfold hput;rw[if_pos h64]
  have hd: (p.length+1) / 64=p.length / 64+1:=by omega
  have hr: (s.rest.set s.many x)=p.drop (64* (p.length / 64))++ [x]:=by
   rw[←htake,h64,List.take_of_length_le (by simp[hrl])]
  refine⟨hk, ?_, ?_, ?_⟩
  ·rw[e,hlen,hd]
   show comp s.st _=comp (XP_ Kt_ (p++ [x]) (p.length / 64)) _
   rw[hc,←hst,hr,List.drop_append_of_le_length hle,List.take_of_length_le (by simp;omega)]
  ·rw[e,hlen];show 0=_;omega
  ·rw[e,hlen]
   show List.take 0 _=_
   rw[List.take_zero,List.drop_of_length_le (by rw[hlen];omega)]
 ·have e:hput s x=⟨s.st,s.rest.set s.many x,s.many+1⟩:=by unfold hput;rw[if_neg h64]
  have hd: (p.length+1) / 64=p.length / 64:=by omega
  refine⟨hk, ?_, ?_, ?_⟩
  ·rw[e,hlen,hd,hc];exact hst
  ·rw[e,hlen];show s.many+1=_;omega
  ·rw[e,hlen,hd]
   show List.take (s.many+1) (s.rest.set s.many x)=_
   rw[htake,List.drop_append_of_le_length hle]
theorem Inv.zero:Inv H0 []:=⟨alQ_,rfl,rfl,rfl⟩
end Go.Dig
section
open Go Go.Proofs Go.Sx Go.StP
namespace Go.Proofs
set_option maxRecDepth 10000
set_option maxHeartbeats 400000
set_option linter.unusedSimpArgs false
theorem af9_ (m:List UInt8): (Dig.shaR m).length=32:=Dig.outPre_length _ _
set_option linter.defProp false
def ajL_:=And.intro (And.intro (And.intro (@qv_) (@z4_)) (And.intro (@z6_) (@qb_))) (And.intro (And.intro (@Sx.tup2_0) (@Sx.tup2_1)) (And.intro (@ze_) (@zd_)))
def idV (k:Int) (t:List UInt8):IdL:=if RdOk k t then⟨Dig.shaR (akx_ k t),af9_ _⟩ else id0
def ama_ (k:Int) (t:List UInt8):List UInt8:=(if k=3 then [99] else if k=2 then [116] else [98])++j7_ t
end Go.Proofs
end
section
open Go Go.Proofs Go.Sx Go.StP Go.Flo
namespace Go.Proofs
set_option maxRecDepth 10000
set_option maxHeartbeats 400000
set_option linter.unusedSimpArgs false
structure ObL where
 k:Int
 t:List UInt8
def ob0:ObL:=⟨0,[]⟩
def obC (o:ObL):List Value:= [vi o.k,vs o.t]
def aeZ_ (s:List UInt8):ObL:=⟨if frOk s then frK s else 0,if frOk s then(frT s).1 else []⟩
def idOf (s:List UInt8):IdL:=idV (aeZ_ s).k (aeZ_ s).t
def ahU_:List (List UInt8)→List IdL→List ObL→Option (List IdL×List ObL)
 | [],ids,os=>some (ids,os)
 |s::r,ids,os=>if frOk s=true∧(ids.any fun y=>(idOf s).l==y.l)=false then ahU_ r (ids++ [idOf s]) (os++ [aeZ_ s]) else none
def fillV (l:List PartL):Option (List IdL×List ObL):=match allV l with
 | .ok ts=>ahU_ ts [] []
 | .error _=>none
end Go.Proofs
end
section
open Go Go.Proofs Go.Sx
namespace Go.Proofs
set_option maxRecDepth 10000
set_option maxHeartbeats 4000000
set_option linter.unusedSimpArgs false
def hvL:List UInt32:= [0x00000000,0x1db71064,0x3b6e20c8,0x26d930ac,0x76dc4190,0x6b6b51f4,0x4db26158,0x5005713c,0xedb88320,0xf00f9344,0xd6d6a3e8,0xcb61b38c,0x9b64c2b0,0x86d3d2d4,0xa00ae278,0xbdbdf21c]
def akA_ (n:UInt32):UInt32:=qE_ n 4^^^hvL.getD (n&&&15).toNat 0
def aeh_ (n:UInt32):Nat→UInt32
 |0=>n
 |k+1=>akA_ (aeh_ n k)
def agh_ (n:UInt32) (b:UInt8):UInt32:=aeh_ (n^^^UInt32.ofNat b.toNat) 2
theorem aee_ (n:UInt32): (n&&&15).toNat<16:=by
 rw[UInt32.toNat_and]
 exact Nat.lt_of_le_of_lt Nat.and_le_right (by decide)
def GlobC (w:World):Prop:= ∃e f,w.heap[(1:Nat)]? =some (.cells (a32 hvL) e f)
theorem GlobC.of {w w':World} {L:za_} (h:GlobC w) (hw:Hp w L w') (hn: (1:Nat)∉keys L):GlobC w':=by
 obtain⟨e,f,h⟩:=h
 exact⟨e,f,by rw[hw.old _ (Array.getElem?_eq_some_iff.1 h).1 hn];exact h⟩
theorem aji_:hvL.length=16:=rfl
set_option linter.defProp false
def zX_:=And.intro (And.intro (@ze_) (@ve_)) (And.intro (@k3_) (And.intro (@k4_) (@zd_)))
theorem ael_ (n:UInt32) (b:UInt8) (w:World) (hG:GlobC w):
  Rets Tryd.prog 88 #[v32 n,v8 b] w (fun v D=>v=v32 (agh_ n b)∧D= []):=by
 obtain⟨e,f,htab⟩:=hG
 refine Rets.enterV Tryd.func88 rfl (rs:= [.tmp 4]) Tryd.results88 Tryd.ntmps88 ?_
 refine kf ?_
 first|with_reducible refine ks [] @zX_ ?_|refine kp @zX_ ?_
 unfold agh_
 generalize n^^^UInt32.ofNat b.toNat=m
 rw[show v32 m=v32 (aeh_ m 0) from rfl]
 refine Cw.loopG (G:=Nat) [10,11,12,13,14,15,16,17,0,18,9] (fun g=> [(0,v32 (aeh_ m g)),(9,vi g)]) (fun g=> []) (fun g=>g≤2) (fun g=>2 - g) 0 rfl rfl ?_ ?_
 ·omega
 intro g j hg
 refine kv ?_
 by_cases hlt:g<2
 ·have h15:=aee_ (aeh_ m g)
  have hl:=aji_
  first|with_reducible refine ks [] (And.intro @zX_ @htab) ?_|refine kp (And.intro @zX_ @htab) ?_
  refine Again.mk (g+1) (by omega) (by omega) rfl rfl
 ·obtain rfl:g=2:=by omega
  first|with_reducible refine ks [] @zX_ ?_|refine kp @zX_ ?_
  refine⟨_,(ke @zX_),trivial, ?_⟩
  rfl
def V8_ (n:UInt32) (s:List UInt8):UInt32:=s.foldl agh_ n
theorem acB_ (n:UInt32) (s:List UInt8) (g:Nat) (h:g<s.length):V8_ n (s.take (g+1))=agh_ (V8_ n (s.take g)) (s.getD g 0):=by
 unfold V8_
 rw[List.take_succ_eq_append_getElem h,List.foldl_append,List.getD_eq_getElem?_getD,List.getElem?_eq_getElem h]
 rfl
theorem aeV_ (n:UInt32) (s:List UInt8) (w:World) (hG:GlobC w) (hs:s.length<1099511627776):
  Rets Tryd.prog 74 #[v32 n,vs s] w (fun v D=>v=v32 (~~~ (V8_ (~~~ n) s))∧D= []):=by
 refine Rets.enterV Tryd.func74 rfl (rs:= [.tmp 4]) Tryd.results74 Tryd.ntmps74 ?_
 refine kf ?_
 first|with_reducible refine ks [] @zX_ ?_|refine kp @zX_ ?_
 rw[show v32 (~~~ n)=v32 (V8_ (~~~ n) (s.take 0)) from rfl]
 refine Cw.loopG (G:=Nat) [12,13,6,14,15,16,17,18,5,19,11] (fun g=> [(5,v32 (V8_ (~~~ n) (s.take g))),(11,vi g)]) (fun g=> []) (fun g=>g≤s.length) (fun g=>s.length - g) 0 rfl rfl ?_ ?_
 ·omega
 intro g j hg
 refine kv ?_
 by_cases hlt:g<s.length
 ·first|with_reducible refine ks [] @zX_ ?_|refine kp @zX_ ?_
  refine Ow.callFV rfl Tryd.call88 (fun w' hw'=>ael_ _ _ w' (GlobC.of hG hw' (by simp[keys]))) ?_
  refine ko @zX_ ?_
  first|with_reducible refine ks [] @zX_ ?_|refine kp @zX_ ?_
  refine Again.mk (g+1) (by omega) (by omega) rfl ?_
  rw[acB_ _ _ _ hlt]
  rfl
 ·obtain rfl:g=s.length:=by omega
  first|with_reducible refine ks [] @zX_ ?_|refine kp @zX_ ?_
  rw[List.take_length]
  refine⟨_,(ke @zX_),trivial, ?_⟩
  rfl
def crcV (s:List UInt8):UInt32:= ~~~ (V8_ (~~~ (0:UInt32)) s)
theorem adw_ (b:Nat) (s:List UInt8) (E:TypeId) (w:World) (hG:GlobC w) (hs:s.length<1099511627776) (ho:w.heap[b]? =some (.cells #[vs s] E (0,0))):
  Rets Tryd.prog 64 #[vsl b 0 1 1] w (fun v D=>v=v32 (crcV s)∧D= []):=by
 have hS:StrS w (vsl b 0 1 1) [s] b 0 #[vs s] E (0,0):=StrS.lit [s] rfl rfl ho
 refine Rets.enterV Tryd.func64 rfl (rs:= [.tmp 2]) Tryd.results64 Tryd.ntmps64 ?_
 refine kf ?_
 first|with_reducible refine ks [] @zX_ ?_|refine kp @zX_ ?_
 refine Cw.loopG (G:=Nat) [9,10,11,5,12,13,14,3,15,8] (fun g=> [(3,v32 (if g=0 then 0 else crcV s)),(8,vi g)]) (fun g=> []) (fun g=>g≤1) (fun g=>1 - g) 0 rfl rfl ?_ ?_
 ·omega
 intro g j hg
 refine kv ?_
 by_cases hlt:g<1
 ·obtain rfl:g=0:=by omega
  have hlg:=hS.get 0 (by simp)
  have hrd:=hS.has (by simp)
  have hix:=fun m=>hS.idx m 0 (by simp)
  ((try with_reducible refine Cw.go [] ?_);(try simp(disch:=(first|assumption|omega| (simp only[xN_,xT_,UInt64.reduceToNat];try omega))) only[↓Sx.S0,Sx.S1,Tryd.fx,zX_,Nat.reduceAdd,Nat.reducePow,Int.reducePow,Nat.reduceBEq, ↓reduceIte,UInt8.reduceToNat,UInt16.reduceToNat,UInt32.reduceToNat,UInt64.reduceToNat,Int.reduceToNat,Sx.loadV_one,hrd,hlg,hix]))
  refine Ow.callFV rfl Tryd.call74 (fun w' hw'=>aeV_ 0 s w' (GlobC.of hG hw' (by simp[keys])) hs) ?_
  refine ko @zX_ ?_
  first|with_reducible refine ks [] @zX_ ?_|refine kp @zX_ ?_
  refine Again.mk 1 (by omega) (by omega) rfl rfl
 ·obtain rfl:g=1:=by omega
  first|with_reducible refine ks [] @zX_ ?_|refine kp @zX_ ?_
  refine⟨_,(ke @zX_),trivial, ?_⟩
  rfl
def QQ_ (n:UInt32) (g:Nat):List UInt8:=(List.range 4).map fun j=>if j<g then UInt8.ofNat (qE_ n (8*j)).toNat else 0
def sum4 (n:UInt32):List UInt8:=QQ_ n 4
theorem Xj_ (n:UInt32) (g:Nat): (QQ_ n g).length=4:=by simp[QQ_]
theorem We_ (n:UInt32) (g:Nat) (h:g<4): (QQ_ n g).set g (UInt8.ofNat (qE_ n (8*g)).toNat)=QQ_ n (g+1):=by
 have:g=0∨g=1∨g=2∨g=3:=by omega
 rcases this with rfl|rfl|rfl|rfl<;>rfl
def qh_ (s:List UInt8):List UInt8:=s++sum4 (crcV s)
theorem wT_ (s:List UInt8) (w:World) (hG:GlobC w) (hs:s.length<1099511627776):
  Rets Tryd.prog 43 #[vs s] w (fun v D=>v=vs (qh_ s)∧D= []):=by
 have hgl: (1:Nat)<w.heap.size:=by obtain⟨e,f,h⟩:=hG;exact(Array.getElem?_eq_some_iff.1 h).1
 refine Rets.enterV Tryd.func43 rfl (rs:= [.tmp 2]) Tryd.results43 Tryd.ntmps43 ?_
 refine kf ?_
 first|with_reducible refine ks [] @zX_ ?_|refine kp @zX_ ?_
 refine Ow.buildSlice (e:=9) #[vs s] rfl rfl (by kernel_rfl) fun b1 hb1 hw1=> ?_
 refine ko @zX_ ?_
 refine Ow.callFV rfl Tryd.call64 (fun w' hw'=>adw_ b1 s _ w' (GlobC.of hG hw' (by simp[keys];omega)) hs (hw'.has _ _ List.mem_cons_self)) ?_
 refine ko @zX_ ?_
 first|with_reducible refine ks [] @zX_ ?_|refine kp @zX_ ?_
 unfold qh_
 generalize crcV s=n
 refine Ow.alloc rfl rfl Tryd.zr123 fun b2 hb2 hw2=> ?_
 obtain⟨h12,-⟩:=hb2
 refine ko @zX_ ?_
 first|with_reducible refine ks [] @zX_ ?_|refine kp @zX_ ?_
 rw[show a8 (List.replicate 4 0)=a8 (QQ_ n 0) from rfl]
 refine Cw.loopG (G:=Nat) [10,11,5,12,13,14,15,16,17,18,19,9] (fun g=> [(9,vi g)]) (fun g=> [(b1, .cells #[vs s] 9 (0,0)),(b2, .cells (a8 (QQ_ n g)) 123 (0,0))]) (fun g=>g≤4) (fun g=>4 - g) 0 rfl rfl ?_ ?_
 ·omega
 intro g j hg
 refine kv ?_
 have hpl:=Xj_ n g
 by_cases hlt:g<4
 ·first|with_reducible refine ks [] @zX_ ?_|refine kp @zX_ ?_
  refine Again.mk (g+1) (by omega) (by omega) ?_ rfl
  rw[We_ n g hlt]
 ·obtain rfl:g=4:=by omega
  first|with_reducible refine ks [] @zX_ ?_|refine kp @zX_ ?_
  refine⟨_,(ke @zX_),⟨hw1,hw2,trivial⟩, ?_⟩
  rw[List.drop_zero,List.take_of_length_le (by omega)];rfl
def zi_ (s:List UInt8):List UInt8×Bool:=
 if s.length<4 then([],false) else if qh_ (s.take (s.length - 4))=s then(s.take (s.length - 4),true) else([],false)
theorem wf_ (s:List UInt8): (qh_ s).length=s.length+4:=by unfold qh_ sum4;rw[List.length_append,Xj_]
theorem w8_ (s:List UInt8) (w:World) (hG:GlobC w) (hs:s.length<1099511627776):
  Rets Tryd.prog 22 #[vs s] w (fun v D=>v= .tuple #[vs (zi_ s).1, .bool (zi_ s).2]∧D= []):=by
 refine Rets.enterV Tryd.func22 rfl (rs:= [.tmp 2, .tmp 3]) Tryd.results22 Tryd.ntmps22 ?_
 refine kf ?_
 first|with_reducible refine ks [] @zX_ ?_|refine kp @zX_ ?_
 unfold zi_
 by_cases h4:s.length<4
 ·have e1:decide ((s.length:Int)<4)=true:=decide_eq_true (by omega)
  rw[if_pos h4]
  first|with_reducible refine ks [] (And.intro @zX_ @e1) ?_|refine kp (And.intro @zX_ @e1) ?_
  refine⟨_,(ke @zX_),trivial, ?_⟩
  rfl
 ·have e1:decide ((s.length:Int)<4)=false:=decide_eq_false (by omega)
  have e2: ((s.length:Int) - 4).toNat=s.length - 4:=by omega
  rw[if_neg h4]
  first|with_reducible refine ks [] (And.intro @zX_ (And.intro @e1 (@e2))) ?_|refine kp (And.intro @zX_ (And.intro @e1 (@e2))) ?_
  refine Ow.callFV rfl Tryd.call43 (fun w' hw'=>wT_ (s.take (s.length - 4)) w' (GlobC.of hG hw' (by simp[keys])) (by rw[List.length_take];omega)) ?_
  refine ko @zX_ ?_
  cases hq: (qh_ (s.take (s.length - 4)) !=s)
  ·rw[if_pos (by simpa using hq)]
   first|with_reducible refine ks [] (And.intro @zX_ (And.intro @hq (@e2))) ?_|refine kp (And.intro @zX_ (And.intro @hq (@e2))) ?_
   refine⟨_,(ke @zX_),trivial, ?_⟩
   rfl
  ·rw[if_neg (by simpa using hq)]
   first|with_reducible refine ks [] (And.intro @zX_ @hq) ?_|refine kp (And.intro @zX_ @hq) ?_
   refine⟨_,(ke @zX_),trivial, ?_⟩
   rfl
end Go.Proofs
end
section
open Go Go.Proofs Go.Sx Go.StP Go.Flo
namespace Go.Proofs
set_option maxRecDepth 10000
set_option maxHeartbeats 400000
set_option linter.unusedSimpArgs false
def farV (i:Nat) (p:PartL):Int:=if p.d=true then(i:Int) - p.b else 0
def abv_ (i:Nat) (p:PartL):List UInt8:=z9_ (zP_ (farV i p))++j7_ p.x
def aff_:Nat→List PartL→List UInt8
 |_,[]=> []
 |i,p::r=>abv_ i p++aff_ (i+1) r
def magB:List UInt8:= [83,80,75,49]
def alE_ (l:List PartL):List UInt8:=magB++ (z9_ (zP_ (l.length:Int))++aff_ 0 l)
def JR_ (s:List UInt8) (i a:Nat) (e:Int):PartL×Nat×Int:=
 (⟨decide (0< (zE_ s a e 200).1),if 0< (zE_ s a e 200).1 then(i:Int) - (zE_ s a e 200).1 else 0,(qe_ s (zE_ s a e 200).2.1 (zE_ s a e 200).2.2 65536).1⟩,(qe_ s (zE_ s a e 200).2.1 (zE_ s a e 200).2.2 65536).2)
def X6_ (s:List UInt8):Nat→Nat→Nat→Int→List PartL×List Nat×Nat×Int
 |0,_,a,e=>([],[],a,e)
 |k+1,i,a,e=>if(JR_ s i a e).2.2=0 then((JR_ s i a e).1:: (X6_ s k (i+1) (JR_ s i a e).2.1 0).1,a:: (X6_ s k (i+1) (JR_ s i a e).2.1 0).2.1,(X6_ s k (i+1) (JR_ s i a e).2.1 0).2.2) else([],[],(JR_ s i a e).2)
def adV_ (s:List UInt8):Int×Bool×Nat×Int:=
 if(qz_ s 0 0 4).1=magB then((zE_ s (qz_ s 0 0 4).2.1 (qz_ s 0 0 4).2.2 200).1,(zE_ s (qz_ s 0 0 4).2.1 (qz_ s 0 0 4).2.2 200).2.2==0,(zE_ s (qz_ s 0 0 4).2.1 (qz_ s 0 0 4).2.2 200).2) else(0,false,(qz_ s 0 0 4).2)
def VY_ (s:List UInt8):List PartL×List Nat×Nat×Int:=X6_ s (adV_ s).1.toNat 0 (adV_ s).2.2.1 (adV_ s).2.2.2
def amF_ (b:List UInt8):Option (List PartL×List Nat×List IdL×List ObL):=
 if(zi_ b).2=true∧(adV_ (zi_ b).1).2.1=true∧w5_ (zi_ b).1 (VY_ (zi_ b).1).2.2.1 (VY_ (zi_ b).1).2.2.2=0 then(fillV (VY_ (zi_ b).1).1).map fun q=>((VY_ (zi_ b).1).1,(VY_ (zi_ b).1).2.1,q) else none
def al9_ (l:List PartL):List UInt8×Int:=match fillV l with
 |some _=>(qh_ (alE_ l),0)
 |none=>([],1)
instance:DecidableEq ObL:=fun a b=>if h:a.k=b.k∧a.t=b.t then .isTrue (by cases a;cases b;simp only at h;obtain⟨rfl,rfl⟩:=h;rfl) else .isFalse (fun e=>h (by rw[e];exact⟨rfl,rfl⟩))
def KA_ (l:List PartL):Nat→List ObL
 |0=> []
 |k+1=>match vW_ l (k:Nat) with
  | .ok s=>if frOk s=true∧aeZ_ s∉KA_ l k then KA_ l k++ [aeZ_ s] else KA_ l k
  | .error _=>KA_ l k
def amo_ (b:List UInt8):List ObL:=if(adV_ b).2.1=true then KA_ (VY_ b).1 (VY_ b).1.length else []
def aks_ (i:Nat) (p:PartL):Prop:=(if p.d=true then 0≤p.b∧p.b<i∧(i:Int)≤200 else p.b=0)∧p.x.length≤65536
def ah1_:Nat→List PartL→Prop
 |_,[]=>True
 |i,p::r=>aks_ i p∧ah1_ (i+1) r
def akJ_:Nat→Nat→List PartL→List Nat
 |_,_,[]=> []
 |i,a,p::r=>a::akJ_ (i+1) (a+ (abv_ i p).length) r
theorem w9_ (s:List UInt8):zi_ (qh_ s)=(s,true):=by
 have hl:=wf_ s
 have ht: (qh_ s).take ((qh_ s).length - 4)=s:=by rw[hl,Nat.add_sub_cancel];unfold qh_;rw[List.take_left]
 unfold zi_
 rw[if_neg (by omega),ht,if_pos rfl]
theorem afJ_ (s:List UInt8):w5_ s s.length 0=0:=by unfold w5_;rw[if_neg (by simp),if_neg (by omega)]
end Go.Proofs
end
section
open Go Go.Proofs Go.Sx Go.StP Go.Flo
namespace Go.Proofs
set_option maxRecDepth 10000
set_option maxHeartbeats 400000
set_option linter.unusedSimpArgs false
theorem acP_ {s:List UInt8} {a:Nat} {e:Int} (h:w5_ s a e=0):e=0∧s.length≤a:=by
 unfold w5_ at h
 split at h
 ·rename_i h0;exact absurd h h0
 ·rename_i h0
  split at h
  ·cases h
  ·exact⟨by omega,by omega⟩
end Go.Proofs
end
section
open Go Go.Proofs Go.Sx Go.StP Go.Flo
namespace Go.Proofs
set_option maxRecDepth 10000
set_option maxHeartbeats 400000
set_option linter.unusedSimpArgs false
def magI:List UInt8:= [83,73,88,49]
def rowB (r:RwL):List UInt8:=r.id.l++ (z9_ (zP_ r.place)++z9_ (zP_ r.spot))
def xx_ (l:List RwL):List UInt8:=(l.map rowB).flatten
def JJ_ (F:List Nat):List Int:=F.map fun(n:Nat)=>(n:Int)
def ks_ (F:List Nat):List UInt8:=jR_ (JJ_ F)
def wY_ (s:List UInt8) (l:List RwL):List UInt8:=magI++ (s++ (z9_ (zP_ (l.length:Int))++ (ks_ (xI_ l)++xx_ l)))
def jn_ (s:List UInt8) (l:List RwL):Bool:=Zi_ l l.length&& (decide (s.length=4)&&decide (l.length≤200))
def v1_ (s:List UInt8) (l:List RwL):List UInt8×Int:=if jn_ s l=true then(qh_ (wY_ s l),0) else([],1)
theorem Xv_ {l:List RwL}: ∀ {n j:Nat},Zi_ l n=true→j<n→jo_ (l.getD j rw0)=true∧(j=0∨wO_ (l.getD (j - 1) rw0).id (l.getD j rw0).id<0)
 |0,j,_,h=>absurd h (Nat.not_lt_zero _)
 |n+1,j,h,hj=>by
  unfold Zi_ at h
  simp only[Bool.and_eq_true,Bool.or_eq_true,decide_eq_true_eq] at h
  by_cases e:j=n
  ·subst e;exact⟨h.2,h.1.2⟩
  ·exact Xv_ h.1.1 (by omega)
theorem cmpI_lt {x y:IdL}:wO_ x y<0↔ltB x.l y.l=true:=by
 unfold wO_ WL_
 cases h1:ltB x.l y.l<;>cases h2:ltB y.l x.l<;>simp
theorem cmpI_ge {x y:IdL}:0≤wO_ x y↔ltB x.l y.l=false:=by
 have:=cmpI_lt (x:=x) (y:=y)
 cases h:ltB x.l y.l
 ·rw[h] at this;constructor
  ·intro _;rfl
  ·intro _;exact Int.not_lt.1 fun h'=>by have:=this.1 h';cases this
 ·rw[h] at this;constructor
  ·intro h';have:=this.2 rfl;omega
  ·intro h';cases h'
theorem vG_ {l:List RwL} {n:Nat} (h:Zi_ l n=true) {i:Nat}: ∀ {j:Nat},i<j→j<n→ltB (l.getD i rw0).id.l (l.getD j rw0).id.l=true
 |0,hij,_=>absurd hij (Nat.not_lt_zero _)
 |j+1,hij,hj=>by
  have h2:ltB (l.getD j rw0).id.l (l.getD (j+1) rw0).id.l=true:=by
   rcases(Xv_ h hj).2 with h1|h1
   ·omega
   ·exact cmpI_lt.1 h1
  by_cases e:i=j
  ·subst e;exact h2
  ·exact q1_ (vG_ h (by omega) (by omega)) h2
theorem ka_ {l:List RwL} {i:Nat} (h:i<l.length):l.getD i rw0=l[i]:=by rw[List.getD_eq_getElem?_getD,List.getElem?_eq_getElem h];rfl
theorem Ku_ {l:List RwL} (h:Zi_ l l.length=true):rws_SortOf l l:=by
 refine⟨rfl, ?_,St.refl _ _⟩
 refine List.pairwise_iff_getElem.2 fun i j hi hj hij=> ?_
 have:=vG_ h hij hj
 rw[ka_ hi,ka_ hj] at this
 exact QA_ this
theorem q4_ {s:List UInt8} {l:List RwL} (h:jn_ s l=true):Zi_ l l.length=true∧s.length=4∧l.length≤200:=by
 unfold jn_ at h
 simpa only[Bool.and_eq_true,decide_eq_true_eq] using h
def QX_ (s:List UInt8) (q:Nat×Int):Int×Nat×Int:=zE_ s q.1 q.2 1099511627775
def J1_ (s:List UInt8) (a:Nat) (e:Int):RwL×Nat×Int:=
 (⟨wU_ (idR s a e).1,(QX_ s (idR s a e).2).1,(QX_ s (QX_ s (idR s a e).2).2).1⟩,(QX_ s (QX_ s (idR s a e).2).2).2)
def kJ_ (s:List UInt8):Nat→Nat×Int→List RwL×Nat×Int
 |0,q=>([],q)
 |k+1,q=>((J1_ s q.1 q.2).1:: (kJ_ s k (J1_ s q.1 q.2).2).1,(kJ_ s k (J1_ s q.1 q.2).2).2)
def vP_ (s:List UInt8) (m:Int):Nat→Nat×Int→Nat×Int
 |0,q=>q
 |k+1,q=>vP_ s m k (zE_ s q.1 q.2 m).2
def kl_ (s:List UInt8) (f:Int→Int):List UInt8×List RwL×Nat×Int:=
 ((qz_ s 0 0 8).1.drop 4,kJ_ s (zE_ s (qz_ s 0 0 8).2.1 (qz_ s 0 0 8).2.2 200).1.toNat (vP_ s (f (zE_ s (qz_ s 0 0 8).2.1 (qz_ s 0 0 8).2.2 200).1) 16 (zE_ s (qz_ s 0 0 8).2.1 (qz_ s 0 0 8).2.2 200).2))
theorem adP_ {r:RwL} (h:jo_ r=true): ∃p q:Nat,r.place=p∧r.spot=q∧p≤1099511627775∧q≤1099511627775:=by
 unfold jo_ at h
 simp only[Bool.and_eq_true,Bool.not_eq_true',decide_eq_false_iff_not] at h
 exact⟨r.place.toNat,r.spot.toNat,by omega,by omega,by omega,by omega⟩
theorem agn_ (A x:List UInt8) {r:RwL} (h:jo_ r=true):J1_ (A++ (rowB r++x)) A.length 0=(r,A.length+ (rowB r).length,0):=by
 obtain⟨p,q,hp,hq,p1,q1⟩:=adP_ h
 obtain⟨i,pl,sp⟩:=r
 simp only at hp hq
 subst hp hq
 have e:rowB ⟨i,(p:Int),(q:Int)⟩=i.l++ (z9_ p++z9_ q):=by unfold rowB;rw[qA_ p1,qA_ q1]
 have e2:A++ (rowB ⟨i,(p:Int),(q:Int)⟩++x)=A++ (i.l++ (z9_ p++ (z9_ q++x))):=by rw[e];simp only[List.append_assoc]
 have h1:=abe_ A (z9_ p++ (z9_ q++x)) i
 have h2:=q3_ (A++i.l) (z9_ q++x) p 1099511627775 p1 (by omega)
 have h3:=q3_ (A++ (i.l++z9_ p)) x q 1099511627775 q1 (by omega)
 simp only[List.append_assoc,List.length_append,i.h] at h2 h3
 unfold J1_ QX_
 rw[e2,h1]
 simp only
 rw[h2]
 simp only
 rw[Nat.add_assoc,h3,aeN_,e]
 simp only[List.length_append,i.h,Nat.add_assoc]
theorem Vr_ (x:List UInt8): ∀ (l:List RwL) (A:List UInt8),(∀r,r∈l→jo_ r=true)→kJ_ (A++ (xx_ l++x)) l.length (A.length,0)=(l,A.length+ (xx_ l).length,0)
 | [],A,_=>by simp[kJ_,xx_]
 |r::l,A,h=>by
  have h1:=agn_ A (xx_ l++x) (h r List.mem_cons_self)
  have h2:=Vr_ x l (A++rowB r) fun y hy=>h y (List.mem_cons_of_mem _ hy)
  have e:xx_ (r::l)=rowB r++xx_ l:=by simp[xx_]
  simp only[List.append_assoc,List.length_append] at h2
  rw[List.length_cons,e,List.append_assoc]
  unfold kJ_
  simp only
  rw[h1]
  simp only
  rw[h2,List.length_append,Nat.add_assoc]
theorem KJ_ (x:List UInt8) (m:Int): ∀ (F:List Nat) (A:List UInt8),(∀n,n∈F→(n:Int)≤m∧n≤1099511627775)→vP_ (A++ (ks_ F++x)) m F.length (A.length,0)=(A.length+ (ks_ F).length,0)
 | [],A,_=>by simp[vP_,ks_,JJ_,jR_]
 |n::F,A,h=>by
  obtain⟨h0,h0'⟩:=h n List.mem_cons_self
  have h1:=q3_ A (ks_ F++x) n m h0' h0
  have h2:=KJ_ x m F (A++z9_ n) fun y hy=>h y (List.mem_cons_of_mem _ hy)
  have e:ks_ (n::F)=z9_ n++ks_ F:=by
   have:ks_ (n::F)=z9_ (zP_ (n:Int))++ks_ F:=by simp[ks_,JJ_,jR_]
   rw[this,qA_ h0']
  simp only[List.append_assoc,List.length_append] at h2
  rw[List.length_cons,e,List.append_assoc]
  unfold vP_
  simp only
  rw[h1]
  simp only
  rw[h2,List.length_append,Nat.add_assoc]
theorem ajE_ {l:List RwL} {n:Nat} (h:n∈xI_ l):n≤l.length:=by
 unfold xI_ at h
 obtain⟨d,-,rfl⟩:=List.mem_map.1 h
 exact List.countP_le_length
theorem ae0_ {s:List UInt8} {l:List RwL} (f:Int→Int) (h:jn_ s l=true) (hf: (l.length:Int)≤f l.length):kl_ (wY_ s l) f=(s,l,(wY_ s l).length,0):=by
 obtain⟨h1,h2,h3⟩:=q4_ h
 have hr: ∀r,r∈l→jo_ r=true:=fun r hr=>by
  obtain⟨j,hj,rfl⟩:=List.getElem_of_mem hr
  rw[←ka_ hj]
  exact(Xv_ h1 hj).1
 have hn:zP_ (l.length:Int)=l.length:=qA_ (by omega)
 have e:wY_ s l=(magI++s)++ (z9_ l.length++ (ks_ (xI_ l)++xx_ l)):=by unfold wY_;rw[hn];simp only[List.append_assoc]
 have h8: (magI++s).length=8:=by rw[List.length_append,h2];rfl
 have a1:=kP_ [] (magI++s) (z9_ l.length++ (ks_ (xI_ l)++xx_ l))
 have a2:=q3_ (magI++s) (ks_ (xI_ l)++xx_ l) l.length 200 (by omega) (by omega)
 have a3:=KJ_ (xx_ l) (f l.length) (xI_ l) ((magI++s)++z9_ l.length) fun n hn'=>by have:=ajE_ hn';omega
 have a4:=Vr_ [] l ((magI++s)++ (z9_ l.length++ks_ (xI_ l))) hr
 rw[List.nil_append,List.length_nil,Nat.zero_add,h8] at a1
 rw[h8] at a2
 rw[k7_] at a3
 simp only[List.append_assoc,List.length_append,List.append_nil] at a1 a2 a3 a4 h8 e
 unfold kl_
 rw[e]
 rw[show((8:Nat):Int)=8 from rfl] at a1
 rw[a1]
 show(List.drop 4 (magI++s),kJ_ _ (zE_ _ 8 0 200).1.toNat (vP_ _ (f (zE_ _ 8 0 200).1) 16 (zE_ _ 8 0 200).2))=_
 rw[a2]
 simp only[Int.toNat_natCast]
 rw[←Nat.add_assoc,h8] at a3 a4
 rw[a3,Nat.add_assoc,a4]
 refine Prod.ext ?_ (Prod.ext rfl (Prod.ext ?_ rfl))
 ·show(magI++s).drop 4=s
  rw[show(4:Nat)=magI.length from rfl,List.drop_left]
 ·simp only[List.length_append];omega
def j3_ (b:List UInt8):Option (List UInt8×List RwL):=
 if w5_ (zi_ b).1 (kl_ (zi_ b).1 id).2.2.1 (kl_ (zi_ b).1 id).2.2.2=0∧jn_ (kl_ (zi_ b).1 id).1 (kl_ (zi_ b).1 id).2.1=true∧qh_ (wY_ (kl_ (zi_ b).1 id).1 (kl_ (zi_ b).1 id).2.1)=b then some ((kl_ (zi_ b).1 id).1,(kl_ (zi_ b).1 id).2.1) else none
theorem openI_iff {b s:List UInt8} {l:List RwL}:j3_ b=some (s,l)↔jn_ s l=true∧b=qh_ (wY_ s l):=by
 unfold j3_
 constructor
 ·intro h
  split at h
  ·rename_i hc
   simp only[Option.some.injEq,Prod.mk.injEq] at h
   obtain⟨rfl,rfl⟩:=h
   exact⟨hc.2.1,hc.2.2.symm⟩
  ·cases h
 ·rintro⟨h1,rfl⟩
  rw[w9_,ae0_ id h1 (Int.le_refl _)]
  simp only
  rw[if_pos ⟨afJ_ _,h1,by trivial⟩]
theorem Ww_ {s:List UInt8} {l:List RwL} (h:jn_ s l=true):j3_ (qh_ (wY_ s l))=some (s,l):=openI_iff.2 ⟨h,rfl⟩
def ano_ (b:List UInt8):Prop:=(zi_ b).2=true∧8≤ (zi_ b).1.length∧w5_ (zi_ b).1 (kl_ (zi_ b).1 fun _=>200).2.2.1 (kl_ (zi_ b).1 fun _=>200).2.2.2=0∧jn_ (kl_ (zi_ b).1 fun _=>200).1 (kl_ (zi_ b).1 fun _=>200).2.1=true∧qh_ (wY_ (kl_ (zi_ b).1 fun _=>200).1 (kl_ (zi_ b).1 fun _=>200).2.1)=b
def xj_ (l:List RwL) (x:IdL):RwL×Bool:=match l.find? (fun r=>r.id.l==x.l) with
 |some r=>(r,true)
 |none=>(rw0,false)
theorem afk_ {x y:IdL} (h:x.l=y.l):x=y:=by cases x;cases y;simp only at h;subst h;rfl
theorem agu_ {x y:IdL} (h:ltB x.l y.l=true):zO_ x≤zO_ y:=by
 rw[Zg_,decide_eq_true_eq] at h
 have hx:=x.h
 have hy:=y.h
 unfold zO_
 cases hl:x.l with
 |nil=>rw[hl] at hx;cases hx
 |cons a r=>
  cases hm:y.l with
  |nil=>rw[hm] at hy;cases hy
  |cons b t=>
   rw[hl,hm] at h
   simp only[List.getD_cons_zero]
   rcases List.cons_lt_cons_iff.1 h with h| ⟨rfl,-⟩
   ·exact Nat.div_le_div_right (Nat.le_of_lt (UInt8.lt_iff_toNat_lt.1 h))
   ·exact Nat.le_refl _
theorem KB_ {p:RwL→Bool}: ∀ (l:List RwL),(∀i j,i<j→j<l.length→p (l.getD j rw0)=true→p (l.getD i rw0)=true)→ ∀j,j<l.length→(j<l.countP p↔p (l.getD j rw0)=true)
 | [],_,j,h=>absurd h (Nat.not_lt_zero _)
 |r::l,hm,j,hj=>by
  have ih:=KB_ l fun i j hij hj hp=>by
   have:=hm (i+1) (j+1) (by omega) (by simpa using hj)
   simp only[List.getD_cons_succ] at this
   exact this hp
  rw[List.countP_cons]
  cases hr:p r with
  |true=>
   rw[if_pos rfl]
   cases j with
   |zero=>simp only[List.getD_cons_zero];exact⟨fun _=>hr,fun _=>by omega⟩
   |succ j=>
    rw[List.getD_cons_succ,←ih j (by simpa using hj)]
    omega
  |false=>
   rw[if_neg (by simp)]
   have hall: ∀j,j< (r::l).length→p ((r::l).getD j rw0)=false:=fun j hj=>by
    cases j with
    |zero=>exact hr
    |succ j=>
     cases hp:p ((r::l).getD (j+1) rw0) with
     |false=>rfl
     |true=>have:=hm 0 (j+1) (by omega) hj hp;rw[List.getD_cons_zero,hr] at this;cases this
   have h0:l.countP p=0:=by
    rw[List.countP_eq_zero]
    intro a ha
    obtain⟨i,hi,rfl⟩:=List.getElem_of_mem ha
    have:=hall (i+1) (by simpa using hi)
    rw[List.getD_cons_succ,ka_ hi] at this
    rw[this];simp
   rw[h0,hall j hj]
   simp
theorem ahV_ {l:List RwL} (h:Zi_ l l.length=true) (d:Nat) {j:Nat} (hj:j<l.length):j<xM_ l d↔zO_ (l.getD j rw0).id≤d:=by
 unfold xM_
 rw[KB_ l (fun i k hik hk hp=> ?_) j hj]
 ·simp
 ·simp only[decide_eq_true_eq] at hp ⊢
  exact Nat.le_trans (agu_ (vG_ h hik hk)) hp
def qS_ (l:List RwL) (d:Nat):Nat:=if d=0 then 0 else xM_ l (d - 1)
theorem aiu_ {l:List RwL} (d:Nat):qS_ l d≤xM_ l d:=by
 unfold qS_
 split
 ·exact Nat.zero_le _
 ·unfold xM_
  refine List.countP_mono_left fun r _ h=> ?_
  simp only[decide_eq_true_eq] at h ⊢
  omega
theorem afs_ (l:List RwL) (d:Nat):xM_ l d≤l.length:=List.countP_le_length
theorem aiH_ {l:List RwL} (h:Zi_ l l.length=true) (x:IdL) {at_:Nat} (h1:qS_ l (zO_ x)≤at_) (h2:at_≤xM_ l (zO_ x)) (h3:at_=qS_ l (zO_ x)∨ltB (l.getD (at_ - 1) rw0).id.l x.l=true) (h4:at_=xM_ l (zO_ x)∨ltB (l.getD at_ rw0).id.l x.l=false):
  xj_ l x=if at_≠xM_ l (zO_ x)∧(l.getD at_ rw0).id.l=x.l then(l.getD at_ rw0,true) else(rw0,false):=by
 have hln:=afs_ l (zO_ x)
 have key: ∀j,j<l.length→(l.getD j rw0).id.l=x.l→j=at_∧at_≠xM_ l (zO_ x):=by
  intro j hj e
  have e': (l.getD j rw0).id=x:=afk_ e
  have b1:j<xM_ l (zO_ x):=(ahV_ h _ hj).2 (by rw[e'];exact Nat.le_refl _)
  have b2:qS_ l (zO_ x)≤j:=by
   unfold qS_
   split
   ·exact Nat.zero_le _
   ·rename_i hd
    refine Nat.le_of_not_lt fun hlt=> ?_
    have:=(ahV_ h (zO_ x - 1) hj).1 hlt
    rw[e'] at this
    omega
  rcases Nat.lt_trichotomy j at_ with hlt|rfl|hlt
  ·rcases h3 with h3|h3
   ·omega
   ·by_cases e2:j=at_ - 1
    ·subst e2;rw[e,qp_] at h3;cases h3
    ·have:=vG_ h (show j<at_ - 1 by omega) (by omega)
     rw[e] at this
     have:=q1_ this h3
     rw[qp_] at this;cases this
  ·exact⟨rfl,by omega⟩
  ·rcases h4 with h4|h4
   ·omega
   ·have:=vG_ h hlt hj
    rw[e,h4] at this;cases this
 unfold xj_
 by_cases hc:at_≠xM_ l (zO_ x)∧(l.getD at_ rw0).id.l=x.l
 ·rw[if_pos hc]
  have hat:at_<l.length:=by omega
  have hm:l.getD at_ rw0∈l:=by rw[ka_ hat];exact List.getElem_mem hat
  cases hf:l.find? (fun r=>r.id.l==x.l) with
  |none=>
   have:=List.find?_eq_none.1 hf _ hm
   rw[hc.2] at this
   exact absurd (beq_self_eq_true x.l) this
  |some r=>
   have h5:=List.find?_some hf
   obtain⟨j,hj,rfl⟩:=List.getElem_of_mem (List.mem_of_find?_eq_some hf)
   rw[←ka_ hj] at h5 ⊢
   have:=(key j hj (by simpa using h5)).1
   subst this;rfl
 ·rw[if_neg hc]
  cases hf:l.find? (fun r=>r.id.l==x.l) with
  |none=>rfl
  |some r=>
   have h5:=List.find?_some hf
   obtain⟨j,hj,rfl⟩:=List.getElem_of_mem (List.mem_of_find?_eq_some hf)
   rw[←ka_ hj] at h5
   have h6:=key j hj (by simpa using h5)
   refine absurd ⟨h6.2, ?_⟩ hc
   rw[←h6.1];simpa using h5
end Go.Proofs
end
section
open Go Go.Proofs Go.Sx Go.StP Go.Flo
namespace Go.Proofs
set_option maxRecDepth 10000
set_option maxHeartbeats 400000
set_option linter.unusedSimpArgs false
theorem ads_ {D:za_} {E:TypeId} {m n:Nat} {v:Value} {cs:List Value} (h:GrI D E m v n cs) (x:Bool×Nat):Ke_ (.sl x) v=some (vi n):=by
 obtain⟨X,-,h⟩:=h;exact h.len x
structure FiG where
 k:Nat
 ids:List IdL
 os:List ObL
 x2:Value
 x3:Value
 D2:za_
 D3:za_
 DG:za_
set_option linter.defProp false
def anp_:=And.intro (And.intro (And.intro (@ze_) (@zd_)) (And.intro (@Sx.tup2_0) (@Sx.tup2_1))) (And.intro (And.intro (@qv_) (@z4_)) (And.intro (@z6_) (And.intro (@qb_) (@qH_))))
end Go.Proofs
end
section
open Go Go.Proofs Go.Sx Go.StP Go.Flo
namespace Go.Proofs
set_option maxRecDepth 10000
set_option maxHeartbeats 400000
set_option linter.unusedSimpArgs false
def wrO (s:List UInt8) (a:Nat) (e:Int):Obj:= .cells #[vs s,vi a,vi e] 110 (0,0)
theorem aad_ (p:PartL) (E:TypeId) (a:Bool) (x:Bool):zl_ (some (a,1)) (some (.cells (x5_ p).toArray E (0,0))) 0 (.bool x)=some (.cells (x5_ ⟨x,p.b,p.x⟩).toArray E (0,0)):=(rfl)
theorem WU_ (p:PartL) (E:TypeId) (a:Bool) (x:Int):zl_ (some (a,1)) (some (.cells (x5_ p).toArray E (0,0))) 1 (vi x)=some (.cells (x5_ ⟨p.d,x,p.x⟩).toArray E (0,0)):=(rfl)
theorem vb_ (p:PartL) (E:TypeId):zn_ (some (true,3)) (some (.cells (x5_ p).toArray E (0,0))) 0=some (.agg (x5_ p).toArray):=x8_ (n:=3) [] (x5_ p) [] E (0,0) rfl rfl
theorem wN_ (b:Nat) (s:List UInt8) (a:Nat) (e n:Int) (w:World) (ha:a≤s.length) (hs:s.length<9223372036854775808) (ho:w.heap[b]? =some (wrO s a e)):
  Rets Tryd.prog 24 #[vp b 0,vi n] w (fun v D=> ∃o,D= [(b,o)]∧v=vs (qz_ s a e n).1∧o=wrO s (qz_ s a e n).2.1 (qz_ s a e n).2.2):=ZK_ b s a e n w ha hs ho
theorem z5_ (b:Nat) (s:List UInt8) (a:Nat) (e most:Int) (w:World) (ha:a≤s.length) (hs:s.length<9223372036854775808) (ho:w.heap[b]? =some (wrO s a e)):
  Rets Tryd.prog 25 #[vp b 0,vi most] w (fun v D=> ∃o,D= [(b,o)]∧v=vi (zE_ s a e most).1∧o=wrO s (zE_ s a e most).2.1 (zE_ s a e most).2.2):=Zl_ b s a e most w ha hs ho
theorem Wd_ (b:Nat) (s:List UInt8) (a:Nat) (e most:Int) (w:World) (ha:a≤s.length) (hs:s.length<9223372036854775808) (ho:w.heap[b]? =some (wrO s a e)):
  Rets Tryd.prog 26 #[vp b 0,vi most] w (fun v D=> ∃o,D= [(b,o)]∧v=vs (qe_ s a e most).1∧o=wrO s (qe_ s a e most).2.1 (qe_ s a e most).2.2):=acp_ b s a e most w ha hs ho
set_option linter.defProp false
def anC_:=And.intro (And.intro (And.intro (@ze_) (And.intro (@zd_) (@Sx.tup2_0))) (And.intro (@Sx.tup2_1) (And.intro (@qX_) (@qU_)))) (And.intro (And.intro (@qT_) (And.intro (@vb_) (@qB_))) (And.intro (@Xf_) (And.intro (@aad_) (@WU_))))
structure RdG where
 lab:Nat
 l:List PartL
 sp:List Nat
 a:Nat
 e:Int
 v1:Value
 v2:Value
 b4:Nat
 q:PartL
 D1:za_
 D2:za_
 DG:za_
def RdL (g:RdG):Nat:=match g.lab with
 |1=>1
 |_=>0
end Go.Proofs
end
section
open Go Go.Proofs Go.Sx Go.StP Go.Flo
namespace Go.Proofs
set_option maxRecDepth 10000
set_option maxHeartbeats 400000
set_option linter.unusedSimpArgs false
abbrev amz_ (w:World) (v:Value) (l:List Nat):Prop:=SlV 1 natC 0 w v l
abbrev ObSl (w:World) (v:Value) (l:List ObL):Prop:=SlV 2 obC ob0 w v l
set_option linter.defProp false
def amO_:=And.intro (And.intro (@ze_) (And.intro (@zd_) (@qv_))) (And.intro (And.intro (@z4_) (@z6_)) (And.intro (@qb_) (@qH_)))
def hasV (l:List PartL) (i:Int):Bool:=decide (0≤i)&&decide (i< (l.length:Int))
end Go.Proofs
end
section
open Go Go.Proofs Go.Sx Go.StP Go.Flo
namespace Go.Proofs
set_option maxRecDepth 10000
set_option maxHeartbeats 400000
set_option linter.unusedSimpArgs false
theorem zQ_ {w0:World} {L X D:za_} (hC:Came w0 L X D) (hX:New w0.heap.size X):New w0.heap.size D:=New.of_le fun c hc=>by
 rcases hC.new c hc with h| ⟨-,h⟩
 ·exact hX.le c h
 ·exact h
theorem GlobC.newP {w0 w:World} {L:za_} (hg:GlobC w0) (h:Hp w0 L w) (hn:New w0.heap.size L):GlobC w:=
 hg.of h (hn.not (by obtain⟨e,f,h⟩:=hg;exact(Array.getElem?_eq_some_iff.1 h).1))
def alW_ (l:List PartL):Prop:= ∀g,g<l.length→(l.getD g wS_).x.length≤17000000
structure PwG where
 k:Nat
 D:za_
set_option linter.defProp false
def amW_:=And.intro (And.intro (And.intro (@ze_) (@zd_)) (And.intro (@qX_) (And.intro (@qU_) (@qT_)))) (And.intro (And.intro (@vb_) (@qB_)) (And.intro (@Xf_) (And.intro (@Sx.tup2_0) (@Sx.tup2_1))))
end Go.Proofs
end
namespace Go.Sx
open Go
def tmpR:ResultVar→Bool
 | .tmp _=>true
 | .cell _ _=>false
theorem Z2_ {P:Program} {w0 w1:World} {L M:za_} {f:Fr}: ∀ {rs:List ResultVar},rs.all tmpR=true→xU_ P w0 L f rs=xU_ P w1 M f rs
 | [],_=>rfl
 | .tmp t::r,h=>by
  simp only[List.all_cons,Bool.and_eq_true] at h
  rw[k9_,k9_,Z2_ (w1:=w1) (M:=M) h.2];rfl
 | .cell a t::r,h=>by simp[tmpR] at h
theorem Hp.later {w0 w1 w2:World} {L D:za_} (h:Hp w0 L w1) (k:Hp w1 D w2) (hD:New w1.heap.size D):Hp w0 (L++D) w2:=
 Mrg.fresh hD.le w1 w2 rfl h k
theorem Cw.rebase {P:Program} {w0:World} {c:Code} {f:Fr} {L:za_} {K:j1_} {K1:World→j1_} (h: ∀w1,Hp w0 L w1→Cw P w1 c f [] (K1 w1)) (hK: ∀w1 e f D,Hp w0 L w1→K1 w1 e f D→New w1.heap.size D∧K e f (L++D)):Cw P w0 c f L K:=by
 intro w hw
 refine wp_mono (h w hw w (Hp.refl w)) ?_
 rintro e a w' ⟨hd,D,hp,hk⟩
 obtain⟨h1,h2⟩:=hK w e _ D hw hk
 exact⟨hd,L++D,hw.later hp h1,h2⟩
theorem Cw.rebaseV {P:Program} {w0:World} {c:Code} {f:Fr} {L:za_} {rs:List ResultVar} {S:Value→Prop} (hN:New w0.heap.size L) (ht:rs.all tmpR=true)
  (h: ∀w1,Hp w0 L w1→Cw P w1 c f [] (retV P w1 rs S)):Cw P w0 c f L (retV P w0 rs S):=by
 refine Cw.rebase (K1:=fun w1=>retV P w1 rs S) h ?_
 intro w1 e f D hw hk
 have key: (∃vs,xU_ P w1 D f rs=some vs∧New w1.heap.size D∧S (wv_ vs))→New w1.heap.size D∧ ∃vs,xU_ P w0 (L++D) f rs=some vs∧New w0.heap.size (L++D)∧S (wv_ vs):=by
  rintro⟨vs,h1,h2,h3⟩
  exact⟨h2,vs,by rw[Z2_ (w1:=w1) (M:=D) ht];exact h1,hN.app (h2.mono hw.size),h3⟩
 cases e<;>first
  |exact key hk
  |exact hk.elim
theorem Cw.rebaseX {P:Program} {w0:World} {c:Code} {f:Fr} {L X:za_} {rs:List ResultVar} {S S1:Value→za_→Prop} (ht:rs.all tmpR=true)
  (h: ∀w1,Hp w0 L w1→Cw P w1 c f [] (retK P w1 rs (XS w1 [] S1))) (hS: ∀v D,New w0.heap.size D→S1 v D→XS w0 X S v (L++D)):Cw P w0 c f L (retK P w0 rs (XS w0 X S)):=by
 refine Cw.rebase (K1:=fun w1=>retK P w1 rs (XS w1 [] S1)) h ?_
 intro w1 e f D hw hk
 have key: (∃vs,xU_ P w1 D f rs=some vs∧XS w1 [] S1 (wv_ vs) D)→New w1.heap.size D∧ ∃vs,xU_ P w0 (L++D) f rs=some vs∧XS w0 X S (wv_ vs) (L++D):=by
  rintro⟨vs,h1,h2,h3⟩
  exact⟨h2.new0,vs,by rw[Z2_ (w1:=w1) (M:=D) ht];exact h1,hS _ D (h2.new0.mono hw.size) h3⟩
 cases e<;>first
  |exact key hk
  |exact hk.elim
theorem Ow.world {P:Program} {w0:World} {ops:Array Oper} {l:List Oper} {f:Fr} {L:za_} {N:Fr→za_→Prop} (h: ∀w,Hp w0 L w→Ow P w0 ops .seq l f L N):Ow P w0 ops .seq l f L N:=fun w hw=>h w hw w hw
theorem Rets.chunk {P:Program} {k:FuncId} {args:Array Value} {w:World} {S:Value→Obj→Prop} {X:za_} {b:Nat} (hX: ∀p,p∈X→w.heap[p.1]? =some p.2) (hn: (keys X).Nodup) (hb:b∈keys X)
  (h:Rets P k args w (fun v D=> ∃o,D= [(b,o)]∧S v o)):Rets P k args w (XS w X (fun v D=> ∃o,D=setB X b o∧S v o)):=
 Calls.mono h fun e w' ⟨v,D,he,hp,o,hD,hS⟩=>⟨v,setB X b o,he,by subst hD;exact Mrg.set hb w w' rfl ((Hp.refl w).ownX hX hn) hp,(Ext.refl w X).setB,o,rfl,hS⟩
theorem Rets.chunkV {P:Program} {k:FuncId} {args:Array Value} {w:World} {S:Value→Prop} {X:za_} (hX: ∀p,p∈X→w.heap[p.1]? =some p.2) (hn: (keys X).Nodup)
  (h:Rets P k args w (fun v D=>S v∧D= [])):Rets P k args w (XS w X (fun v D=>D=X∧S v)):=
 Calls.mono h fun e w' ⟨v,D,he,hp,hS,hD⟩=>⟨v,X,he,by subst hD;exact((Hp.refl w).ownX hX hn).trans_nil hp,Ext.refl w X,rfl,hS⟩
theorem Rets.toX {P:Program} {k:FuncId} {a:Array Value} {w:World} {S:Value→Prop} (h:Rets P k a w (fun v D=>S v∧D= [])):Rets P k a w (XS w [] (fun v D=>D= []∧S v)):=
 h.mono fun v D ⟨h1,h2⟩=>⟨by subst h2;exact Ext.refl w [],h2,h1⟩
theorem Gr.rowL {α:Type} {m:Nat} {enc:α→List Value} {z:α} {w0 w:World} {v:Value} {l:List α} {L:za_} {E:TypeId} {n:Nat} (h:Gr L E m v n (l.map enc).flatten) (hn:l.length=n) (hw:Hp w0 L w) (hm: ∀x,(enc x).length=m):
  ∃b off arr F fz,RowS m enc z w v l b off arr F fz∧(0<l.length→look L b=some (.cells arr F fz)):=by
 obtain⟨b,off,c,arr,F,fz,hr,hc,⟨rfl,rfl,rfl⟩ | ⟨rfl,hb,hsz⟩⟩:=h.slV (z:=z) hw hn rfl hm
 ·exact⟨b,off,arr,F,fz,hr,fun h0=>absurd h0 (by simp)⟩
 ·refine⟨b,off,arr,F,fz,hr,fun _=> ?_⟩
  obtain⟨o,ho⟩:=abg_ (h.key (b:=b) rfl)
  have:=hw.has _ _ (zF_ ho)
  rw[hb] at this
  rw[ho,this]
theorem GrI.rowL {α:Type} {m:Nat} {enc:α→List Value} {z:α} {w0 w:World} {v:Value} {l:List α} {D:za_} {E:TypeId} {n:Nat} (h:GrI D E m v n (l.map enc).flatten) (hn:l.length=n) (hw:Hp w0 D w) (hm: ∀x,(enc x).length=m):
  ∃b off arr F fz,RowS m enc z w v l b off arr F fz∧(0<l.length→look D b=some (.cells arr F fz)):=by
 obtain⟨X,hX,h⟩:=h
 obtain⟨b,off,c,arr,F,fz,hr,hc,⟨rfl,rfl,rfl⟩ | ⟨rfl,hb,hsz⟩⟩:=h.slM (z:=z) (fun b o hm=>hw.has b o (hX _ hm)) hn rfl hm
 ·exact⟨b,off,arr,F,fz,hr,fun h0=>absurd h0 (by simp)⟩
 ·refine⟨b,off,arr,F,fz,hr,fun _=> ?_⟩
  obtain⟨o,ho⟩:=abg_ (h.key (b:=b) rfl)
  have hm:=hX _ (zF_ ho)
  have:=hw.has _ _ hm
  rw[hb] at this
  rw[vJ_ hw.nodup hm,this]
end Go.Sx
section
open Go Go.Proofs Go.Sx Go.StP Go.Flo
namespace Go.Proofs
set_option maxRecDepth 10000
set_option maxHeartbeats 400000
set_option linter.unusedSimpArgs false
set_option linter.defProp false
def Q4_:=And.intro (@ze_) (@zd_)
theorem aaU_ (b o n c:Nat):qC_ Tryd.prog .eql 50 (vsl b o n c) (.slice none 0 0)=some (.bool false):=by
 simp[qC_,eqX,qy_,qg_,Tryd.underlying50,vsl]
theorem XH_:qC_ Tryd.prog .eql 50 (.slice none 0 0) (.slice none 0 0)=some (.bool true):=by
 simp[qC_,eqX,qy_,qg_,Tryd.underlying50]
theorem w4_ (v:Value) (ls:List RwL) (w:World) (hv:RwSl w v ls) (hl:ls.length<1000000):
  Rets Tryd.prog 37 #[v] w (XS w [] (fun v D=>Gr D 45 34 v ls.length (ls.map rwC).flatten)):=by
 obtain⟨b,off,c,arr,E,fz,hr,hc,⟨rfl,rfl,rfl⟩ | ⟨rfl,hb,hsz⟩⟩:=hv
 ·refine Rets.enterX Tryd.func37 rfl (rs:= [.tmp 2]) Tryd.results37 Tryd.ntmps37 (fun p hp=>by cases hp) (by simp[keys]) ?_
  refine kf ?_
  first|with_reducible refine ks [] (And.intro @Q4_ (And.intro @aaU_ (@XH_))) ?_|refine kp (And.intro @Q4_ (And.intro @aaU_ (@XH_))) ?_
  refine⟨_,(ke @Q4_), ?_⟩
  exact⟨Ext.refl _ _,Gr.nl⟩
 ·have hbl:=(Array.getElem?_eq_some_iff.1 hb).1
  have hv:RwSl w (vsl b off ls.length c) ls:=⟨b,off,c,arr,E,fz,hr,hc, .inr ⟨rfl,hb,hsz⟩⟩
  refine Rets.enterX Tryd.func37 rfl (rs:= [.tmp 2]) Tryd.results37 Tryd.ntmps37 (fun p hp=>by cases hp) (by simp[keys]) ?_
  refine kf ?_
  first|with_reducible refine ks [] (And.intro @Q4_ (And.intro @aaU_ (@XH_))) ?_|refine kp (And.intro @Q4_ (And.intro @aaU_ (@XH_))) ?_
  refine Ow.buildSlice (e:=45) #[] rfl rfl (by kernel_rfl) fun b1 hb1 hw1=> ?_
  refine ko @Q4_ ?_
  refine Ow.appendG (e:=45) (k:=ls.length) (new:=(ls.map rwC).flatten) (vsl b1 0 0 0) rfl rfl rfl Tryd.underlying50 Tryd.ag45 (by kernel_rfl) zrRw (by rw[qQ_,List.size_toArray,z1_]) Tryd.underlying50 (by intro k h;cases h) (.inr ⟨rfl,rfl,b1,rfl,vp_ hb1⟩) (fun w' hw'=>(hv.oldN hw' ⟨hw1,trivial⟩).appX z1_ Xl_) (ki_ z1_ ls) (by omega) (fun v2 L2 hB hB2 hG hS=> ?_)
  rw[Nat.zero_add,List.nil_append] at hB
  refine ko @Q4_ ?_
  first|with_reducible refine ks [] @Q4_ ?_|refine kp @Q4_ ?_
  refine⟨_,(ke @Q4_), ?_⟩
  exact⟨((Ext.refl w []).app (o:=Obj.cells #[] 45 (0,0)) hw1).grew hG,hB⟩
theorem aei_ (v:Value) (X:za_) (l:List RwL) (w:World) (hG:Gr X 45 34 v l.length (l.map rwC).flatten) (hX: ∀p,p∈X→w.heap[p.1]? =some p.2) (hn: (keys X).Nodup) (hl:l.length<1000000):
  Rets Tryd.prog 38 #[v,qo_] w (XS w X (fun v' D=>v'= .tuple #[]∧ ∃Z,rws_SortOf l Z∧Gr D 45 34 v l.length (Z.map rwC).flatten)):=by
 rcases hG with hS| ⟨h0,h1,rb,rfl,hlk⟩
 ·rcases hS.inv with⟨rfl,h0,h1⟩ | ⟨rb,c,rest,rfl,hlk,-,hc,hc0,hr⟩
  ·obtain rfl:l= []:=List.eq_nil_of_length_eq_zero h0
   refine(Rets.chunkV hX hn (wk_ w)).mono ?_
   rintro v' D ⟨hE,rfl,hv⟩
   exact⟨hE,hv,[],⟨rfl,List.Pairwise.nil,StP.St.refl _ _⟩,Gr.nl⟩
  ·refine(Rets.chunk hX hn (zo_ hlk) (xg_ rb l.length c l rest w rfl hl (hX _ (zF_ hlk)))).mono ?_
   rintro v' D ⟨hE,o,rfl,hv,Z,rfl,z1,z2,z3⟩
   refine⟨hE,hv,Z,⟨z1,z2,z3⟩, .inl ?_⟩
   rw[←z1]
   exact Buf.at_ (q0_ hlk) (by rw[ki_ z1_]) (by rw[z1];exact hr) (by omega) hc0
 ·obtain rfl:l= []:=List.eq_nil_of_length_eq_zero h0
  refine(Rets.chunk hX hn (zo_ hlk) (xg_ rb 0 0 [] [] w rfl (by omega) (hX _ (zF_ hlk)))).mono ?_
  rintro v' D ⟨hE,o,rfl,hv,Z,rfl,z1,z2,z3⟩
  obtain rfl:Z= []:=List.eq_nil_of_length_eq_zero z1
  exact⟨hE,hv,[],⟨rfl,List.Pairwise.nil,StP.St.refl _ _⟩, .inr ⟨rfl,rfl,rb,rfl,q0_ hlk⟩⟩
theorem JW_ (l:List RwL) {g:Nat} (h:g<l.length):xx_ (l.take (g+1))=xx_ (l.take g)++rowB (l.getD g rw0):=by
 rw[StP.take_snoc (z:=rw0) h];simp[xx_]
theorem abE_ (r:RwL): (rowB r).length≤44:=by
 have h1:=zm_ r.place
 have h2:=zm_ r.spot
 have h3:=r.id.h
 unfold rowB
 rw[List.length_append,List.length_append];omega
theorem Z8_ (l:List RwL): ∀g,g≤l.length→(xx_ (l.take g)).length≤g*44
 |0,_=>by simp[xx_]
 |g+1,h=>by
  rw[JW_ l h,List.length_append]
  have:=Z8_ l g (by omega)
  have:=abE_ (l.getD g rw0)
  omega
theorem ZP_: ∀ (l:List Int),(jR_ l).length≤l.length*6
 | []=>by simp[jR_]
 |n::l=>by
  have h1:=ZP_ l
  have h2:=zm_ n
  have e:jR_ (n::l)=z9_ (zP_ n)++jR_ l:=by simp[jR_]
  rw[e,List.length_append,List.length_cons];omega
theorem kx_ (F:List Nat): (JJ_ F).length=F.length:=by simp[JJ_]
theorem ahZ_ {w:World} {b:Nat} {s:List UInt8} {v1:Value} {F:List Nat} (h:w.heap[b]? =some (ixO s v1 F)) (c:Nat):OneS vi 0 w (vsl b 2 F.length c) (JJ_ F) b 2 ([vs s,v1]++ (F.map fun(n:Nat)=>vi (n:Int))).toArray 78 (0,0):=by
 refine OneS.sl (by rw[kx_]) h fun k hk=> ?_
 rw[kx_] at hk
 rw[List.getElem?_toArray,List.getElem?_append_right (by simp),show 2+k - [vs s,v1].length=k from by simp,List.getElem?_map,List.getElem?_eq_getElem hk]
 unfold JJ_
 rw[List.getD_eq_getElem?_getD,List.getElem?_map,List.getElem?_eq_getElem hk];rfl
structure IwG where
 k:Nat
 D:za_
set_option linter.defProp false
def zZ_:=And.intro (And.intro (And.intro (@ze_) (@zd_)) (And.intro (@qQ_) (And.intro (@kg_) (@vc_)))) (And.intro (And.intro (@k0_) (@vj_)) (And.intro (@q6_) (And.intro (@Sx.tup2_0) (@Sx.tup2_1))))
theorem QT_ (s:List UInt8) (v:Value) (l:List RwL) (w:World) (hC:GlobC w) (hv:RwSl w v l) (hl:l.length<1000000) (_hs:s.length<1099511627776):
  Rets Tryd.prog 12 #[vs s,v] w (fun v' D=>(∃Z,rws_SortOf l Z∧v'= .tuple #[vs (v1_ s Z).1,vi (v1_ s Z).2])∧D= []):=by
 refine Rets.enterV Tryd.func12 rfl (rs:= [.tmp 4, .tmp 5]) Tryd.results12 Tryd.ntmps12 ?_
 refine kf ?_
 first|with_reducible refine ks [1000006] @zZ_ ?_|refine kp @zZ_ ?_
 refine Ow.callX (Y:= []) (by simp) rfl rfl Tryd.call37 (fun w' hw' hX hn=>w4_ v l w' (hv.oldN hw' trivial) hl) (fun v12 D12 hC12 hS12=> ?_)
 have hN12:New w.heap.size D12:=zQ_ hC12 trivial
 rw[List.append_nil]
 refine ko @zZ_ ?_
 first|with_reducible refine ks [] @zZ_ ?_|refine kp @zZ_ ?_
 refine Ow.callX (Y:= []) (by simp) rfl rfl Tryd.call38 (fun w' hw' hX hn=>aei_ v12 D12 l w' hS12 hX hn hl) (fun v14 D14 hC14 hS14=> ?_)
 obtain⟨rfl,Z,hZ,hG⟩:=hS14
 have hN14:New w.heap.size D14:=zQ_ hC14 hN12
 have hZl:=hZ.1
 rw[List.append_nil]
 refine ko @zZ_ ?_
 first|with_reducible refine ks [] @zZ_ ?_|refine kp @zZ_ ?_
 refine Ow.callC rfl rfl Tryd.call31 (fun w' hw'=>abt_ s v12 Z w' (hG.slV hw' hZl rfl z1_) (by omega)) (fun B1 v18 D18 hA18 hB18 hN18 hS18=> ?_)
 have hN:New w.heap.size (D14++D18):=hN14.app (hN18.mono hB18)
 unfold OfIS at hS18
 by_cases hok:Zi_ Z Z.length=true
 ·rw[if_pos hok] at hS18
  obtain⟨bi,rfl,hbi⟩:=hS18
  have hri: (decide (s.length=4)&&decide (Z.length≤200))=jn_ s Z:=by unfold jn_;rw[hok,Bool.true_and]
  rw[hri]
  cases hr:jn_ s Z with
  |false=>
   refine ko @zZ_ ?_
   first|with_reducible refine ks [] @zZ_ ?_|refine kp @zZ_ ?_
   refine⟨_,(ke @zZ_),hN, ?_⟩
   exact⟨Z,hZ,by unfold v1_;rw[hr];rfl⟩
  |true=>
   obtain⟨-,hs4,hl2⟩:=q4_ hr
   refine ko @zZ_ ?_
   refine Cw.rebaseV hN (by rfl) fun w1 hw1=> ?_
   have hC1:=hC.newP hw1 hN
   have hb1:w1.heap[bi]? =some (ixO s v12 (xI_ Z)):=hw1.has _ _ (List.mem_append_right _ hbi)
   have hv1:RwSl w1 v12 Z:=(hG.app (M:=D18)).slV hw1 hZl rfl z1_
   clear hw1 hG hbi hN hN18 hA18 hS12 hC14 hC12
   obtain⟨rb,off,arr,E,fz,hro⟩:=hv1.row
   have ln:=hv1.len
   first|with_reducible refine ks [] @zZ_ ?_|refine kp @zZ_ ?_
   refine Ow.alloc rfl rfl Tryd.zr93 fun b5 hb5 hw5=> ?_
   refine ko @zZ_ ?_
   first|with_reducible refine ks [] @zZ_ ?_|refine kp @zZ_ ?_
   have hZ5:BldAt b5 [] [(b5, .cells #[.pointer none, .slice none 0 0] 93 (0,0))]:=BldAt.zeroK b5 (jg_ _ _ _)
   refine Ow.buildSlice (e:=9) #[vs [83,73,88,49],vs s] rfl rfl (by kernel_rfl) fun b15 hb15 hw15=> ?_
   have h515:b5<b15:=zz_ hb15 (by simp[keys])
   refine ko @zZ_ ?_
   refine Ow.callX (Y:= [(b15, .cells #[vs [83,73,88,49],vs s] 9 (0,0))]) (by simp) rfl rfl Tryd.call40 (fun w' hw' hX hn=>kL_ b5 [(b5, .cells #[.pointer none, .slice none 0 0] 93 (0,0))] [] _ b15 0 [[83,73,88,49],s] _ _ _ w' hZ5 hX hn (StrS.lit [[83,73,88,49],s] rfl rfl (hw'.has _ _ (List.mem_cons_of_mem _ List.mem_cons_self))) (fun _ hm=>by simp[keys] at hm;omega) (by simp;omega) (by simp)) (fun v16 D16 hC16 hS16=> ?_)
   obtain⟨rfl,hB16⟩:=hS16
   have hN16:New w1.heap.size D16:=zQ_ hC16 ⟨hw5,trivial⟩
   refine ko @zZ_ ?_
   first|with_reducible refine ks [] (And.intro @zZ_ @ln) ?_|refine kp (And.intro @zZ_ @ln) ?_
   refine Ow.buildSlice (e:=3) #[vi Z.length] rfl rfl (by kernel_rfl) fun b19 hb19 hw19=> ?_
   refine ko @zZ_ ?_
   rw[List.append_assoc]
   refine Ow.callX (Y:= [(b15, .cells #[vs [83,73,88,49],vs s] 9 (0,0)),(b19, .cells #[vi Z.length] 3 (0,0))]) (by simp) rfl rfl Tryd.call41 (fun w' hw' hX hn=>qM_ b5 D16 _ _ b19 0 [(Z.length:Int)] _ _ _ w' hB16 hX hn (OneS.lit [(Z.length:Int)] rfl rfl (hw'.has b19 (.cells #[vi Z.length] 3 (0,0)) (by simp))) (fun _ hm=>Nat.lt_irrefl _ (zz_ hb19 (by rw[zS_];exact List.mem_append_left _ hm))) (by simp;omega)) (fun v20 D20 hC20 hS20=> ?_)
   obtain⟨rfl,hB20⟩:=hS20
   rw[vY_] at hB20
   have hN20:New w1.heap.size D20:=zQ_ hC20 hN16
   have hbil:=(Array.getElem?_eq_some_iff.1 hb1).1
   refine ko @zZ_ ?_
   first|with_reducible refine ks [] @zZ_ ?_|refine kp @zZ_ ?_
   have hN20':New w1.heap.size (D20++ [(b15,Obj.cells #[vs [83,73,88,49],vs s] 9 (0,0)),(b19,Obj.cells #[vi Z.length] 3 (0,0))]):=hN20.app ⟨hw15,hw19,trivial⟩
   have hnl:=zm_ (Z.length:Int)
   have hfl: (xI_ Z).length=16:=k7_ Z
   have hfb:=ZP_ (JJ_ (xI_ Z))
   rw[kx_,hfl] at hfb
   refine Ow.callX (Y:= [(b15, .cells #[vs [83,73,88,49],vs s] 9 (0,0)),(b19, .cells #[vi Z.length] 3 (0,0))]) (by simp) rfl rfl Tryd.call41 (fun w' hw' hX hn=>qM_ b5 D20 _ (vsl bi 2 16 16) bi 2 (JJ_ (xI_ Z)) _ _ _ w' hB20 hX hn (hfl▸ahZ_ (by rw[hw'.old bi hbil (hN20'.not hbil)];exact hb1) 16) (fun _ hm=>by have:=hN20.le _ hm;omega) (by rw[kx_,hfl];simp;omega)) (fun v34 D34 hC34 hS34=> ?_)
   obtain⟨rfl,hB34⟩:=hS34
   have hN34:New w1.heap.size D34:=zQ_ hC34 hN20
   obtain⟨Pre,hPre⟩: ∃Pre,Pre=magI++ (s++ (z9_ (zP_ (Z.length:Int))++ks_ (xI_ Z))):=⟨_,rfl⟩
   have hidx:wY_ s Z=Pre++xx_ Z:=by rw[hPre];unfold wY_;simp only[List.append_assoc]
   have hPl:Pre.length≤200:=by rw[hPre];simp only[List.length_append];unfold ks_;rw[show magI.length=4 from rfl];omega
   have hB0:BldAt b5 (Pre++xx_ (Z.take 0)) (D34++ [(b15,Obj.cells #[vs [83,73,88,49],vs s] 9 (0,0)),(b19, .cells #[vi Z.length] 3 (0,0))]):=by
    have:=hB34.app (Y:= [(b15,Obj.cells #[vs [83,73,88,49],vs s] 9 (0,0)),(b19, .cells #[vi Z.length] 3 (0,0))])
    rw[hPre]
    simpa [magI,xx_,ks_] using this
   clear hPre
   refine ko @zZ_ ?_
   first|with_reducible refine ks [] (And.intro @zZ_ @ln) ?_|refine kp (And.intro @zZ_ @ln) ?_
   refine Cw.loopG (G:=IwG) [38,39,40,10,41,42,43,44,45,46,47,48,49,50,51,37] (fun g=> [(37,vi g.k)]) (fun g=>g.D) (fun g=>g.k≤Z.length∧New w1.heap.size g.D∧BldAt b5 (Pre++xx_ (Z.take g.k)) g.D) (fun g=>Z.length - g.k) ⟨0,D34++ [(b15,Obj.cells #[vs [83,73,88,49],vs s] 9 (0,0)),(b19, .cells #[vi Z.length] 3 (0,0))]⟩ rfl rfl ?_ ?_
   ·exact⟨Nat.zero_le _,hN34.app ⟨hw15,hw19,trivial⟩,hB0⟩
   intro g j hg
   refine kv ?_
   obtain⟨k,D⟩:=g
   simp only at hg ⊢
   obtain⟨hk,hN,hB⟩:=hg
   have hrl:=Z8_ Z k hk
   by_cases hlt:k<Z.length
   ·have d1:decide ((k:Int)< (Z.length:Int))=true:=decide_eq_true (by omega)
    have hb1:=hro.has (by omega)
    have hb1l:=hro.lt (by omega)
    have ix:=hro.idx true k hlt
    have ld:=hro.load z1_ (by omega) hlt
    have rd:zy_ w1 D rb=some (.cells arr E fz):=by rw[qx_ (hN.not hb1l)];exact hb1
    have hsn:=JW_ Z hlt
    generalize hp:Z.getD k rw0=r at*
    first|with_reducible refine ks [1000013] (And.intro @zZ_ (And.intro @d1 (And.intro @ix (And.intro @rd (@ld))))) ?_|refine kp (And.intro @zZ_ (And.intro @d1 (And.intro @ix (And.intro @rd (@ld))))) ?_
    refine Ow.alloc rfl rfl zrRw fun b7 hb7 hw7=> ?_
    simp only[zg_,List.nil_append,List.cons_append]
    refine Ow.permL (M:=(b7, .cells (rwC rw0).toArray 45 (0,0))::D) (by classical exact List.perm_iff_count.2 fun a=>by simp only[List.count_append,List.count_cons,List.count_nil]<;>omega) ?_
    refine ko @zZ_ ?_
    first|with_reducible refine ks [] @zZ_ ?_|refine kp @zZ_ ?_
    have hrb:=abE_ r
    have hru:rowB r=r.id.l++ (z9_ (zP_ r.place)++z9_ (zP_ r.spot)):=rfl
    have hru2: (rowB r).length=32+ ((z9_ (zP_ r.place)).length+ (z9_ (zP_ r.spot)).length):=by rw[hru];simp only[List.length_append,r.id.h]
    refine Ow.buildSlice (e:=36) (a8 r.id.l) rfl rfl (VF_ r.id) fun b35 hb35 hw35=> ?_
    refine ko @zZ_ ?_
    refine Ow.permL (M:=D++ [(b7,Obj.cells (rwC r).toArray 45 (0,0)),(b35, .cells (a8 r.id.l) 36 (0,0))]) (by classical exact List.perm_iff_count.2 fun a=>by simp only[List.count_append,List.count_cons,List.count_nil]<;>omega) ?_
    refine Ow.callX (Y:= [(b7,Obj.cells (rwC r).toArray 45 (0,0)),(b35, .cells (a8 r.id.l) 36 (0,0))]) (by simp) rfl rfl Tryd.call42 (fun w' hw' hX hn=>aa0_ b5 D _ _ b35 0 [r.id] _ _ _ w' hB hX hn (VP_ r.id (hw'.has b35 (.cells (a8 r.id.l) 36 (0,0)) (by simp))) (fun _ hm=>Nat.lt_irrefl _ (zz_ hb35 (by simp[keys] at hm ⊢;exact .inr hm))) (by rw[List.length_append];simp;omega)) (fun v36 D36 hC36 hS36=> ?_)
    obtain⟨rfl,hB36⟩:=hS36
    have hN36:New w1.heap.size D36:=zQ_ hC36 hN
    refine Ow.permL (M:=(b7,Obj.cells (rwC r).toArray 45 (0,0)):: (D36++ [(b35, .cells (a8 r.id.l) 36 (0,0))])) (by classical exact List.perm_iff_count.2 fun a=>by simp only[List.count_append,List.count_cons,List.count_nil]<;>omega) ?_
    refine ko @zZ_ ?_
    first|with_reducible refine ks [] @zZ_ ?_|refine kp @zZ_ ?_
    refine Ow.buildSlice (e:=3) #[vi r.place,vi r.spot] rfl rfl (by kernel_rfl) fun b39 hb39 hw39=> ?_
    refine ko @zZ_ ?_
    refine Ow.permL (M:=D36++ [(b7,Obj.cells (rwC r).toArray 45 (0,0)),(b35, .cells (a8 r.id.l) 36 (0,0)),(b39, .cells #[vi r.place,vi r.spot] 3 (0,0))]) (by classical exact List.perm_iff_count.2 fun a=>by simp only[List.count_append,List.count_cons,List.count_nil]<;>omega) ?_
    refine Ow.callX (Y:= [(b7,Obj.cells (rwC r).toArray 45 (0,0)),(b35, .cells (a8 r.id.l) 36 (0,0)),(b39, .cells #[vi r.place,vi r.spot] 3 (0,0))]) (by simp) rfl rfl Tryd.call41 (fun w' hw' hX hn=>qM_ b5 D36 _ _ b39 0 [r.place,r.spot] _ _ _ w' hB36 hX hn (OneS.lit [r.place,r.spot] rfl rfl (hw'.has b39 (.cells #[vi r.place,vi r.spot] 3 (0,0)) (by simp))) (fun _ hm=>Nat.lt_irrefl _ (zz_ hb39 (by simp[keys] at hm ⊢;exact .inr (.inl hm)))) (by simp[idsL,r.id.h];omega)) (fun v40 D40 hC40 hS40=> ?_)
    obtain⟨rfl,hB40⟩:=hS40
    have hN40:New w1.heap.size D40:=zQ_ hC40 hN36
    refine ko @zZ_ ?_
    first|with_reducible refine ks [] @zZ_ ?_|refine kp @zZ_ ?_
    refine Again.mk ⟨k+1,D40++ [(b7,Obj.cells (rwC r).toArray 45 (0,0)),(b35, .cells (a8 r.id.l) 36 (0,0)),(b39, .cells #[vi r.place,vi r.spot] 3 (0,0))]⟩ (by show Z.length - (k+1)<Z.length - k;omega) ⟨hlt,hN40.app ⟨hw7,hw35,hw39,trivial⟩, ?_⟩ rfl rfl
    show BldAt b5 (Pre++xx_ (Z.take (k+1))) _
    rw[hsn]
    have:=hB40.app (Y:= [(b7,Obj.cells (rwC r).toArray 45 (0,0)),(b35, .cells (a8 r.id.l) 36 (0,0)),(b39, .cells #[vi r.place,vi r.spot] 3 (0,0))])
    simpa [rowB,idsL,jR_] using this
   ·obtain rfl:k=Z.length:=by omega
    have d1:decide ((Z.length:Int)< (Z.length:Int))=false:=decide_eq_false (by omega)
    rw[List.take_length] at hrl hB
    rw[←hidx] at hB
    have hpl: (wY_ s Z).length<34359738368:=by rw[hidx,List.length_append];omega
    first|with_reducible refine ks [] (And.intro @zZ_ @d1) ?_|refine kp (And.intro @zZ_ @d1) ?_
    refine Ow.callX (Y:= []) (by simp) rfl rfl Tryd.call44 (fun w' hw' hX hn=>Zh_ b5 D (wY_ s Z) w' hB hX hn hpl) (fun v42 D42 hC42 hS42=> ?_)
    subst hS42
    have hN42:New w1.heap.size D42:=zQ_ hC42 hN
    rw[List.append_nil]
    refine ko @zZ_ ?_
    refine Ow.callFV rfl Tryd.call43 (fun w' hw'=>wT_ (wY_ s Z) w' (hC1.newP hw' hN42) (by omega)) ?_
    refine ko @zZ_ ?_
    first|with_reducible refine ks [] @zZ_ ?_|refine kp @zZ_ ?_
    refine⟨_,(ke @zZ_),hN42, ?_⟩
    exact⟨Z,hZ,by unfold v1_;rw[hr];rfl⟩
 ·rw[if_neg hok] at hS18
  subst hS18
  refine ko @zZ_ ?_
  first|with_reducible refine ks [] @zZ_ ?_|refine kp @zZ_ ?_
  refine⟨_,(ke @zZ_),hN, ?_⟩
  exact⟨Z,hZ,by unfold v1_ jn_;rw[Bool.eq_false_iff.2 hok];rfl⟩
end Go.Proofs
end
section
open Go Go.Proofs Go.Sx Go.StP Go.Flo
namespace Go.Proofs
set_option maxRecDepth 10000
set_option maxHeartbeats 400000
set_option linter.unusedSimpArgs false
instance:DecidableEq PartL:=fun a b=>if h:a.d=b.d∧a.b=b.b∧a.x=b.x then .isTrue (by cases a;cases b;simp only at h;obtain⟨rfl,rfl,rfl⟩:=h;rfl) else .isFalse (fun e=>h (by rw[e];exact⟨rfl,rfl,rfl⟩))
def idxO (x:ObL):List ObL→Nat→Int
 | [],_=> -1
 |y::r,i=>if x=y then(i:Int) else idxO x r (i+1)
set_option linter.defProp false
def anN_:=And.intro (And.intro (@qv_) (@z4_)) (And.intro (@z6_) (And.intro (@ze_) (@zd_)))
end Go.Proofs
end
section
open Go Go.Proofs Go.Sx Go.StP Go.Flo
namespace Go.Proofs
set_option maxRecDepth 10000
set_option maxHeartbeats 400000
set_option linter.unusedSimpArgs false
theorem acU_ (s:List UInt8) (a:Nat) (e most:Int) (hm:0≤most): ((qe_ s a e most).1.length:Int)≤most:=by
 have h1:=vn_ (s:=s) (a:=a) (e:=e) (most:=most) hm
 have h2: ∀ (b:Nat) (e n:Int),0≤n→((qz_ s b e n).1.length:Int)≤n:=by
  intro b e n hn
  unfold qz_
  split
  ·simpa using hn
  ·split
   ·simpa using hn
   ·split
    ·simpa using hn
    ·simp only[List.length_take,List.length_drop];omega
 unfold qe_
 simp only
 split
 ·simpa using hm
 ·have:=h2 (zE_ s a e most).2.1 (zE_ s a e most).2.2 (zE_ s a e most).1 h1.1
  omega
set_option linter.defProp false
def amw_:=And.intro (And.intro (@ze_) (@zd_)) (And.intro (@Sx.tup2_0) (@Sx.tup2_1))
end Go.Proofs
end
section
open Go Go.Proofs Go.Sx Go.StP Go.Flo
namespace Go.Proofs
set_option maxRecDepth 10000
set_option maxHeartbeats 400000
set_option linter.unusedSimpArgs false
theorem aaq_ (r:RwL):jb_ (QW_ Tryd.prog 45) (qd_ Tryd.prog 45) [(0,Value.agg (a8 r.id.l))]=some (.agg (rwC ⟨r.id,0,0⟩).toArray):=by
 have hp:QW_ Tryd.prog 45=some [(0,32),(32,1),(33,1)]:=id (by kernel_rfl)
 rw[hp,zrRw]
 have e0: (rwC rw0).toArray=(([]:List Value)++ ((rw0.id.l.map v8)++ ([vi rw0.place]++ ([vi rw0.spot])))).toArray:=by congr 1<;>simp only[rwC,List.append_assoc,List.nil_append,List.append_nil]
 have q0:x3_ (([]:List Value)++ ((rw0.id.l.map v8)++ ([vi rw0.place]++ ([vi rw0.spot])))).toArray 0 (r.id.l.map v8)=(([]:List Value)++ ((r.id.l.map v8)++ ([vi rw0.place]++ ([vi rw0.spot])))).toArray:=xk_ _ _ _ _ (by simp) (by simp[rw0.id.h,r.id.h])
 have s0: (([]:List Value)++ ((rw0.id.l.map v8)++ ([vi rw0.place]++ ([vi rw0.spot])))).toArray.size=34:=by simp[r.id.h,rw0.id.h]
 have z0: (Value.cells (Value.agg (a8 r.id.l))).toList=r.id.l.map v8:=by rw[zg_];rfl
 have y0: (Value.cells (Value.agg (a8 r.id.l))).size=32:=by rw[←Array.length_toList,z0];simp[r.id.h]
 have eZ: (([]:List Value)++ ((r.id.l.map v8)++ ([vi rw0.place]++ ([vi rw0.spot])))).toArray=(rwC ⟨r.id,0,0⟩).toArray:=by congr 1
 simp only[jb_]
 rw[e0]
 unfold Sx.fillV
 simp only[List.getElem?_cons_zero,List.getElem?_cons_succ,z0,y0]
 rw[if_pos ⟨trivial,by rw[s0];decide⟩,q0]
 rw[eZ];rfl
def IxD (D:za_) (bi:Nat) (s:List UInt8) (l:List RwL):Prop:= ∃x,(bi,ixO s x (xI_ l))∈D∧GrI D 45 34 x l.length (l.map rwC).flatten
def IxIn (w:World) (bi:Nat) (s:List UInt8) (l:List RwL):Prop:= ∃x,w.heap[bi]? =some (ixO s x (xI_ l))∧RwSl w x l
theorem IxD.mono {D D':za_} {bi:Nat} {s:List UInt8} {l:List RwL} (h:IxD D bi s l) (hD: ∀p,p∈D→p∈D'):IxD D' bi s l:=by
 obtain⟨x,h1,h2⟩:=h;exact⟨x,hD _ h1,h2.mono hD⟩
theorem IxD.inW {w0 w:World} {D:za_} {bi:Nat} {s:List UInt8} {l:List RwL} (h:IxD D bi s l) (hw:Hp w0 D w):IxIn w bi s l:=by
 obtain⟨x,h1,h2⟩:=h;exact⟨x,hw.has _ _ h1,h2.slV hw rfl rfl z1_⟩
theorem IxIn.old {w w':World} {L:za_} {bi:Nat} {s:List UInt8} {l:List RwL} (h:IxIn w bi s l) (hw:Hp w L w') (hn:New w.heap.size L):IxIn w' bi s l:=by
 obtain⟨x,h1,h2⟩:=h
 exact⟨x,by rw[hw.old bi (Array.getElem?_eq_some_iff.1 h1).1 (hn.not (Array.getElem?_eq_some_iff.1 h1).1)];exact h1,h2.oldN hw hn⟩
theorem aa6_ (s:List UInt8) (v1:Value) (F:List Nat) (n:Nat):zn_ (some (false,n)) (some (ixO s v1 F)) 0=some (vs s):=by
 rfl
theorem ahi_ (s:List UInt8) (v1:Value) (F:List Nat) (n:Nat):zn_ (some (false,n)) (some (ixO s v1 F)) 1=some v1:=by
 rfl
theorem VO_ (b:Nat) (s:List UInt8) (a:Nat) (e:Int) (w:World) (ha:a≤s.length) (hs:s.length<9223372036854775808) (ho:w.heap[b]? =some (wrO s a e)):
  Rets Tryd.prog 27 #[vp b 0] w (fun v D=> ∃o,D= [(b,o)]∧v= .agg (a8 (idR s a e).1)∧o=wrO s (idR s a e).2.1 (idR s a e).2.2):=agH_ b s a e w ha hs ho
def Kr_ (b:List UInt8) (v:Value) (D:za_):Prop:=match j3_ b with
 |some q=> ∃bi,v= .tuple #[vp bi 0,vi 0]∧IxD D bi q.1 q.2
 |none=>v= .tuple #[.pointer none,vi 2]
theorem Qw_ (b:List UInt8): (zi_ b).1.length≤b.length:=by
 unfold zi_
 split
 ·simp
 ·split
  ·simp only[List.length_take];omega
  ·simp
theorem adW_ {s:List UInt8} {a:Nat} {e:Int} (ha:a≤s.length): (idR s a e).2.1≤s.length:=(vz_ ha).2
theorem afR_ {s:List UInt8} {l Z:List RwL} (h:jn_ s l=true) (hZ:rws_SortOf l Z):v1_ s Z=(qh_ (wY_ s l),0):=by
 have e:Z=l:=hZ.eq (Ku_ (q4_ h).1)
 subst e
 unfold v1_;rw[if_pos h]
theorem ahn_ {b s:List UInt8} {l:List RwL} {a:Nat} {e:Int} (h:kl_ (zi_ b).1 id=(s,l,a,e)):j3_ b=if w5_ (zi_ b).1 a e=0∧jn_ s l=true∧qh_ (wY_ s l)=b then some (s,l) else none:=by
 unfold j3_;rw[h]
theorem K1_ {s:List UInt8} {m:Int}: ∀ (k:Nat) (q:Nat×Int),q.2≠0→vP_ s m k q=q
 |0,_,_=>rfl
 |k+1,q,h=>by
  unfold vP_
  rw[aa2_ h]
  exact K1_ k (q.1,q.2) h
theorem age_ {s:List UInt8} {a:Nat} {e:Int} (h:e≠0): (J1_ s a e).2=(a,e):=by
 unfold J1_ QX_
 simp only[akp_ h,aa2_ h]
structure OiG where
 k:Nat
 q:Nat×Int
structure OrG where
 l:List RwL
 q:Nat×Int
 v:Value
 D1:za_
 DG:za_
set_option linter.defProp false
def zL_:=And.intro (And.intro (And.intro (@ze_) (And.intro (@zd_) (@qQ_))) (And.intro (@kg_) (And.intro (@vc_) (@k0_)))) (And.intro (And.intro (@vj_) (And.intro (@q6_) (@adl_))) (And.intro (And.intro (@adc_) (@Sx.tup2_0)) (And.intro (@Sx.tup2_1) (@aa6_))))
theorem wx_ (b:List UInt8) (w:World) (hC:GlobC w) (hb:b.length<1099511627776):
  Rets Tryd.prog 10 #[vs b] w (XS w [] (Kr_ b)):=by
 refine Rets.enterX Tryd.func10 rfl (rs:= [.tmp 2, .tmp 3]) Tryd.results10 Tryd.ntmps10 (fun p hp=>by cases hp) (by simp[keys]) ?_
 refine kf ?_
 first|with_reducible refine ks [1000021] @zL_ ?_|refine kp @zL_ ?_
 refine Ow.callFV rfl Tryd.call22 (fun w' hw'=>w8_ b w' (hC.newP hw' trivial) (by omega)) ?_
 have hun: (zi_ b).1.length≤b.length:=Qw_ b
 unfold Kr_
 obtain⟨r,hr⟩: ∃r,r=kl_ (zi_ b).1 id:=⟨_,rfl⟩
 obtain⟨rs,rl,ra,re⟩:=r
 rw[ahn_ hr.symm]
 generalize zi_ b=u at*
 obtain⟨s,ok⟩:=u
 simp only at hun hr ⊢
 refine ko @zL_ ?_
 first|with_reducible refine ks [] @zL_ ?_|refine kp @zL_ ?_
 refine Ow.callF rfl rfl Tryd.call23 (S:=fun B v D=> ∃b',B≤b'∧v=vp b' 0∧D= [(b',wrO s 0 0)]) (fun w' hw'=>Va_ s w') ?_
 rintro B v D hab hB ⟨bw,hbw,rfl,rfl⟩
 have hww:w.heap.size≤bw:=by omega
 refine⟨_,Mrg.fresh (by intro q hq;simp only[keys,List.map_cons,List.map_nil,List.mem_singleton] at hq;omega), ?_⟩
 rw[List.nil_append]
 refine ko @zL_ ?_
 first|with_reducible refine ks [] @zL_ ?_|refine kp @zL_ ?_
 refine Ow.callM rfl rfl Tryd.call24 (by simp[keys]) (fun w' hw'=>wN_ bw s 0 0 8 w' (Nat.zero_le _) (by omega) (hw'.has _ _ List.mem_cons_self)) ?_
 have r1:=vz_ (s:=s) (a:=0) (e:=0) (n:=8) (Nat.zero_le _)
 unfold kl_ at hr
 have hr8: (qz_ s 0 0 8).2.2=0→(qz_ s 0 0 8).1.length=8:=fun h=>(acN_ (Nat.zero_le _) h).2.1
 generalize qz_ s 0 0 8=p at*
 obtain⟨hd,a1,e1⟩:=p
 simp only at r1 hr hr8 ⊢
 refine kn ?_
 refine ko @zL_ ?_
 first|with_reducible refine ks [] @zL_ ?_|refine kp @zL_ ?_
 refine Ow.callM rfl rfl Tryd.call25 (by simp[keys]) (fun w' hw'=>z5_ bw s a1 e1 200 w' r1.2 (by omega) (hw'.has _ _ List.mem_cons_self)) ?_
 have r2:=js_ (s:=s) (a:=a1) (e:=e1) (most:=200) r1.2
 have m2:=vn_ (s:=s) (a:=a1) (e:=e1) (most:=200) (by omega)
 have f2:e1≠0→(zE_ s a1 e1 200).2.2≠0:=fun h=>by rw[aa2_ h];exact h
 generalize zE_ s a1 e1 200=p at*
 obtain⟨n0,a2,e2⟩:=p
 simp only at r2 m2 hr f2 ⊢
 obtain⟨n,rfl⟩: ∃n:Nat,n0=(n:Int):=⟨n0.toNat,by omega⟩
 rw[Int.toNat_natCast] at hr
 refine kn ?_
 refine ko @zL_ ?_
 first|with_reducible refine ks [] @zL_ ?_|refine kp @zL_ ?_
 have hrq: (rs,rl,ra,re)=(hd.drop 4,kJ_ s n (vP_ s (n:Int) 16 (a2,e2))):=hr
 clear hr
 refine Cw.loopG (G:=OiG) [27,28,29,30,31,26] (fun g=> [(26,vi g.k)]) (fun g=> [(bw,wrO s g.q.1 g.q.2)]) (fun g=>g.k≤16∧g.q.1≤s.length∧vP_ s (n:Int) 16 (a2,e2)=vP_ s (n:Int) (16 - g.k) g.q) (fun g=>16 - g.k) ⟨0,(a2,e2)⟩ rfl rfl ?_ ?_
 ·exact⟨Nat.zero_le _,r2.2,rfl⟩
 intro g j hg
 refine kv ?_
 obtain⟨k,q⟩:=g
 simp only at hg ⊢
 obtain⟨hk,hq,hf⟩:=hg
 by_cases hlt:k<16
 ·have d1:decide ((k:Int)<16)=true:=decide_eq_true (by omega)
  have hf2:vP_ s (n:Int) (16 - k) q=vP_ s (n:Int) (16 - (k+1)) (zE_ s q.1 q.2 n).2:=by
   rw[show 16 - k=(16 - (k+1))+1 by omega];rfl
  first|with_reducible refine ks [] (And.intro @zL_ @d1) ?_|refine kp (And.intro @zL_ @d1) ?_
  refine Ow.callM rfl rfl Tryd.call25 (by simp[keys]) (fun w' hw'=>z5_ bw s q.1 q.2 n w' hq (by omega) (hw'.has _ _ List.mem_cons_self)) ?_
  refine kn ?_
  refine ko @zL_ ?_
  first|with_reducible refine ks [] @zL_ ?_|refine kp @zL_ ?_
  exact Again.mk ⟨k+1,(zE_ s q.1 q.2 n).2⟩ (by show 16 - (k+1)<16 - k;omega) ⟨hlt,(js_ hq).2,hf.trans hf2⟩ rfl rfl
 obtain rfl:k=16:=by omega
 have d1:decide (((16:Nat):Int)<16)=false:=rfl
 have hf3:vP_ s (n:Int) 16 (a2,e2)=q:=hf
 have g2:q.2=0→e1=0:=fun h=>Decidable.byContradiction fun hh=>by
  have:=K1_ (s:=s) (m:=n) 16 (a2,e2) (f2 hh)
  rw[hf3] at this
  rw[this] at h
  exact f2 hh h
 rw[hf3] at hrq
 clear hf hf3 r2 f2
 obtain⟨q0,hq0⟩: ∃q0,q0=q:=⟨q,rfl⟩
 rw[←hq0] at hrq
 first|with_reducible refine ks [] (And.intro @zL_ @d1) ?_|refine kp (And.intro @zL_ @d1) ?_
 refine Cw.permL (M:=(bw,wrO s q.1 q.2):: ([]++ [])) (List.Perm.refl _) ?_
 refine Cw.loopG (G:=OrG) [34,35,36,37,10,38,39,40,41,42,43,44,45,46,47,9,48,33] (fun g=> [(9,g.v),(33,vi g.l.length)]) (fun g=>(bw,wrO s g.q.1 g.q.2):: (g.D1++g.DG)) (fun g=>g.l.length≤n∧g.q.1≤s.length∧New w.heap.size g.D1∧New w.heap.size g.DG∧Gr g.D1 45 34 g.v g.l.length (g.l.map rwC).flatten∧(g.q.2=0→q.2=0)∧kJ_ s n q0=(g.l++ (kJ_ s (n - g.l.length) g.q).1,(kJ_ s (n - g.l.length) g.q).2)) (fun g=>n - g.l.length) ⟨[],q, .slice none 0 0,[],[]⟩ rfl rfl ?_ ?_
 ·exact⟨Nat.zero_le _,hq,trivial,trivial,Gr.nl,id,by rw[hq0];rfl⟩
 intro g j hg
 refine kv ?_
 obtain⟨l,qq,v,D1,DG⟩:=g
 simp only at hg ⊢
 obtain⟨hln,hqq,hN1,hNG,hG1,hez,hrr⟩:=hg
 by_cases hlt:l.length<n
 ·have d1:decide ((l.length:Int)< (n:Int))=true:=decide_eq_true (by omega)
  obtain⟨a,e⟩:=qq
  have hpr:kJ_ s n q0=(l++ [(J1_ s a e).1]++ (kJ_ s (n - (l++ [(J1_ s a e).1]).length) (J1_ s a e).2).1,(kJ_ s (n - (l++ [(J1_ s a e).1]).length) (J1_ s a e).2).2):=by
   rw[hrr,show n - l.length=(n - (l++ [(J1_ s a e).1]).length)+1 by simp;omega]
   generalize n - (l++ [(J1_ s a e).1]).length=m
   show(l++ ((J1_ s a e).1:: (kJ_ s m (J1_ s a e).2).1),(kJ_ s m (J1_ s a e).2).2)=_
   rw[List.append_assoc];rfl
  have herr: (J1_ s a e).2.2=0→e=0:=fun h=>Decidable.byContradiction fun hh=>by
   rw[age_ hh] at h;exact hh h
  have hrow:J1_ s a e=(⟨wU_ (idR s a e).1,(zE_ s (idR s a e).2.1 (idR s a e).2.2 1099511627775).1,(QX_ s (zE_ s (idR s a e).2.1 (idR s a e).2.2 1099511627775).2).1⟩,(QX_ s (zE_ s (idR s a e).2.1 (idR s a e).2.2 1099511627775).2).2):=rfl
  have hNr:New w.heap.size ((bw,wrO s a e):: (D1++DG)):=⟨hww,hN1.app hNG⟩
  first|with_reducible refine ks [] (And.intro @zL_ @d1) ?_|refine kp (And.intro @zL_ @d1) ?_
  refine Ow.callM rfl rfl Tryd.call27 (by simp[keys]) (fun w' hw'=>VO_ bw s a e w' hqq (by omega) (hw'.has _ _ List.mem_cons_self)) ?_
  obtain⟨i,hi⟩: ∃i,i=wU_ (idR s a e).1:=⟨_,rfl⟩
  have hil: (idR s a e).1=i.l:=by rw[hi];exact(abf_ (aeE_ s a e)).symm
  have hle1:=adW_ (e:=e) hqq
  rw[←hi] at hrow
  generalize idR s a e=p at*
  obtain⟨p1,a3,e3⟩:=p
  simp only at hil hrow hle1 ⊢
  subst hil
  clear hi
  refine kn ?_
  refine ko @zL_ ?_
  refine Ow.build (.agg (rwC ⟨i,0,0⟩).toArray) rfl (aaq_ ⟨i,0,0⟩) ?_
  refine ko @zL_ ?_
  refine Ow.alloc rfl rfl zrRw fun b10 hb10 hw10=> ?_
  simp only[zg_,List.nil_append,List.cons_append]
  have h10:bw<b10:=zz_ hb10 (by simp[keys])
  refine Ow.permL (M:=(b10, .cells (rwC rw0).toArray 45 (0,0)):: (bw,wrO s a3 e3):: (D1++DG)) (by classical exact List.perm_iff_count.2 fun a=>by simp only[List.count_append,List.count_cons,List.count_nil]<;>omega) ?_
  refine ko @zL_ ?_
  first|with_reducible refine ks [] @zL_ ?_|refine kp @zL_ ?_
  refine Ow.callM rfl rfl Tryd.call25 (by simp[keys]) (fun w' hw'=>z5_ bw s a3 e3 1099511627775 w' hle1 (by omega) (hw'.has _ _ (List.mem_cons_of_mem _ List.mem_cons_self))) ?_
  have hle2:=(js_ (e:=e3) (most:=1099511627775) hle1).2
  generalize zE_ s a3 e3 1099511627775=p at*
  obtain⟨x1,a4,e4⟩:=p
  simp only at hrow hle2 ⊢
  refine kn ?_
  refine ko @zL_ ?_
  refine Ow.callM rfl rfl Tryd.call25 (by simp[keys]) (fun w' hw'=>z5_ bw s a4 e4 1099511627775 w' hle2 (by omega) (hw'.has _ _ (List.mem_cons_of_mem _ List.mem_cons_self))) ?_
  have hle3:=(js_ (e:=e4) (most:=1099511627775) hle2).2
  have hrow2:J1_ s a e=(⟨i,x1,(zE_ s a4 e4 1099511627775).1⟩,(zE_ s a4 e4 1099511627775).2):=hrow
  clear hrow
  generalize zE_ s a4 e4 1099511627775=p at*
  obtain⟨x2,a5,e5⟩:=p
  simp only at hrow2 hle3 ⊢
  rw[hrow2] at hpr herr
  simp only at hpr herr
  refine kn ?_
  refine ko @zL_ ?_
  first|with_reducible refine ks [] @zL_ ?_|refine kp @zL_ ?_
  generalize (RwL.mk i x1 x2)=r at*
  refine Ow.buildSlice (e:=45) (rwC r).toArray rfl rfl (wb_ Tryd.underlying50 ajU_ zrRw (by decide) (z1_ _)) fun ba hba hwa=> ?_
  refine ko @zL_ ?_
  refine Ow.permL (M:=D1++ ((b10, .cells (rwC r).toArray 45 (0,0)):: (bw,wrO s a5 e5):: (DG++ [(ba, .cells (rwC r).toArray 45 (0,0))]))) (by classical exact List.perm_iff_count.2 fun a=>by simp only[List.count_append,List.count_cons,List.count_nil]<;>omega) ?_
  refine Ow.appendXG (e:=45) (k:=1) (new:=rwC r) (X:=D1) v rfl rfl rfl rfl Tryd.underlying50 ajU_ (by kernel_rfl) zrRw (by rw[qQ_,List.size_toArray,z1_]) Tryd.underlying50 (by intro k h;cases h) hG1 (fun w' hw'=>AppX.one1 (hw'.has ba (.cells (rwC r).toArray 45 (0,0)) (by simp)) (z1_ _) (Xl_ _)) (by omega) (fun B4 v4 D4 hA4 hB4 hG4 hk41 hk42 hlk4=> ?_)
  have hN4:New w.heap.size D4:=New.of_le fun q hq=>by
   rcases hk42 q hq with h|h
   ·exact hN1.le q h
   ·omega
  refine Ow.permL (M:=(bw,wrO s a5 e5):: (D4++ ((b10, .cells (rwC r).toArray 45 (0,0)):: (DG++ [(ba, .cells (rwC r).toArray 45 (0,0))])))) (by classical exact List.perm_iff_count.2 fun a=>by simp only[List.count_append,List.count_cons,List.count_nil]<;>omega) ?_
  refine ko @zL_ ?_
  first|with_reducible refine ks [] @zL_ ?_|refine kp @zL_ ?_
  have hl1: (l++ [r]).length=l.length+1:=by simp
  refine Again.mk ⟨l++ [r],(a5,e5),v4,D4,(b10, .cells (rwC r).toArray 45 (0,0)):: (DG++ [(ba, .cells (rwC r).toArray 45 (0,0))])⟩ (by show n - (l++ [r]).length<n - l.length;omega) ⟨by show(l++ [r]).length≤n;omega,hle3,hN4,⟨hw10,hNG.app ⟨hwa,trivial⟩⟩,by simpa using hG4,fun h=>hez (herr h),hpr⟩ rfl (by simp only[hl1];rfl)
 ·obtain rfl:n=l.length:=by omega
  have d1:decide ((l.length:Int)< (l.length:Int))=false:=decide_eq_false (by omega)
  rw[Nat.sub_self] at hrr
  rw[hrr] at hrq
  simp only[kJ_,List.append_nil,Prod.mk.injEq] at hrq
  obtain⟨hrs,hrl,hq5⟩:=hrq
  have hqa:ra=qq.1:=congrArg Prod.fst hq5
  have hqe:re=qq.2:=congrArg Prod.snd hq5
  rw[hrs,hrl,hqa,hqe]
  clear hrs hrl hqa hqe hq5 hrr
  have hNr:New w.heap.size ((bw,wrO s qq.1 qq.2):: (D1++DG)):=⟨hww,hN1.app hNG⟩
  first|with_reducible refine ks [] (And.intro @zL_ @d1) ?_|refine kp (And.intro @zL_ @d1) ?_
  refine Ow.callFV rfl Tryd.call28 (fun w' hw'=>J7_ bw s qq.1 qq.2 w' (hw'.has _ _ List.mem_cons_self)) ?_
  by_cases he:w5_ s qq.1 qq.2=0
  ·have e1': (w5_ s qq.1 qq.2 !=0)=false:=by rw[he];rfl
   have h8:hd.length=8:=hr8 (g2 (hez (acP_ he).1))
   have h8':decide ((0:Int)≤4∧(4:Int)≤ (hd.length:Int))=true:=decide_eq_true (by omega)
   refine ko (And.intro @zL_ @e1') ?_
   first|with_reducible refine ks [] @zL_ ?_|refine kp @zL_ ?_
   refine Ow.callC rfl rfl Tryd.call31 (fun w' hw'=>abt_ (hd.drop 4) v l w' ((Gr.i hG1 (fun c hc=>by simp[hc])).slV hw' rfl rfl z1_) (by omega)) (fun B1 v18 D18 hA18 hB18 hN18 hS18=> ?_)
   have hN:New w.heap.size ((bw,wrO s qq.1 qq.2):: (D1++DG)++D18):=New.app (L:=(bw,wrO s qq.1 qq.2):: (D1++DG)) hNr (hN18.mono hB18)
   unfold OfIS at hS18
   by_cases hok:Zi_ l l.length=true
   ·rw[if_pos hok] at hS18
    obtain⟨bi,rfl,hbi⟩:=hS18
    have hri: (decide ((hd.drop 4).length=4)&&decide (l.length≤200))=jn_ (hd.drop 4) l:=by unfold jn_;rw[hok,Bool.true_and]
    rw[hri]
    cases hr:jn_ (hd.drop 4) l with
    |false=>
     rw[if_neg (by simp)]
     refine ko @zL_ ?_
     first|with_reducible refine ks [] @zL_ ?_|refine kp @zL_ ?_
     refine⟨_,(ke @zL_), ?_⟩
     exact⟨Ext.of_new hN,rfl⟩
    |true=>
     refine ko @zL_ ?_
     refine Cw.rebaseX (S1:=fun v D=>v=if qh_ (wY_ (hd.drop 4) l)=b then .tuple #[vp bi 0,vi 0] else .tuple #[.pointer none,vi 2]) (by rfl) (fun w1 hw1=> ?_) (fun v' D' hD' hv'=> ?_)
     ·have hC1:=hC.newP hw1 hN
      have hb1:w1.heap[bi]? =some (ixO (hd.drop 4) v (xI_ l)):=hw1.has _ _ (by simp[hbi])
      have hv1:RwSl w1 v l:=(Gr.i hG1 (fun c hc=>by simp[hc])).slV hw1 rfl rfl z1_
      obtain⟨-,h4,-⟩:=q4_ hr
      clear hw1
      first|with_reducible refine ks [] (And.intro @zL_ @hb1) ?_|refine kp (And.intro @zL_ @hb1) ?_
      refine Ow.callC rfl rfl Tryd.call12 (fun w' hw'=>Rets.toX (QT_ (hd.drop 4) v l w' (hC1.newP hw' trivial) (hv1.oldN hw' trivial) (by omega) (by omega))) (fun B2 v2 D2 hA2 hB2 hN2 hS2=> ?_)
      obtain⟨rfl,Z,hZ,rfl⟩:=hS2
      rw[afR_ hr hZ,List.append_nil]
      refine ko @zL_ ?_
      by_cases hbb:qh_ (wY_ (hd.drop 4) l)=b
      ·have d5: (qh_ (wY_ (hd.drop 4) l) !=b)=false:=bne_eq_false_iff_eq.2 hbb
       rw[if_pos hbb]
       first|with_reducible refine ks [] (And.intro @zL_ @d5) ?_|refine kp (And.intro @zL_ @d5) ?_
       refine⟨_,(ke @zL_), ?_⟩
       exact⟨Ext.refl w1 [],rfl⟩
      ·have d5: (qh_ (wY_ (hd.drop 4) l) !=b)=true:=bne_iff_ne.2 hbb
       rw[if_neg hbb]
       first|with_reducible refine ks [] (And.intro @zL_ @d5) ?_|refine kp (And.intro @zL_ @d5) ?_
       refine⟨_,(ke @zL_), ?_⟩
       exact⟨Ext.refl w1 [],rfl⟩
     ·refine⟨Ext.of_new (hN.app hD'), ?_⟩
      by_cases hbb:qh_ (wY_ (hd.drop 4) l)=b
      ·rw[if_pos hbb] at hv'
       rw[if_pos ⟨he,rfl,hbb⟩]
       exact⟨bi,hv',v,(by simp[hbi]),Gr.i hG1 (fun c hc=>by simp[hc])⟩
      ·rw[if_neg hbb] at hv'
       rw[if_neg (fun h=>hbb h.2.2)]
       exact hv'
   ·rw[if_neg hok] at hS18
    subst hS18
    rw[if_neg (fun h=>hok (q4_ h.2.1).1)]
    refine ko @zL_ ?_
    first|with_reducible refine ks [] @zL_ ?_|refine kp @zL_ ?_
    refine⟨_,(ke @zL_), ?_⟩
    exact⟨Ext.of_new hN,rfl⟩
  ·have e1': (w5_ s qq.1 qq.2 !=0)=true:=bne_iff_ne.2 he
   rw[if_neg (fun h=>he h.1)]
   refine ko (And.intro @zL_ @e1') ?_
   first|with_reducible refine ks [] @zL_ ?_|refine kp @zL_ ?_
   refine⟨_,(ke @zL_), ?_⟩
   exact⟨Ext.of_new hNr,rfl⟩
end Go.Proofs
end
section
open Go Go.Proofs Go.Sx Go.Dig
namespace Go.Proofs
set_option maxRecDepth 10000
set_option maxHeartbeats 1000000
set_option linter.unusedSimpArgs false
set_option linter.defProp false
def anK_:=And.intro (@ze_) (@zd_)
end Go.Proofs
end
section
open Go Go.Proofs Go.Sx Go.StP Go.Flo Go.Dig
namespace Go.Proofs
set_option maxRecDepth 10000
set_option maxHeartbeats 400000
set_option linter.unusedSimpArgs false
theorem alk_ (b o:Nat):qC_ Tryd.prog .eql 41 (vp b o) (.pointer none)=some (.bool false):=by
 simp[qC_,eqX,qy_,qg_,Tryd.underlying41,vp]
theorem ajz_:qC_ Tryd.prog .eql 41 (.pointer none) (.pointer none)=some (.bool true):=by
 simp[qC_,eqX,qy_,qg_,Tryd.underlying41]
theorem ajw_ (v:Value) (n:Nat) (E:TypeId) (fz:Nat×Nat):zn_ (some (false,n)) (some (.cells #[v] E fz)) 0=some v:=(rfl)
theorem afW_:Value.cells (.pointer none)= #[.pointer none]:=(rfl)
theorem agK_ (b o:Nat):Value.cells (vp b o)= #[vp b o]:=(rfl)
theorem afC_ (s:List UInt8) (v1:Value) (l:List RwL) (n:Nat):zn_ (some (false,n)) (some (ixO s v1 (xI_ l))) 2=some (vi ((xM_ l 0:Nat):Int)):=by
 have:=ZE_ s v1 (xI_ l) n 0 (by rw[k7_];omega)
 rwa [show(xI_ l).getD 0 0=xM_ l 0 from rfl] at this
theorem aeu_ (l:List RwL) {d:Nat} (h:d<16): (xI_ l).getD d 0=xM_ l d:=by
 unfold xI_
 rw[List.getD_eq_getElem?_getD,List.getElem?_map,List.getElem?_range h];rfl
def Zm_ (p:Nat→Bool) (i j:Nat):Nat:=if i<j then(if p ((i+j) / 2)=true then Zm_ p i ((i+j) / 2) else Zm_ p ((i+j) / 2+1) j) else i
termination_by j - i
decreasing_by all_goals omega
theorem kS_ (p:Nat→Bool): ∀ (n i j:Nat),j - i≤n→i≤j→i≤Zm_ p i j∧Zm_ p i j≤j∧(Zm_ p i j=i∨p (Zm_ p i j - 1)=false)∧(Zm_ p i j=j∨p (Zm_ p i j)=true)
 |0,i,j,h,hij=>by
  rw[Zm_,if_neg (by omega)]
  exact⟨Nat.le_refl _,hij, .inl rfl, .inl (by omega)⟩
 |n+1,i,j,h,hij=>by
  rw[Zm_]
  by_cases hlt:i<j
  ·rw[if_pos hlt]
   cases hp:p ((i+j) / 2) with
   |true=>
    rw[if_pos rfl]
    obtain⟨h1,h2,h3,h4⟩:=kS_ p n i ((i+j) / 2) (by omega) (by omega)
    refine⟨h1,by omega,h3, ?_⟩
    rcases h4 with h4|h4
    ·right;rw[h4];exact hp
    ·exact .inr h4
   |false=>
    rw[if_neg (by simp)]
    obtain⟨h1,h2,h3,h4⟩:=kS_ p n ((i+j) / 2+1) j (by omega) (by omega)
    refine⟨by omega,h2, ?_,h4⟩
    rcases h3 with h3|h3
    ·right;rw[h3,Nat.add_sub_cancel];exact hp
    ·exact .inr h3
  ·rw[if_neg hlt]
   exact⟨Nat.le_refl _,hij, .inl rfl, .inl (by omega)⟩
section
variable {P:Program} {w0:World} {f:Fr} {L:za_} {N:Fr→za_→Prop} {ops:Array Oper} {rest:List Oper} {md:Md} {d:Option Tmp} {ty:TypeId} {ps:String} {af:Array Edge} {g:Option (Nat×Bool)}
theorem Ow.callFn1C {x y:Operand} {ts:Array TypeId} {k:FuncId} {v a:Value} {cap:Array Value} (hs:zk_ ops f ⟨d, .call ⟨.value x, #[y],ts⟩,ty,ps,af,g⟩=false) (hx:ev f x= .func (.func k) #[] cap) (hy:ev f y=a)
  (hk: ∀a w,(callFunc k a).run P w= .ok (.enter k a) w) (hc: ∀w,Hp w0 L w→Rets P k (#[a]++cap) w (fun v' D=>v'=v∧D= [])) (hn:Ow P w0 ops md.next rest (qj_ f d v) L N):
  Ow P w0 ops md (⟨d, .call ⟨.value x, #[y],ts⟩,ty,ps,af,g⟩::rest) f L N:=
 Ow.callV hs hx hk (fun w hw=>by simpa [hy] using hc w hw) hn
end
structure SrG where
 i:Nat
 j:Nat
set_option linter.defProp false
def Ka_:=And.intro (@ze_) (And.intro (@zd_) (@vX_))
theorem Wc_ (p:Nat→Bool) (n k:Nat) (cap:Array Value) (w:World) (hn:n<1000000) (hk: ∀a w,(callFunc k a).run Tryd.prog w= .ok (.enter k a) w) (hc: ∀i,i<n→ ∀w',Hp w [] w'→Rets Tryd.prog k (#[vi (i:Int)]++cap) w' (fun v D=>v= .bool (p i)∧D= [])):
  Rets Tryd.prog 34 #[vi n, .func (.func k) #[] cap] w (fun v D=>v=vi (Zm_ p 0 n:Nat)∧D= []):=by
 refine Rets.enterV Tryd.func34 rfl (rs:= [.tmp 4]) Tryd.results34 Tryd.ntmps34 ?_
 refine kf ?_
 obtain⟨r,hr⟩: ∃r,r=Zm_ p 0 n:=⟨_,rfl⟩
 rw[←hr]
 first|with_reducible refine ks [] @Ka_ ?_|refine kp @Ka_ ?_
 refine Cw.loopG (G:=SrG) [9,10,11,12,13,14,15,16,17,7,18,19,20,21,22,23,5,24,6] (fun g=> [(5,vi g.i),(6,vi g.j)]) (fun g=> []) (fun g=>g.i≤g.j∧g.j≤n∧r=Zm_ p g.i g.j) (fun g=>g.j - g.i) ⟨0,n⟩ rfl rfl ?_ ?_
 ·exact⟨Nat.zero_le _,Nat.le_refl _,hr⟩
 intro g j hg
 refine kv ?_
 obtain⟨i,j⟩:=g
 simp only at hg ⊢
 obtain⟨h1,h2,h3⟩:=hg
 by_cases hlt:i<j
 ·have d1:decide ((i:Int)< (j:Int))=true:=decide_eq_true (by omega)
  rw[Zm_,if_pos hlt] at h3
  first|with_reducible refine ks [] (And.intro @Ka_ @d1) ?_|refine kp (And.intro @Ka_ @d1) ?_
  refine Ow.callFn1C (v:= .bool (p ((i+j) / 2))) rfl rfl rfl hk (fun w' hw'=>by have:=hc ((i+j) / 2) (by omega) w' hw';exact this) ?_
  cases hp:p ((i+j) / 2) with
  |true=>
   rw[hp,if_pos rfl] at h3
   refine ko @Ka_ ?_
   exact Again.mk ⟨i,(i+j) / 2⟩ (by show(i+j) / 2 - i<j - i;omega) ⟨by show i≤ (i+j) / 2;omega,by show(i+j) / 2≤n;omega,h3⟩ rfl rfl
  |false=>
   rw[hp,if_neg (by simp)] at h3
   refine ko @Ka_ ?_
   exact Again.mk ⟨(i+j) / 2+1,j⟩ (by show j - ((i+j) / 2+1)<j - i;omega) ⟨by show(i+j) / 2+1≤j;omega,h2,h3⟩ rfl rfl
 ·have d1:decide ((i:Int)< (j:Int))=false:=decide_eq_false (by omega)
  rw[Zm_,if_neg hlt] at h3
  first|with_reducible refine ks [] (And.intro @Ka_ @d1) ?_|refine kp (And.intro @Ka_ @d1) ?_
  refine⟨_,(ke @Ka_),trivial, ?_⟩
  rw[h3];rfl
set_option linter.defProp false
def zK_:=And.intro (And.intro (And.intro (And.intro (@ze_) (@zd_)) (And.intro (@ajw_) (@afW_))) (And.intro (And.intro (@agK_) (@qH_)) (And.intro (@aa6_) (And.intro (@ahi_) (@alk_))))) (And.intro (And.intro (And.intro (@ajz_) (@kg_)) (And.intro (@vc_) (@k0_))) (And.intro (And.intro (@vj_) (@qQ_)) (And.intro (@q6_) (And.intro (@Sx.tup2_0) (@Sx.tup2_1)))))
theorem acy_ (bi:Nat) (s:List UInt8) (l:List RwL) (w:World) (h:IxIn w bi s l) (hl:l.length<1000000):
  Rets Tryd.prog 54 #[vp bi 0] w (XS w [] (fun v D=>GrI D 45 34 v l.length (l.map rwC).flatten)):=by
 obtain⟨x,h1,h2⟩:=id h
 refine Rets.enterX Tryd.func54 rfl (rs:= [.tmp 2]) Tryd.results54 Tryd.ntmps54 (fun p hp=>by cases hp) (by simp[keys]) ?_
 refine kf ?_
 first|with_reducible refine ks [] (And.intro @zK_ @h1) ?_|refine kp (And.intro @zK_ @h1) ?_
 refine Ow.callX (Y:= []) (by simp) rfl rfl Tryd.call37 (fun w' hw' hX hn=>w4_ x l w' (h2.oldN hw' trivial) hl) (fun v2 D2 hC2 hS2=> ?_)
 rw[List.append_nil]
 refine ko @zK_ ?_
 first|with_reducible refine ks [] @zK_ ?_|refine kp @zK_ ?_
 refine⟨_,(ke @zK_), ?_⟩
 exact⟨Ext.of_new (New.of_le fun c hc=>(hC2.new c hc).elim (fun h=>by cases h) fun h=>h.2),Gr.i hS2 fun p hp=>hp⟩
theorem ado_ (bi:Nat) (s:List UInt8) (l:List RwL) (w:World) (h:IxIn w bi s l):Rets Tryd.prog 19 #[vp bi 0] w (fun v D=>v=vs s∧D= []):=by
 obtain⟨x,h1,h2⟩:=id h
 refine Rets.enterV Tryd.func19 rfl (rs:= [.tmp 2]) Tryd.results19 Tryd.ntmps19 ?_
 refine kf ?_
 first|with_reducible refine ks [] (And.intro @zK_ @h1) ?_|refine kp (And.intro @zK_ @h1) ?_
 refine⟨_,(ke @zK_),trivial, ?_⟩
 rfl
theorem ae8_ (bi:Nat) (s:List UInt8) (l:List RwL) (d:Nat) (w:World) (h:IxIn w bi s l) (hd:d<16):
  Rets Tryd.prog 32 #[vp bi 0,vi d] w (fun v D=>v= .tuple #[vi (qS_ l d:Nat),vi (xM_ l d:Nat)]∧D= []):=by
 obtain⟨x,h1,h2⟩:=id h
 refine Rets.enterV Tryd.func32 rfl (rs:= [.tmp 4, .tmp 5]) Tryd.results32 Tryd.ntmps32 ?_
 refine kf ?_
 by_cases h0:d=0
 ·subst h0
  have lf:=afC_ s x l
  have d1: (((0:Nat):Int)==0)=true:=rfl
  first|with_reducible refine ks [] (And.intro @zK_ @d1) ?_|refine kp (And.intro @zK_ @d1) ?_
  refine Cw.regionS [bi] [0,1,2,3,5,4,6] [] (by kernel_rfl) (by kernel_rfl) (by kernel_rfl) ?_
  simp only[zj_, ↓zf_, ↓zb_, ↓zp_, ↓zq_,zc_]
  refine kq (And.intro @zK_ (And.intro @h1 (@lf))) ?_
  try with_reducible refine Ow.nil ?_
  first|with_reducible refine ks [] @zK_ ?_|refine kp @zK_ ?_
  refine⟨_,(ke @zK_),trivial, ?_⟩
  rfl
 ·have d1: ((d:Int)==0)=false:=beq_eq_false_iff_ne.2 (by omega)
  have e1: (d:Int) - 1=((d - 1:Nat):Int):=by omega
  have lf:=fun n=>ZE_ s x (xI_ l) n d (by rw[k7_];omega)
  have lg:=fun n=>ZE_ s x (xI_ l) n (d - 1) (by rw[k7_];omega)
  rw[aeu_ l hd] at lf
  rw[aeu_ l (by omega)] at lg
  first|with_reducible refine ks [] (And.intro @zK_ @d1) ?_|refine kp (And.intro @zK_ @d1) ?_
  refine Cw.regionS [bi] [0,1,2,3,4,5,7,8,9,10,11,6,13,12,14] [] (by kernel_rfl) (by kernel_rfl) (by kernel_rfl) ?_
  simp only[zj_, ↓zf_, ↓zb_, ↓zp_, ↓zq_,zc_]
  refine kq (And.intro @zK_ (And.intro @h1 (And.intro @e1 (And.intro @lf (@lg))))) ?_
  try with_reducible refine Ow.nil ?_
  first|with_reducible refine ks [] @zK_ ?_|refine kp @zK_ ?_
  refine⟨_,(ke @zK_),trivial, ?_⟩
  unfold qS_;rw[if_neg h0];rfl
def askP (l:List RwL) (x:IdL) (from_:Nat) (k:Nat):Bool:=decide (0≤wO_ (l.getD (from_+k) rw0).id x)
theorem ac8_ {w:World} {v:Value} {l:List RwL} {b off:Nat} {arr:Array Value} {E:TypeId} {fz:Nat×Nat} (h:RowS 34 rwC rw0 w v l b off arr E fz) {k:Nat} (hk:k<l.length):ju_ arr (off+k*34) (l.getD k rw0).id.l:=by
 intro j hj
 have hil:=(l.getD k rw0).id.h
 have hj2:j<34:=by rw[hil] at hj;omega
 rw[h.get k hk j hj2]
 generalize l.getD k rw0=r at*
 unfold rwC
 rw[List.getElem?_append_left (by simp only[List.length_map];exact hj),List.getElem?_map,List.getElem?_eq_getElem hj,List.getD_eq_getElem?_getD,List.getElem?_eq_getElem hj]
 rfl
theorem agW_ (x:IdL):ju_ (a8 x.l) 0 x.l:=by
 intro j hj
 rw[Nat.zero_add]
 show(x.l.map v8).toArray[j]? =_
 rw[List.getElem?_toArray,List.getElem?_map,List.getElem?_eq_getElem hj,List.getD_eq_getElem?_getD,List.getElem?_eq_getElem hj]
 rfl
theorem ab6_ (bi:Nat) (s:List UInt8) (l:List RwL) (x:IdL) (from_ k bx bf bd:Nat) (w:World) (h:IxIn w bi s l) (hk:from_+k<l.length) (hx:w.heap[bx]? =some (.cells #[vp bi 0] 41 (0,0))) (hf:w.heap[bf]? =some (.cells #[vi from_] 3 (0,0))) (hd:w.heap[bd]? =some (.cells (a8 x.l) 36 (0,0))) (hl:l.length<1000000):
  Rets Tryd.prog 35 #[vi (k:Int),vp bx 0,vp bf 0,vp bd 0] w (fun v D=>v= .bool (askP l x from_ k)∧D= []):=by
 obtain⟨v1,h1,h2⟩:=id h
 obtain⟨rb,off,arr,E,fz,hr⟩:=h2.row
 have hb:=hr.has (by omega)
 have e1: (from_:Int)+ (k:Int)=((from_+k:Nat):Int):=by omega
 have ix:=hr.idx true (from_+k) hk
 have hby:=ac8_ hr hk
 refine Rets.enterV Tryd.func35 rfl (rs:= [.tmp 5]) Tryd.results35 Tryd.ntmps35 ?_
 refine kf ?_
 first|with_reducible refine ks [] @zK_ ?_|refine kp @zK_ ?_
 refine Cw.regionS [bx,bf,bi] [5,10,0,1,2,3,4,6,7,8,9,11,12,13] [] (by kernel_rfl) (by kernel_rfl) (by kernel_rfl) ?_
 simp only[zj_, ↓zf_, ↓zb_, ↓zp_, ↓zq_,zc_]
 refine kq (And.intro @zK_ (And.intro @hx (And.intro @hf (And.intro @h1 (And.intro @e1 (@ix)))))) ?_
 refine Ow.soft rfl rfl rfl ?_
 refine Ow.callFV rfl Tryd.call36 (fun w' hw'=>afG_ (x:=(l.getD (from_+k) rw0).id) (y:=x) (by rw[hw'.old rb (Array.getElem?_eq_some_iff.1 hb).1 (by simp[keys])];exact hb) hby (by rw[hw'.old bd (Array.getElem?_eq_some_iff.1 hd).1 (by simp[keys])];exact hd) (agW_ x)) ?_
 with_reducible refine Ow.nil ?_
 refine⟨by intro b hb;simp only[List.mem_cons,List.not_mem_nil,or_false] at hb;(try subst hb);rfl, ?_⟩
 refine kq @zK_ ?_
 try with_reducible refine Ow.nil ?_
 first|with_reducible refine ks [] @zK_ ?_|refine kp @zK_ ?_
 refine⟨_,(ke @zK_),trivial, ?_⟩
 rfl
theorem alc_ {n:Nat} {E:za_} {o:Obj} {Q:Nat→Prop} (h:E= []∨ ∃b,E= [(b,o)]∧n≤b∧Q b):New n E:=by
 rcases h with rfl| ⟨b,rfl,h,-⟩
 ·trivial
 ·exact⟨h,trivial⟩
theorem JO_ (bi:Nat) (s:List UInt8) (l:List RwL) (x:IdL) (w:World) (h:IxIn w bi s l) (hok:Zi_ l l.length=true) (hl:l.length<1000000):
  Rets Tryd.prog 11 #[vp bi 0, .agg (a8 x.l)] w (fun v D=>v= .tuple #[.agg (rwC (xj_ l x).1).toArray, .bool (xj_ l x).2]∧D= []):=by
 obtain⟨v1,h1,h2⟩:=id h
 obtain⟨rb,off,arr,E,fz,hr⟩:=h2.row
 have hbil:=(Array.getElem?_eq_some_iff.1 h1).1
 have hd16:=abc_ x
 have hfl:=aiu_ (l:=l) (zO_ x)
 have hfn:=afs_ l (zO_ x)
 have hbs:=kS_ (askP l x (qS_ l (zO_ x))) _ 0 (xM_ l (zO_ x) - qS_ l (zO_ x)) (Nat.le_refl _) (Nat.zero_le _)
 generalize hat:Zm_ (askP l x (qS_ l (zO_ x))) 0 (xM_ l (zO_ x) - qS_ l (zO_ x))=at_ at hbs
 have hfa:=aiH_ hok x (at_:=qS_ l (zO_ x)+at_) (by omega) (by omega) (by
  rcases hbs.2.2.1 with e|e
  ·left;omega
  ·by_cases h0:at_=0
   ·left;omega
   ·right
    unfold askP at e
    rw[show qS_ l (zO_ x)+at_ - 1=qS_ l (zO_ x)+ (at_ - 1) by omega]
    rw[decide_eq_false_iff_not] at e
    exact cmpI_lt.1 (Int.not_le.1 e)) (by
  rcases hbs.2.2.2 with e|e
  ·left;omega
  ·right
   unfold askP at e
   rw[decide_eq_true_eq] at e
   exact cmpI_ge.1 e)
 rw[hfa]
 refine Rets.enterV Tryd.func11 rfl (rs:= [.cell 4 45, .tmp 5]) Tryd.results11 Tryd.ntmps11 ?_
 refine kf ?_
 first|with_reducible refine ks [] @zK_ ?_|refine kp @zK_ ?_
 refine Ow.box rfl rfl fun b2 hb2 hw2=> ?_
 simp only[jL_,jr_,jq_,zg_,List.nil_append,List.cons_append]
 refine Ow.go rfl ?_
 simp(disch:=(first|assumption|omega| (simp only[xN_,xT_,UInt64.reduceToNat];try omega))) only[↓Sx.S0,Sx.S1,Tryd.fx,zK_,Nat.reduceAdd,Nat.reducePow,Int.reducePow,Nat.reduceBEq, ↓reduceIte,UInt8.reduceToNat,UInt16.reduceToNat,UInt32.reduceToNat,UInt64.reduceToNat,Int.reduceToNat]
 refine Ow.box rfl rfl fun b3 hb3 hw3=> ?_
 simp only[jL_,jr_,jq_,zg_,List.nil_append,List.cons_append]
 refine Ow.go rfl ?_
 simp(disch:=(first|assumption|omega| (simp only[xN_,xT_,UInt64.reduceToNat];try omega))) only[↓Sx.S0,Sx.S1,Tryd.fx,zK_,Nat.reduceAdd,Nat.reducePow,Int.reducePow,Nat.reduceBEq, ↓reduceIte,UInt8.reduceToNat,UInt16.reduceToNat,UInt32.reduceToNat,UInt64.reduceToNat,Int.reduceToNat]
 refine Ow.alloc rfl rfl zrRw fun b4 hb4 hw4=> ?_
 simp only[zg_,List.nil_append,List.cons_append]
 obtain⟨h23,-⟩:=hb3
 obtain⟨h24,h34,-⟩:=hb4
 refine Ow.permL (M:= [(b4, .cells (rwC rw0).toArray 45 (0,0)),(b2, .cells #[vp bi 0] 41 (0,0)),(b3, .cells (a8 x.l) 36 (0,0))]) (by classical exact List.perm_iff_count.2 fun a=>by simp only[List.count_append,List.count_cons,List.count_nil]<;>omega) ?_
 refine ko @zK_ ?_
 have hN4:New w.heap.size [(b4,Obj.cells (rwC rw0).toArray 45 (0,0)),(b2, .cells #[vp bi 0] 41 (0,0)),(b3, .cells (a8 x.l) 36 (0,0))]:=⟨hw4,hw2,hw3,trivial⟩
 first|with_reducible refine ks [] @zK_ ?_|refine kp @zK_ ?_
 refine Cw.regionD [b2,b3] [8] 7 6 3 9 _ rfl (by kernel_rfl) (by kernel_rfl) rfl (by kernel_rfl) (id (by kernel_rfl):qd_ Tryd.prog 3=some (vi 0)) (fun hD=> ?_)
 simp only[List.replicate_succ,List.replicate_zero]
 refine OwD.run [0,1] [true,true,false,false,false,false,false,false,false,false] 7 rfl hD (by kernel_rfl) fun k hk=> ?_
 simp only[zj_, ↓zf_, ↓zb_, ↓zp_, ↓zq_,zc_]
 simp(disch:=(first|assumption|omega| (simp only[xN_,xT_,UInt64.reduceToNat];try omega))) only[↓Sx.S0,Sx.S1,Tryd.fx,zK_,Nat.reduceAdd,Nat.reducePow,Int.reducePow,Nat.reduceBEq, ↓reduceIte,UInt8.reduceToNat,UInt16.reduceToNat,UInt32.reduceToNat,UInt64.reduceToNat,Int.reduceToNat,Md.next_sofnil,Md.next_sofnil]
 (with_reducible refine hk _ _ _ ?_);clear hk k
 refine OwD.soft 2 _ hD rfl (by kernel_rfl) (fun E hE=> ?_)
 refine Ow.callFV rfl Tryd.call33 (fun w' hw'=>ZO_ x w') ?_
 with_reducible refine Ow.nil ?_
 refine⟨_,List.Perm.refl _,fun _ _=>rfl, ?_⟩
 simp only[List.set_cons_zero,List.set_cons_succ,Qu_,kC_,kv_]
 refine OwD.soft 3 _ hD rfl (by kernel_rfl) (fun E2 hE2=> ?_)
 have hN2:=hN4.app (alc_ hE2)
 refine Ow.callFV rfl Tryd.call32 (fun w' hw'=>ae8_ bi s l (zO_ x) w' (h.old hw' hN2) hd16) ?_
 with_reducible refine Ow.nil ?_
 refine⟨_,List.Perm.refl _,fun _ _=>rfl, ?_⟩
 simp only[List.set_cons_zero,List.set_cons_succ,Qu_,kC_,kv_]
 refine OwD.run [4,5,6] [true,true,true,true,true,true,true,false,false,false] 2 rfl hD (by kernel_rfl) fun k hk=> ?_
 simp only[zj_, ↓zf_, ↓zb_, ↓zp_, ↓zq_,zc_]
 simp(disch:=(first|assumption|omega| (simp only[xN_,xT_,UInt64.reduceToNat];try omega))) only[↓Sx.S0,Sx.S1,Tryd.fx,zK_,Nat.reduceAdd,Nat.reducePow,Int.reducePow,Nat.reduceBEq, ↓reduceIte,UInt8.reduceToNat,UInt16.reduceToNat,UInt32.reduceToNat,UInt64.reduceToNat,Int.reduceToNat,Md.next_sofnil,Sx.tup2_0,Sx.tup2_1]
 (with_reducible refine hk _ _ _ ?_);clear hk k
 refine OwD.real [8,9] rfl hD (by kernel_rfl) (by kernel_rfl) (by kernel_rfl) (by kernel_rfl) (fun r hr=>by simp only[List.mem_cons,List.not_mem_nil,or_false] at hr;rcases hr with rfl|rfl<;>exact .inl (by simp[keys])) ?_
 simp only[zj_, ↓zf_, ↓zb_, ↓zp_, ↓zq_,zc_]
 intro b6 hw6 hbL
 simp only[kC_,kv_]
 refine Ow.store rfl rfl rfl (L':= [(b4, .cells (rwC rw0).toArray 45 (0,0)),(b2, .cells #[vp bi 0] 41 (0,0)),(b3, .cells (a8 x.l) 36 (0,0))]++ [(b6, .cells #[vi (qS_ l (zO_ x):Nat)] 3 (0,0))]) ?_ ?_
 ·simp only[jL_,jr_,jq_]
  have hst: ∀ (a:Bool) (n:Int),zl_ (some (a,1)) (some (Obj.cells (Value.cells (vi 0)) 3 (0,0))) 0 (vi n)=some (.cells #[vi n] 3 (0,0)):=fun _ _=>rfl
  rw[Tryd.ag3,Vc_,aap_ hbL,hst,abi_,JN_ hbL]
  exact []
 refine ko @zK_ ?_
 refine Cw.permL (M:= [(b6, .cells #[vi (qS_ l (zO_ x):Nat)] 3 (0,0)),(b4, .cells (rwC rw0).toArray 45 (0,0)),(b2, .cells #[vp bi 0] 41 (0,0)),(b3, .cells (a8 x.l) 36 (0,0))]) (by classical exact List.perm_iff_count.2 fun a=>by simp only[List.count_append,List.count_cons,List.count_nil]<;>omega) ?_
 have h62:b2≠b6:=by simp[keys] at hbL;omega
 have h63:b3≠b6:=by simp[keys] at hbL;omega
 have h64:b4≠b6:=by simp[keys] at hbL;omega
 have hN6:New w.heap.size [(b6,Obj.cells #[vi (qS_ l (zO_ x):Nat)] 3 (0,0)),(b4,Obj.cells (rwC rw0).toArray 45 (0,0)),(b2,Obj.cells #[vp bi 0] 41 (0,0)),(b3,Obj.cells (a8 x.l) 36 (0,0))]:=⟨hw6,hN4⟩
 have ef: ((xM_ l (zO_ x):Nat):Int) - ((qS_ l (zO_ x):Nat):Int)=((xM_ l (zO_ x) - qS_ l (zO_ x):Nat):Int):=by omega
 have hcb: ∀w',Hp w [(b6,Obj.cells #[vi (qS_ l (zO_ x):Nat)] 3 (0,0)),(b4,Obj.cells (rwC rw0).toArray 45 (0,0)),(b2,Obj.cells #[vp bi 0] 41 (0,0)),(b3,Obj.cells (a8 x.l) 36 (0,0))] w'→Rets Tryd.prog 34 #[vi ((xM_ l (zO_ x) - qS_ l (zO_ x):Nat):Int), .func (.func 35) #[] #[vp b2 0,vp b6 0,vp b3 0]] w' (fun v D=>v=vi (Zm_ (askP l x (qS_ l (zO_ x))) 0 (xM_ l (zO_ x) - qS_ l (zO_ x)):Nat)∧D= []):=fun w' hw'=>
  Wc_ (askP l x (qS_ l (zO_ x))) (xM_ l (zO_ x) - qS_ l (zO_ x)) 35 #[vp b2 0,vp b6 0,vp b3 0] w' (by omega) Tryd.call35 fun i hi w2 hw2=>by
   have hh: ∀b o,(b,o)∈ [(b6,Obj.cells #[vi (qS_ l (zO_ x):Nat)] 3 (0,0)),(b4,Obj.cells (rwC rw0).toArray 45 (0,0)),(b2,Obj.cells #[vp bi 0] 41 (0,0)),(b3,Obj.cells (a8 x.l) 36 (0,0))]→w2.heap[b]? =some o:=fun b o hm=>(hw'.trans_nil hw2).has b o hm
   exact ab6_ bi s l x (qS_ l (zO_ x)) i b2 b6 b3 w2 (h.old (hw'.trans_nil hw2) hN6) (by omega) (hh b2 _ (by simp)) (hh b6 _ (by simp)) (hh b3 _ (by simp)) hl
 first|with_reducible refine ks [] @zK_ ?_|refine kp @zK_ ?_
 refine Cw.regionS [b6] [1,4,0,2,3,5,6,7] [] (by kernel_rfl) (by kernel_rfl) (by kernel_rfl) ?_
 simp only[zj_, ↓zf_, ↓zb_, ↓zp_, ↓zq_,zc_]
 refine kq (And.intro @zK_ @ef) ?_
 refine Ow.soft rfl rfl rfl ?_
 simp only[List.map_toArray,List.map_cons,List.map_nil,jL_,jr_,jq_]
 refine Ow.callFV rfl Tryd.call34 (fun w' hw'=>hcb w' hw') ?_
 rw[hat]
 with_reducible refine Ow.nil ?_
 refine⟨by intro b hb;simp only[List.mem_cons,List.not_mem_nil,or_false] at hb;(try subst hb);rfl, ?_⟩
 have ea: ((qS_ l (zO_ x):Nat):Int)+ (at_:Int)=((qS_ l (zO_ x)+at_:Nat):Int):=by omega
 refine kq (And.intro @zK_ @ea) ?_
 try with_reducible refine Ow.nil ?_
 have hatn:qS_ l (zO_ x)+at_≤xM_ l (zO_ x):=by omega
 generalize qS_ l (zO_ x)+at_=ap at*
 generalize xM_ l (zO_ x)=tp at*
 by_cases hap:ap=tp
 ·subst hap
  rw[if_neg (fun h=>h.1 rfl)]
  have d1: ((ap:Int)==(ap:Int))=true:=beq_self_eq_true _
  first|with_reducible refine ks [] @zK_ ?_|refine kp @zK_ ?_
  refine Cw.regionS [b2,b3,bi,rb] [0,1,2,3,8,4,5,6,7,9,10,11,12,13,14] [] (by kernel_rfl) (by kernel_rfl) (by kernel_rfl) ?_
  simp only[zj_, ↓zf_, ↓zb_, ↓zp_, ↓zq_,zc_]
  refine kq (And.intro @zK_ @d1) ?_
  try with_reducible refine Ow.nil ?_
  first|with_reducible refine ks [] @zK_ ?_|refine kp @zK_ ?_
  refine Ow.build (.agg (rwC rw0).toArray) rfl (by rw[show QW_ Tryd.prog 45=some [(0,32),(32,1),(33,1)] from id (by kernel_rfl),zrRw];simp[jb_,Sx.fillV]) ?_
  refine Ow.permL (M:= [(b4, .cells (rwC rw0).toArray 45 (0,0)),(b6, .cells #[vi (qS_ l (zO_ x):Nat)] 3 (0,0)),(b2, .cells #[vp bi 0] 41 (0,0)),(b3, .cells (a8 x.l) 36 (0,0))]) (by classical exact List.perm_iff_count.2 fun a=>by simp only[List.count_append,List.count_cons,List.count_nil]<;>omega) ?_
  refine ko @zK_ ?_
  first|with_reducible refine ks [] @zK_ ?_|refine kp @zK_ ?_
  refine⟨_,(ke @zK_),⟨hw4,hw6,hw2,hw3,trivial⟩, ?_⟩
  rfl
 ·have hapl:ap<l.length:=by omega
  have hb:=hr.has (by omega)
  have hrl:=hr.lt (by omega)
  have d1: ((ap:Int)==(tp:Int))=false:=beq_eq_false_iff_ne.2 (by omega)
  have ix:=hr.idx true ap hapl
  have ld:=hr.load z1_ (by omega) hapl
  have ldi:=aiO_ hr hapl
  rw[Nat.add_zero] at ldi
  generalize l.getD ap rw0=r at*
  have hn2:b2≠rb:=by omega
  have hn3:b3≠rb:=by omega
  have hn4:b4≠rb:=by omega
  have hn6:b6≠rb:=by omega
  have hn2':b2≠bi:=by omega
  have hn3':b3≠bi:=by omega
  have hn4':b4≠bi:=by omega
  have hn6':b6≠bi:=by omega
  first|with_reducible refine ks [] @zK_ ?_|refine kp @zK_ ?_
  refine Cw.regionS [b2,b3,bi,rb] [0,1,2,3,8,4,5,6,7,9,10,11,12,13,14] [] (by kernel_rfl) (by kernel_rfl) (by kernel_rfl) ?_
  simp only[zj_, ↓zf_, ↓zb_, ↓zp_, ↓zq_,zc_]
  refine kq (And.intro @zK_ (And.intro @d1 (And.intro @h1 (And.intro @hb (And.intro @ix (And.intro @ldi (@W3_))))))) ?_
  try with_reducible refine Ow.nil ?_
  by_cases he:r.id.l=x.l
  ·have d2: (r.id.l==x.l)=true:=beq_iff_eq.2 he
   rw[if_pos ⟨hap,he⟩]
   first|with_reducible refine ks [] (And.intro @zK_ (And.intro @d2 (And.intro @h1 (And.intro @hb (And.intro @ix (@ld)))))) ?_|refine kp (And.intro @zK_ (And.intro @d2 (And.intro @h1 (And.intro @hb (And.intro @ix (@ld)))))) ?_
   refine⟨_,(ke @zK_),⟨hw6,hw4,hw2,hw3,trivial⟩, ?_⟩
   rfl
  ·have d2: (r.id.l==x.l)=false:=beq_eq_false_iff_ne.2 he
   rw[if_neg (fun h=>he h.2)]
   first|with_reducible refine ks [] (And.intro @zK_ @d2) ?_|refine kp (And.intro @zK_ @d2) ?_
   refine Ow.build (.agg (rwC rw0).toArray) rfl (by rw[show QW_ Tryd.prog 45=some [(0,32),(32,1),(33,1)] from id (by kernel_rfl),zrRw];simp[jb_,Sx.fillV]) ?_
   refine Ow.permL (M:= [(b4, .cells (rwC rw0).toArray 45 (0,0)),(b6, .cells #[vi (qS_ l (zO_ x):Nat)] 3 (0,0)),(b2, .cells #[vp bi 0] 41 (0,0)),(b3, .cells (a8 x.l) 36 (0,0))]) (by classical exact List.perm_iff_count.2 fun a=>by simp only[List.count_append,List.count_cons,List.count_nil]<;>omega) ?_
   refine ko @zK_ ?_
   first|with_reducible refine ks [] @zK_ ?_|refine kp @zK_ ?_
   refine⟨_,(ke @zK_),⟨hw4,hw6,hw2,hw3,trivial⟩, ?_⟩
   rfl
def akB_ (pre:List UInt8) (r:RwL):Bool:=decide (pre.length≤ (hexV r.id.l).length)&& ((hexV r.id.l).take pre.length==pre)
def amh_ (l:List RwL) (pre:List UInt8):List RwL:=l.filter (akB_ pre)
structure UnG where
 k:Nat
 v:Value
 D1:za_
 DG:za_
end Go.Proofs
end
section
open Go Go.Proofs Go.Sx Go.StP Go.Flo
namespace Go.Proofs
set_option maxRecDepth 100000
set_option maxHeartbeats 1000000
set_option linter.unusedSimpArgs false
structure LnL where
 id:IdL
 share:Int
 place:Int
 spot:Int
def lnC (r:LnL):List Value:=r.id.l.map v8++ ([vi r.share]++ ([vi r.place]++ ([vi r.spot])))
def ln0:LnL:=⟨id0,0,0,0⟩
theorem qc_ (r:LnL): (lnC r).length=35:=by simp[lnC,r.id.h]
theorem q7_ (r:LnL):Value.cells (.agg (lnC r).toArray)=(lnC r).toArray:=zg_ _
theorem Z0_ (r:LnL): (lnC r).all Value.oneCell'=true:=by
 unfold lnC
 simp only[List.all_append,List.all_cons,List.all_nil,Z3_,Bool.and_true,Bool.true_and]
 rfl
theorem Kc_:qd_ Tryd.prog 38=some (.agg (lnC ln0).toArray):=id (by kernel_rfl)
theorem afS_:qr_ Tryd.prog 38=some (true,35):=id (by kernel_rfl)
theorem ahS_ (r:LnL):lnC r=([]:List Value)++ ((r.id.l.map v8)++ ([vi r.share]++ ([vi r.place]++ ([vi r.spot])))):=by
 unfold lnC;simp only[List.append_assoc,List.nil_append,List.append_nil]
theorem kd_ (r:LnL) (E:TypeId) (fz:Nat×Nat):zn_ (some (true,32)) (some (.cells (lnC r).toArray E fz)) 0=some (Value.agg (a8 r.id.l)):=by
 rw[ahS_,x8_ _ _ _ E fz (by simp) (by simp[r.id.h])];rfl
theorem ad6_ (r:LnL):lnC r=((r.id.l.map v8))++ (([vi r.share])++ ([vi r.place]++ ([vi r.spot]))):=by
 unfold lnC;simp only[List.append_assoc,List.nil_append,List.append_nil]
theorem k8_ (r:LnL) (n:Nat) (E:TypeId) (fz:Nat×Nat):zn_ (some (false,n)) (some (.cells (lnC r).toArray E fz)) 32=some (vi r.share):=by
 rw[ad6_];exact qG_ _ _ _ n E fz (by simp[r.id.h])
theorem aeY_ (r:LnL) (x:Int) (a:Bool) (E:TypeId):zl_ (some (a,1)) (some (.cells (lnC r).toArray E (0,0))) 32 (vi x)=some (.cells (lnC {r with share:=x}).toArray E (0,0)):=by
 rw[ad6_ r,ad6_ {r with share:=x}];exact zY_ _ _ _ _ a _ E (by simp[r.id.h]) rfl (rfl) rfl (rfl)
theorem aej_ (r:LnL):lnC r=((r.id.l.map v8)++ ([vi r.share]))++ (([vi r.place])++ ([vi r.spot])):=by
 unfold lnC;simp only[List.append_assoc,List.nil_append,List.append_nil]
theorem v0_ (r:LnL) (n:Nat) (E:TypeId) (fz:Nat×Nat):zn_ (some (false,n)) (some (.cells (lnC r).toArray E fz)) 33=some (vi r.place):=by
 rw[aej_];exact qG_ _ _ _ n E fz (by simp[r.id.h])
theorem adO_ (r:LnL) (x:Int) (a:Bool) (E:TypeId):zl_ (some (a,1)) (some (.cells (lnC r).toArray E (0,0))) 33 (vi x)=some (.cells (lnC {r with place:=x}).toArray E (0,0)):=by
 rw[aej_ r,aej_ {r with place:=x}];exact zY_ _ _ _ _ a _ E (by simp[r.id.h]) rfl (rfl) rfl (rfl)
theorem adF_ (r:LnL):lnC r=((r.id.l.map v8)++ ([vi r.share])++ ([vi r.place]))++ (([vi r.spot])++ (([]:List Value))):=by
 unfold lnC;simp only[List.append_assoc,List.nil_append,List.append_nil]
theorem Zw_ (r:LnL) (n:Nat) (E:TypeId) (fz:Nat×Nat):zn_ (some (false,n)) (some (.cells (lnC r).toArray E fz)) 34=some (vi r.spot):=by
 rw[adF_];exact qG_ _ _ _ n E fz (by simp[r.id.h])
theorem aeO_ (r:LnL) (x:Int) (a:Bool) (E:TypeId):zl_ (some (a,1)) (some (.cells (lnC r).toArray E (0,0))) 34 (vi x)=some (.cells (lnC {r with spot:=x}).toArray E (0,0)):=by
 rw[adF_ r,adF_ {r with spot:=x}];exact zY_ _ _ _ _ a _ E (by simp[r.id.h]) rfl (rfl) rfl (rfl)
theorem wC_ (r:LnL) (E:TypeId) (fz:Nat×Nat):zn_ (some (true,35)) (some (.cells (lnC r).toArray E fz)) 0=some (.agg (lnC r).toArray):=xb_ _ E fz 35 (by rw[List.size_toArray,qc_])
theorem agp_ (old:Array Value) (r:LnL) (a:Bool) (E:TypeId) (h:old.size=35):zl_ (some (a,35)) (some (.cells old E (0,0))) 0 (.agg (lnC r).toArray)=some (.cells (lnC r).toArray E (0,0)):=xq_ _ a old E (qc_ r) (Z0_ r) h
theorem xp_ (r r':LnL) (a:Bool) (E:TypeId):zl_ (some (a,35)) (some (.cells (lnC r').toArray E (0,0))) 0 (.agg (lnC r).toArray)=some (.cells (lnC r).toArray E (0,0)):=agp_ _ r a E (by rw[List.size_toArray,qc_])
theorem agI_ (r:LnL):jb_ (QW_ Tryd.prog 38) (qd_ Tryd.prog 38) [(0,Value.agg (a8 r.id.l)),(1,vi r.share),(2,vi r.place),(3,vi r.spot)]=some (.agg (lnC r).toArray):=by
 have hp:QW_ Tryd.prog 38=some [(0,32),(32,1),(33,1),(34,1)]:=id (by kernel_rfl)
 rw[hp,Kc_]
 have e0: (lnC ln0).toArray=(([]:List Value)++ ((ln0.id.l.map v8)++ ([vi ln0.share]++ ([vi ln0.place]++ ([vi ln0.spot]))))).toArray:=by congr 1<;>simp only[lnC,List.append_assoc,List.nil_append,List.append_nil]
 have q0:x3_ (([]:List Value)++ ((ln0.id.l.map v8)++ ([vi ln0.share]++ ([vi ln0.place]++ ([vi ln0.spot]))))).toArray 0 (r.id.l.map v8)=(([]:List Value)++ ((r.id.l.map v8)++ ([vi ln0.share]++ ([vi ln0.place]++ ([vi ln0.spot]))))).toArray:=xk_ _ _ _ _ (by simp) (by simp[ln0.id.h,r.id.h])
 have s0: (([]:List Value)++ ((ln0.id.l.map v8)++ ([vi ln0.share]++ ([vi ln0.place]++ ([vi ln0.spot]))))).toArray.size=35:=by simp[r.id.h,ln0.id.h]
 have z0: (Value.cells (Value.agg (a8 r.id.l))).toList=r.id.l.map v8:=by rw[zg_];rfl
 have y0: (Value.cells (Value.agg (a8 r.id.l))).size=32:=by rw[←Array.length_toList,z0];simp[r.id.h]
 have e1: (([]:List Value)++ ((r.id.l.map v8)++ ([vi ln0.share]++ ([vi ln0.place]++ ([vi ln0.spot]))))).toArray=(((r.id.l.map v8))++ (([vi ln0.share])++ ([vi ln0.place]++ ([vi ln0.spot])))).toArray:=by congr 1<;>simp only[lnC,List.append_assoc,List.nil_append,List.append_nil]
 have q1:x3_ (((r.id.l.map v8))++ (([vi ln0.share])++ ([vi ln0.place]++ ([vi ln0.spot])))).toArray 32 ([vi r.share])=(((r.id.l.map v8))++ (([vi r.share])++ ([vi ln0.place]++ ([vi ln0.spot])))).toArray:=xk_ _ _ _ _ (by simp[r.id.h]) (rfl)
 have s1: (((r.id.l.map v8))++ (([vi ln0.share])++ ([vi ln0.place]++ ([vi ln0.spot])))).toArray.size=35:=by simp[r.id.h,ln0.id.h]
 have z1: (Value.cells (vi r.share)).toList= [vi r.share]:=by rfl
 have y1: (Value.cells (vi r.share)).size=1:=by rw[←Array.length_toList,z1];simp
 have e2: (((r.id.l.map v8))++ (([vi r.share])++ ([vi ln0.place]++ ([vi ln0.spot])))).toArray=(((r.id.l.map v8)++ ([vi r.share]))++ (([vi ln0.place])++ ([vi ln0.spot]))).toArray:=by congr 1<;>simp only[lnC,List.append_assoc,List.nil_append,List.append_nil]
 have q2:x3_ (((r.id.l.map v8)++ ([vi r.share]))++ (([vi ln0.place])++ ([vi ln0.spot]))).toArray 33 ([vi r.place])=(((r.id.l.map v8)++ ([vi r.share]))++ (([vi r.place])++ ([vi ln0.spot]))).toArray:=xk_ _ _ _ _ (by simp[r.id.h]) (rfl)
 have s2: (((r.id.l.map v8)++ ([vi r.share]))++ (([vi ln0.place])++ ([vi ln0.spot]))).toArray.size=35:=by simp[r.id.h,ln0.id.h]
 have z2: (Value.cells (vi r.place)).toList= [vi r.place]:=by rfl
 have y2: (Value.cells (vi r.place)).size=1:=by rw[←Array.length_toList,z2];simp
 have e3: (((r.id.l.map v8)++ ([vi r.share]))++ (([vi r.place])++ ([vi ln0.spot]))).toArray=(((r.id.l.map v8)++ ([vi r.share])++ ([vi r.place]))++ (([vi ln0.spot])++ (([]:List Value)))).toArray:=by congr 1<;>simp only[lnC,List.append_assoc,List.nil_append,List.append_nil]
 have q3:x3_ (((r.id.l.map v8)++ ([vi r.share])++ ([vi r.place]))++ (([vi ln0.spot])++ (([]:List Value)))).toArray 34 ([vi r.spot])=(((r.id.l.map v8)++ ([vi r.share])++ ([vi r.place]))++ (([vi r.spot])++ (([]:List Value)))).toArray:=xk_ _ _ _ _ (by simp[r.id.h]) (rfl)
 have s3: (((r.id.l.map v8)++ ([vi r.share])++ ([vi r.place]))++ (([vi ln0.spot])++ (([]:List Value)))).toArray.size=35:=by simp[r.id.h,ln0.id.h]
 have z3: (Value.cells (vi r.spot)).toList= [vi r.spot]:=by rfl
 have y3: (Value.cells (vi r.spot)).size=1:=by rw[←Array.length_toList,z3];simp
 have e4: (((r.id.l.map v8)++ ([vi r.share])++ ([vi r.place]))++ (([vi r.spot])++ (([]:List Value)))).toArray=(lnC r).toArray:=by congr 1<;>simp only[lnC,List.append_assoc,List.nil_append,List.append_nil]
 simp only[jb_]
 rw[e0]
 unfold Sx.fillV
 simp only[List.getElem?_cons_zero,List.getElem?_cons_succ,z0,y0]
 rw[if_pos ⟨trivial,by rw[s0];decide⟩,q0]
 rw[e1]
 unfold Sx.fillV
 simp only[List.getElem?_cons_zero,List.getElem?_cons_succ,z1,y1]
 rw[if_pos ⟨trivial,by rw[s1];decide⟩,q1]
 rw[e2]
 unfold Sx.fillV
 simp only[List.getElem?_cons_zero,List.getElem?_cons_succ,z2,y2]
 rw[if_pos ⟨trivial,by rw[s2];decide⟩,q2]
 rw[e3]
 unfold Sx.fillV
 simp only[List.getElem?_cons_zero,List.getElem?_cons_succ,z3,y3]
 rw[if_pos ⟨trivial,by rw[s3];decide⟩,q3]
 rw[e4];rfl
structure ShL where
 name:List UInt8
 bytes:List UInt8
def shC (r:ShL):List Value:= [vs r.name]++ ([vs r.bytes])
def sh0:ShL:=⟨[],[]⟩
theorem jj_ (r:ShL): (shC r).length=2:=by simp[shC]
theorem xa_ (r:ShL):Value.cells (.agg (shC r).toArray)=(shC r).toArray:=zg_ _
theorem VW_ (r:ShL): (shC r).all Value.oneCell'=true:=by
 unfold shC
 simp only[List.all_append,List.all_cons,List.all_nil,Z3_,Bool.and_true,Bool.true_and]
 rfl
theorem zrSh:qd_ Tryd.prog 26=some (.agg (shC sh0).toArray):=id (by kernel_rfl)
theorem ahB_ (r:ShL):shC r=([]:List Value)++ (([vs r.name])++ ([vs r.bytes])):=by
 unfold shC;simp only[List.append_assoc,List.nil_append,List.append_nil]
theorem XK_ (r:ShL) (n:Nat) (E:TypeId) (fz:Nat×Nat):zn_ (some (false,n)) (some (.cells (shC r).toArray E fz)) 0=some (vs r.name):=by
 rw[ahB_];exact qG_ _ _ _ n E fz (by simp)
theorem X5_ {w:World} {v:Value} {l:List ShL} {b off:Nat} {arr:Array Value} {E:TypeId} {fz:Nat×Nat} (h:RowS 2 shC sh0 w v l b off arr E fz) {k:Nat} (hk:k<l.length) (n:Nat):zn_ (some (false,n)) (some (.cells arr E fz)) (off+k*2+0)=some (vs (l.getD k sh0).name):=by
 rw[RowS.cell h hk (by omega)];generalize l.getD k sh0=r;rw[ahB_];exact abs_ _ _ _ (by simp)
theorem ahJ_ (r:ShL):shC r=(([vs r.name]))++ (([vs r.bytes])++ (([]:List Value))):=by
 unfold shC;simp only[List.append_assoc,List.nil_append,List.append_nil]
theorem abB_ (r:ShL) (n:Nat) (E:TypeId) (fz:Nat×Nat):zn_ (some (false,n)) (some (.cells (shC r).toArray E fz)) 1=some (vs r.bytes):=by
 rw[ahJ_];exact qG_ _ _ _ n E fz (by simp)
theorem Wf_ {w:World} {v:Value} {l:List ShL} {b off:Nat} {arr:Array Value} {E:TypeId} {fz:Nat×Nat} (h:RowS 2 shC sh0 w v l b off arr E fz) {k:Nat} (hk:k<l.length) (n:Nat):zn_ (some (false,n)) (some (.cells arr E fz)) (off+k*2+1)=some (vs (l.getD k sh0).bytes):=by
 rw[RowS.cell h hk (by omega)];generalize l.getD k sh0=r;rw[ahJ_];exact abs_ _ _ _ (by simp)
theorem vB_ (r:ShL) (E:TypeId) (fz:Nat×Nat):zn_ (some (true,2)) (some (.cells (shC r).toArray E fz)) 0=some (.agg (shC r).toArray):=xb_ _ E fz 2 (by rw[List.size_toArray,jj_])
theorem ahr_ (old:Array Value) (r:ShL) (a:Bool) (E:TypeId) (h:old.size=2):zl_ (some (a,2)) (some (.cells old E (0,0))) 0 (.agg (shC r).toArray)=some (.cells (shC r).toArray E (0,0)):=xq_ _ a old E (jj_ r) (VW_ r) h
theorem xZ_ (r r':ShL) (a:Bool) (E:TypeId):zl_ (some (a,2)) (some (.cells (shC r').toArray E (0,0))) 0 (.agg (shC r).toArray)=some (.cells (shC r).toArray E (0,0)):=ahr_ _ r a E (by rw[List.size_toArray,jj_])
theorem ag0_ (r:ShL):jb_ (QW_ Tryd.prog 26) (qd_ Tryd.prog 26) [(0,vs r.name),(1,vs r.bytes)]=some (.agg (shC r).toArray):=by
 have hp:QW_ Tryd.prog 26=some [(0,1),(1,1)]:=id (by kernel_rfl)
 rw[hp,zrSh]
 have e0: (shC sh0).toArray=(([]:List Value)++ (([vs sh0.name])++ ([vs sh0.bytes]))).toArray:=by congr 1<;>simp only[shC,List.append_assoc,List.nil_append,List.append_nil]
 have q0:x3_ (([]:List Value)++ (([vs sh0.name])++ ([vs sh0.bytes]))).toArray 0 ([vs r.name])=(([]:List Value)++ (([vs r.name])++ ([vs sh0.bytes]))).toArray:=xk_ _ _ _ _ (by simp) (rfl)
 have s0: (([]:List Value)++ (([vs sh0.name])++ ([vs sh0.bytes]))).toArray.size=2:=by simp
 have z0: (Value.cells (vs r.name)).toList= [vs r.name]:=by rfl
 have y0: (Value.cells (vs r.name)).size=1:=by rw[←Array.length_toList,z0];simp
 have e1: (([]:List Value)++ (([vs r.name])++ ([vs sh0.bytes]))).toArray=((([vs r.name]))++ (([vs sh0.bytes])++ (([]:List Value)))).toArray:=by congr 1<;>simp only[shC,List.append_assoc,List.nil_append,List.append_nil]
 have q1:x3_ ((([vs r.name]))++ (([vs sh0.bytes])++ (([]:List Value)))).toArray 1 ([vs r.bytes])=((([vs r.name]))++ (([vs r.bytes])++ (([]:List Value)))).toArray:=xk_ _ _ _ _ (by simp) (rfl)
 have s1: ((([vs r.name]))++ (([vs sh0.bytes])++ (([]:List Value)))).toArray.size=2:=by simp
 have z1: (Value.cells (vs r.bytes)).toList= [vs r.bytes]:=by rfl
 have y1: (Value.cells (vs r.bytes)).size=1:=by rw[←Array.length_toList,z1];simp
 have e2: ((([vs r.name]))++ (([vs r.bytes])++ (([]:List Value)))).toArray=(shC r).toArray:=by congr 1<;>simp only[shC,List.append_assoc,List.nil_append,List.append_nil]
 simp only[jb_]
 rw[e0]
 unfold Sx.fillV
 simp only[List.getElem?_cons_zero,List.getElem?_cons_succ,z0,y0]
 rw[if_pos ⟨trivial,by rw[s0];decide⟩,q0]
 rw[e1]
 unfold Sx.fillV
 simp only[List.getElem?_cons_zero,List.getElem?_cons_succ,z1,y1]
 rw[if_pos ⟨trivial,by rw[s1];decide⟩,q1]
 rw[e2];rfl
theorem Zz_ (r:LnL):ju_ (lnC r).toArray 0 r.id.l:=by
 intro j hj
 rw[Nat.zero_add,List.getElem?_toArray,ahS_,List.nil_append,List.getElem?_append_left (by simpa using hj),List.getElem?_map,List.getElem?_eq_getElem hj,List.getD_eq_getElem?_getD,List.getElem?_eq_getElem hj]
 rfl
def xS_ (s:List UInt8):Bool:=s.all (fun c=> !(decide (c<33) ||decide (126<c)))&& (!(s== [])&&decide (s.length≤40))
def numM (n:Int):Bool:=decide (0≤n)&&decide (n≤1099511627775)
def w2_ (c:Nat→Int):Nat→Bool
 |0=>true
 |k+1=>w2_ c k&& (decide (k=0) ||decide (c k<0))
theorem kK_ {c:Nat→Int} {k:Nat}: ∀ {n:Nat},k≤n→w2_ c n=true→w2_ c k=true
 |0,h,h'=>by
  obtain rfl:k=0:=by omega
  exact h'
 |n+1,h,h'=>by
  by_cases hk:k=n+1
  ·subst hk;exact h'
  ·refine kK_ (n:=n) (by omega) ?_
   unfold w2_ at h'
   rw[Bool.and_eq_true] at h'
   exact h'.1
def wX_ (l:List (List UInt8)) (k:Nat):Int:=WL_ (l.getD (k - 1) []) (l.getD k [])
def wM_ (l:List LnL) (k:Nat):Int:=wO_ (l.getD (k - 1) ln0).id (l.getD k ln0).id
abbrev aeM_ (w:World) (v:Value) (l:List (List UInt8)):Prop:=SlV 1 VS_ [] w v l
abbrev LnSl (w:World) (v:Value) (l:List LnL):Prop:=SlV 35 lnC ln0 w v l
theorem wI_ {w:World} {v:Value} {l:List (List UInt8)} {b off:Nat} {arr:Array Value} {E:TypeId} {fz:Nat×Nat} (h:RowS 1 VS_ [] w v l b off arr E fz) {k:Nat} (hk:k<l.length) (n:Nat):
  zn_ (some (false,n)) (some (.cells arr E fz)) (off+k)=some (vs (l.getD k [])):=by
 have:=h.cell (j:=0) (n:=n) hk (by omega)
 rwa [Nat.mul_one,Nat.add_zero] at this
set_option linter.defProp false
def zB_:=And.intro (And.intro (@ze_) (And.intro (@zd_) (@q7_))) (And.intro (@kd_) (And.intro (@XK_) (@xa_)))
theorem vF_ (a b:LnL) (w:World):Rets Tryd.prog 30 #[.agg (lnC a).toArray, .agg (lnC b).toArray] w (fun v D=>v=vi (wO_ a.id b.id)∧D= []):=by
 refine Rets.enterV Tryd.func30 rfl (rs:= [.tmp 4]) Tryd.results30 Tryd.ntmps30 ?_
 refine kf ?_
 first|with_reducible refine ks [] @zB_ ?_|refine kp @zB_ ?_
 refine Ow.box rfl rfl fun b1 hb1 hw1=> ?_
 simp only[jL_,jr_,jq_,zg_,List.nil_append,List.cons_append]
 refine Ow.go rfl ?_
 simp(disch:=(first|assumption|omega| (simp only[xN_,xT_,UInt64.reduceToNat];try omega))) only[↓Sx.S0,Sx.S1,Tryd.fx,zB_,Nat.reduceAdd,Nat.reducePow,Int.reducePow,Nat.reduceBEq, ↓reduceIte,UInt8.reduceToNat,UInt16.reduceToNat,UInt32.reduceToNat,UInt64.reduceToNat,Int.reduceToNat]
 refine Ow.box rfl rfl fun b2 hb2 hw2=> ?_
 simp only[jL_,jr_,jq_,zg_,List.nil_append,List.cons_append]
 refine Ow.go rfl ?_
 simp(disch:=(first|assumption|omega| (simp only[xN_,xT_,UInt64.reduceToNat];try omega))) only[↓Sx.S0,Sx.S1,Tryd.fx,zB_,Nat.reduceAdd,Nat.reducePow,Int.reducePow,Nat.reduceBEq, ↓reduceIte,UInt8.reduceToNat,UInt16.reduceToNat,UInt32.reduceToNat,UInt64.reduceToNat,Int.reduceToNat]
 obtain⟨h12,-⟩:=hb2
 have hn:b1≠b2:=by omega
 first|with_reducible refine ks [] @zB_ ?_|refine kp @zB_ ?_
 refine Cw.regionS [b1,b2] [0,1,2,3,4,5] [] (by kernel_rfl) (by kernel_rfl) (by kernel_rfl) ?_
 simp only[zj_, ↓zf_, ↓zb_, ↓zp_, ↓zq_,zc_]
 refine kq @zB_ ?_
 refine Ow.soft rfl rfl rfl ?_
 refine Ow.callFV rfl Tryd.call36 (fun w' hw'=>afG_ (x:=a.id) (y:=b.id) (hw'.has b1 (.cells (lnC a).toArray 38 (0,0)) (by simp)) (Zz_ a) (hw'.has b2 (.cells (lnC b).toArray 38 (0,0)) (by simp)) (Zz_ b)) ?_
 with_reducible refine Ow.nil ?_
 refine⟨by intro b hb;simp only[List.mem_cons,List.not_mem_nil,or_false] at hb;(try subst hb);rfl, ?_⟩
 refine kq @zB_ ?_
 refine⟨_,(ke @zB_),⟨hw1,hw2,trivial⟩, ?_⟩
 rfl
theorem acE_ (a b:ShL) (w:World):Rets Tryd.prog 16 #[.agg (shC a).toArray, .agg (shC b).toArray] w (fun v D=>v=vi (WL_ a.name b.name)∧D= []):=by
 refine Rets.enterV Tryd.func16 rfl (rs:= [.tmp 4]) Tryd.results16 Tryd.ntmps16 ?_
 refine kf ?_
 first|with_reducible refine ks [] @zB_ ?_|refine kp @zB_ ?_
 refine Ow.box rfl rfl fun b1 hb1 hw1=> ?_
 simp only[jL_,jr_,jq_,zg_,List.nil_append,List.cons_append]
 refine Ow.go rfl ?_
 simp(disch:=(first|assumption|omega| (simp only[xN_,xT_,UInt64.reduceToNat];try omega))) only[↓Sx.S0,Sx.S1,Tryd.fx,zB_,Nat.reduceAdd,Nat.reducePow,Int.reducePow,Nat.reduceBEq, ↓reduceIte,UInt8.reduceToNat,UInt16.reduceToNat,UInt32.reduceToNat,UInt64.reduceToNat,Int.reduceToNat]
 refine Ow.box rfl rfl fun b2 hb2 hw2=> ?_
 simp only[jL_,jr_,jq_,zg_,List.nil_append,List.cons_append]
 refine Ow.go rfl ?_
 simp(disch:=(first|assumption|omega| (simp only[xN_,xT_,UInt64.reduceToNat];try omega))) only[↓Sx.S0,Sx.S1,Tryd.fx,zB_,Nat.reduceAdd,Nat.reducePow,Int.reducePow,Nat.reduceBEq, ↓reduceIte,UInt8.reduceToNat,UInt16.reduceToNat,UInt32.reduceToNat,UInt64.reduceToNat,Int.reduceToNat]
 obtain⟨h12,-⟩:=hb2
 have hn:b1≠b2:=by omega
 first|with_reducible refine ks [] @zB_ ?_|refine kp @zB_ ?_
 refine Ow.callFV rfl Tryd.call17 (fun w' hw'=>w6_ a.name b.name w') ?_
 refine ko @zB_ ?_
 refine⟨_,(ke @zB_),⟨hw1,hw2,trivial⟩, ?_⟩
 rfl
theorem Vv_ (s:List UInt8) (w:World) (hs:s.length<1099511627776):Rets Tryd.prog 53 #[vs s] w (fun v D=>v= .bool (xS_ s)∧D= []):=by
 refine Rets.enterV Tryd.func53 rfl (rs:= [.tmp 2]) Tryd.results53 Tryd.ntmps53 ?_
 refine kf ?_
 first|with_reducible refine ks [] @zB_ ?_|refine kp @zB_ ?_
 refine Cw.loopG (G:=Nat) [7,8,3,9,10,11,12,13,14,15,16,17,18,2,19,6] (fun g=> [(2, .bool false),(6,vi g)]) (fun g=> []) (fun g=>g≤s.length∧(s.take g).all (fun c=> !(decide (c<33) ||decide (126<c)))=true) (fun g=>s.length - g) 0 rfl rfl ?_ ?_
 ·exact⟨Nat.zero_le _,rfl⟩
 intro g j hg
 refine kv ?_
 obtain⟨hg,hal⟩:=hg
 by_cases hlt:g<s.length
 ·have d1:decide ((g:Int)< (s.length:Int))=true:=decide_eq_true (by omega)
  have hts:=StP.take_snoc (z:=(0:UInt8)) hlt
  have hbad: ∀c,c=s.getD g 0→(decide (c<33) ||decide (126<c))=true→xS_ s=false:=by
   intro c hc h
   unfold xS_
   rw[Bool.and_eq_false_iff]
   left
   rw[List.all_eq_false]
   refine⟨c, ?_,by rw[h];simp⟩
   rw[hc,List.getD_eq_getElem?_getD,List.getElem?_eq_getElem hlt]
   exact List.getElem_mem hlt
  generalize hcc:s.getD g 0=c at*
  cases h1:decide (c<33) with
  |true=>
   first|with_reducible refine ks [] (And.intro @zB_ (And.intro @d1 (And.intro @hcc (@h1)))) ?_|refine kp (And.intro @zB_ (And.intro @d1 (And.intro @hcc (@h1)))) ?_
   refine⟨_,(ke @zB_),trivial, ?_⟩
   rw[hbad c rfl (by rw[h1];rfl)];rfl
  |false=>
   cases h2:decide (126<c) with
   |true=>
    first|with_reducible refine ks [] (And.intro @zB_ (And.intro @d1 (And.intro @hcc (And.intro @h1 (@h2))))) ?_|refine kp (And.intro @zB_ (And.intro @d1 (And.intro @hcc (And.intro @h1 (@h2))))) ?_
    refine⟨_,(ke @zB_),trivial, ?_⟩
    rw[hbad c rfl (by rw[h1,h2];rfl)];rfl
   |false=>
    first|with_reducible refine ks [] (And.intro @zB_ (And.intro @d1 (And.intro @hcc (And.intro @h1 (@h2))))) ?_|refine kp (And.intro @zB_ (And.intro @d1 (And.intro @hcc (And.intro @h1 (@h2))))) ?_
    refine Again.mk (G:=Nat) (g+1) (by show s.length - (g+1)<s.length - g;omega) ⟨hlt, ?_⟩ rfl rfl
    rw[hts,List.all_append,hal,List.all_cons,h1,h2];rfl
 ·obtain rfl:g=s.length:=by omega
  have d1:decide ((s.length:Int)< (s.length:Int))=false:=decide_eq_false (by omega)
  rw[List.take_length] at hal
  cases he:s== [] with
  |true=>
   have e1: (s != [])=false:=by unfold bne;rw[he];rfl
   have en:xS_ s=false:=by unfold xS_;rw[he];simp
   first|with_reducible refine ks [] (And.intro @zB_ (And.intro @d1 (@e1))) ?_|refine kp (And.intro @zB_ (And.intro @d1 (@e1))) ?_
   refine⟨_,(ke @zB_),trivial, ?_⟩
   rw[en];rfl
  |false=>
   have e1: (s != [])=true:=by unfold bne;rw[he];rfl
   have e2:decide ((s.length:Int)≤40)=decide (s.length≤40):=decide_eq_decide.2 (by omega)
   have en:xS_ s=decide (s.length≤40):=by unfold xS_;rw[hal,he];simp
   first|with_reducible refine ks [] (And.intro @zB_ (And.intro @d1 (And.intro @e1 (@e2)))) ?_|refine kp (And.intro @zB_ (And.intro @d1 (And.intro @e1 (@e2)))) ?_
   refine⟨_,(ke @zB_),trivial, ?_⟩
   rw[en];rfl
theorem Qy_ (n:Int) (w:World):Rets Tryd.prog 50 #[vi n] w (fun v D=>v= .bool (numM n)∧D= []):=by
 refine Rets.enterV Tryd.func50 rfl (rs:= [.tmp 2]) Tryd.results50 Tryd.ntmps50 ?_
 refine kf ?_
 unfold numM
 cases h1:decide (0≤n) with
 |true=>
  first|with_reducible refine ks [] (And.intro @zB_ @h1) ?_|refine kp (And.intro @zB_ @h1) ?_
  refine⟨_,(ke @zB_),trivial, ?_⟩
  rfl
 |false=>
  first|with_reducible refine ks [] (And.intro @zB_ @h1) ?_|refine kp (And.intro @zB_ @h1) ?_
  refine⟨_,(ke @zB_),trivial, ?_⟩
  rfl
theorem V1_ (s:List UInt8) (w:World) (hs:s.length<1099511627776):Rets Tryd.prog 52 #[vs s] w (fun v D=>v= .bool (!xS_ s)∧D= []):=by
 refine Rets.enterV Tryd.func52 rfl (rs:= [.tmp 2]) Tryd.results52 Tryd.ntmps52 ?_
 refine kf ?_
 first|with_reducible refine ks [] @zB_ ?_|refine kp @zB_ ?_
 refine Ow.callFV rfl Tryd.call53 (fun w' hw'=>Vv_ s w' hs) ?_
 refine ko @zB_ ?_
 first|with_reducible refine ks [] @zB_ ?_|refine kp @zB_ ?_
 refine⟨_,(ke @zB_),trivial, ?_⟩
 rfl
theorem aeK_ (v:Value) (l:List (List UInt8)) (w:World) (hv:aeM_ w v l) (hl:l.length<1000000):Rets Tryd.prog 48 #[v, .func (.func 17) #[] #[]] w (fun v D=>v= .bool (w2_ (wX_ l) l.length)∧D= []):=by
 obtain⟨rb,off,arr,E,fz,hr⟩:=hv.row
 have ln:=hv.len
 refine Rets.enterV Tryd.func48 rfl (rs:= [.tmp 4]) Tryd.results48 Tryd.ntmps48 ?_
 refine kf ?_
 first|with_reducible refine ks [] @zB_ ?_|refine kp @zB_ ?_
 refine Cw.loopG (G:=Nat) [6,7,8,9,12,13,14,15,16,17,18,19,20,21,22,23,4,10,11,5] (fun k=> [(4, .bool false),(5,vi k)]) (fun k=> []) (fun k=>1≤k∧(k≤l.length∨l.length=0)∧(k≤l.length→w2_ (wX_ l) k=true)) (fun k=>l.length+1 - k) 1 rfl rfl ?_ ?_
 ·exact⟨Nat.le_refl _,by omega,fun _=>rfl⟩
 intro k jk hk
 refine kv ?_
 obtain⟨hk1,hk2,hri⟩:=hk
 by_cases hlt:k<l.length
 ·have d1:decide ((k:Int)< (l.length:Int))=true:=decide_eq_true (by omega)
  have hb:=hr.has (by omega)
  have hki: (k:Int) - 1=((k - 1:Nat):Int):=by omega
  have ix:=hr.idx false k hlt
  have ix':=hr.idx false (k - 1) (by omega)
  have ld:=fun n=>wI_ hr hlt n
  have ld':=fun n=>wI_ hr (show k - 1<l.length by omega) n
  have hst:w2_ (wX_ l) (k+1)=decide (wX_ l k<0):=by
   show(w2_ (wX_ l) k&&_)=_
   rw[hri (by omega),decide_eq_false (show¬k=0 by omega),Bool.true_and,Bool.false_or]
  first|with_reducible refine ks [] (And.intro @zB_ (And.intro @ln (@d1))) ?_|refine kp (And.intro @zB_ (And.intro @ln (@d1))) ?_
  refine Cw.regionS [rb] [0,1,2,3,4,6,7,8,5,9,10,11] [] (by kernel_rfl) (by kernel_rfl) (by kernel_rfl) ?_
  simp only[zj_, ↓zf_, ↓zb_, ↓zp_, ↓zq_,zc_]
  refine kq (And.intro @zB_ (And.intro @hb (And.intro @hki (And.intro @ix (And.intro @ix' (And.intro @ld (@ld'))))))) ?_
  refine Ow.soft rfl rfl rfl ?_
  refine Ow.callFn2 (v:=vi (wX_ l k)) rfl rfl rfl rfl Tryd.call17 (fun w' hw'=>w6_ _ _ w') ?_
  with_reducible refine Ow.nil ?_
  refine⟨by intro b hb;simp only[List.mem_cons,List.not_mem_nil,or_false] at hb;(try subst hb);rfl, ?_⟩
  cases hc:decide (0≤wX_ l k) with
  |true=>
   have hf:w2_ (wX_ l) l.length=false:=by
    rw[Bool.eq_false_iff]
    intro h
    have:=kK_ (k:=k+1) (by omega) h
    rw[hst,decide_eq_true_eq] at this
    have:=of_decide_eq_true hc
    omega
   refine kq (And.intro @zB_ @hc) ?_
   try with_reducible refine Ow.nil ?_
   first|with_reducible refine ks [] @zB_ ?_|refine kp @zB_ ?_
   refine⟨_,(ke @zB_),trivial, ?_⟩
   rw[hf];rfl
  |false=>
   refine kq (And.intro @zB_ @hc) ?_
   try with_reducible refine Ow.nil ?_
   first|with_reducible refine ks [] @zB_ ?_|refine kp @zB_ ?_
   refine Again.mk (G:=Nat) (k+1) (by show l.length+1 - (k+1)<l.length+1 - k;omega) ⟨by omega, .inl (by omega),fun _=> ?_⟩ rfl rfl
   rw[hst,decide_eq_true_eq]
   have:=of_decide_eq_false hc
   omega
 ·have d1:decide ((k:Int)< (l.length:Int))=false:=decide_eq_false (by omega)
  have hf:w2_ (wX_ l) l.length=true:=by
   rcases Nat.eq_zero_or_pos l.length with h0|h0
   ·rw[h0];rfl
   ·by_cases hkl:k≤l.length
    ·obtain rfl:k=l.length:=by omega
     exact hri hkl
    ·omega
  first|with_reducible refine ks [] (And.intro @zB_ (And.intro @ln (@d1))) ?_|refine kp (And.intro @zB_ (And.intro @ln (@d1))) ?_
  refine⟨_,(ke @zB_),trivial, ?_⟩
  rw[hf];rfl
theorem afq_ (v:Value) (l:List LnL) (w:World) (hv:LnSl w v l) (hl:l.length<1000000):Rets Tryd.prog 49 #[v, .func (.func 30) #[] #[]] w (fun v D=>v= .bool (w2_ (wM_ l) l.length)∧D= []):=by
 obtain⟨rb,off,arr,E,fz,hr⟩:=hv.row
 have ln:=hv.len
 refine Rets.enterV Tryd.func49 rfl (rs:= [.tmp 4]) Tryd.results49 Tryd.ntmps49 ?_
 refine kf ?_
 first|with_reducible refine ks [] @zB_ ?_|refine kp @zB_ ?_
 refine Cw.loopG (G:=Nat) [6,7,8,9,12,13,14,15,16,17,18,19,20,21,22,23,4,10,11,5] (fun k=> [(4, .bool false),(5,vi k)]) (fun k=> []) (fun k=>1≤k∧(k≤l.length∨l.length=0)∧(k≤l.length→w2_ (wM_ l) k=true)) (fun k=>l.length+1 - k) 1 rfl rfl ?_ ?_
 ·exact⟨Nat.le_refl _,by omega,fun _=>rfl⟩
 intro k jk hk
 refine kv ?_
 obtain⟨hk1,hk2,hri⟩:=hk
 by_cases hlt:k<l.length
 ·have d1:decide ((k:Int)< (l.length:Int))=true:=decide_eq_true (by omega)
  have hb:=hr.has (by omega)
  have hki: (k:Int) - 1=((k - 1:Nat):Int):=by omega
  have ix:=hr.idx true k hlt
  have ix':=hr.idx true (k - 1) (by omega)
  have ld:=hr.load qc_ (by omega) hlt
  have ld':=hr.load qc_ (by omega) (show k - 1<l.length by omega)
  have hst:w2_ (wM_ l) (k+1)=decide (wM_ l k<0):=by
   show(w2_ (wM_ l) k&&_)=_
   rw[hri (by omega),decide_eq_false (show¬k=0 by omega),Bool.true_and,Bool.false_or]
  first|with_reducible refine ks [] (And.intro @zB_ (And.intro @ln (@d1))) ?_|refine kp (And.intro @zB_ (And.intro @ln (@d1))) ?_
  refine Cw.regionS [rb] [0,1,2,3,4,6,7,8,5,9,10,11] [] (by kernel_rfl) (by kernel_rfl) (by kernel_rfl) ?_
  simp only[zj_, ↓zf_, ↓zb_, ↓zp_, ↓zq_,zc_]
  refine kq (And.intro @zB_ (And.intro @hb (And.intro @hki (And.intro @ix (And.intro @ix' (And.intro @ld (@ld'))))))) ?_
  refine Ow.soft rfl rfl rfl ?_
  refine Ow.callFn2 (v:=vi (wM_ l k)) rfl rfl rfl rfl Tryd.call30 (fun w' hw'=>vF_ _ _ w') ?_
  with_reducible refine Ow.nil ?_
  refine⟨by intro b hb;simp only[List.mem_cons,List.not_mem_nil,or_false] at hb;(try subst hb);rfl, ?_⟩
  cases hc:decide (0≤wM_ l k) with
  |true=>
   have hf:w2_ (wM_ l) l.length=false:=by
    rw[Bool.eq_false_iff]
    intro h
    have:=kK_ (k:=k+1) (by omega) h
    rw[hst,decide_eq_true_eq] at this
    have:=of_decide_eq_true hc
    omega
   refine kq (And.intro @zB_ @hc) ?_
   try with_reducible refine Ow.nil ?_
   first|with_reducible refine ks [] @zB_ ?_|refine kp @zB_ ?_
   refine⟨_,(ke @zB_),trivial, ?_⟩
   rw[hf];rfl
  |false=>
   refine kq (And.intro @zB_ @hc) ?_
   try with_reducible refine Ow.nil ?_
   first|with_reducible refine ks [] @zB_ ?_|refine kp @zB_ ?_
   refine Again.mk (G:=Nat) (k+1) (by show l.length+1 - (k+1)<l.length+1 - k;omega) ⟨by omega, .inl (by omega),fun _=> ?_⟩ rfl rfl
   rw[hst,decide_eq_true_eq]
   have:=of_decide_eq_false hc
   omega
 ·have d1:decide ((k:Int)< (l.length:Int))=false:=decide_eq_false (by omega)
  have hf:w2_ (wM_ l) l.length=true:=by
   rcases Nat.eq_zero_or_pos l.length with h0|h0
   ·rw[h0];rfl
   ·by_cases hkl:k≤l.length
    ·obtain rfl:k=l.length:=by omega
     exact hri hkl
    ·omega
  first|with_reducible refine ks [] (And.intro @zB_ (And.intro @ln (@d1))) ?_|refine kp (And.intro @zB_ (And.intro @ln (@d1))) ?_
  refine⟨_,(ke @zB_),trivial, ?_⟩
  rw[hf];rfl
end Go.Proofs
end
section
open Go Go.Proofs Go.Sx Go.StP Go.Flo
namespace Go.Proofs
set_option maxRecDepth 10000
set_option maxHeartbeats 1000000
set_option linter.unusedSimpArgs false
def mgO (v0 v1 v2:Value):Obj:= .cells #[v0,v1,v2] 59 (0,0)
theorem k6_ (v0 v1 v2:Value) (n:Nat):zn_ (some (false,n)) (some (mgO v0 v1 v2)) 0=some v0:=(rfl)
theorem wc_ (v0 v1 v2:Value) (n:Nat):zn_ (some (false,n)) (some (mgO v0 v1 v2)) 1=some v1:=(rfl)
theorem k2_ (v0 v1 v2:Value) (n:Nat):zn_ (some (false,n)) (some (mgO v0 v1 v2)) 2=some v2:=(rfl)
def MgIn (w:World) (b:Nat) (names sums:List (List UInt8)) (lines:List LnL):Prop:= ∃v0 v1 v2,w.heap[b]? =some (mgO v0 v1 v2)∧aeM_ w v0 names∧aeM_ w v1 sums∧LnSl w v2 lines
theorem MgIn.old {w w':World} {L:za_} {b:Nat} {names sums:List (List UInt8)} {lines:List LnL} (h:MgIn w b names sums lines) (hw:Hp w L w') (hn:New w.heap.size L):MgIn w' b names sums lines:=by
 obtain⟨v0,v1,v2,h1,h2,h3,h4⟩:=h
 exact⟨v0,v1,v2,by rw[hw.old b (Array.getElem?_eq_some_iff.1 h1).1 (hn.not (Array.getElem?_eq_some_iff.1 h1).1)];exact h1,h2.oldN hw hn,h3.oldN hw hn,h4.oldN hw hn⟩
def jJ_ (n:Nat) (r:LnL):Bool:= !(decide (r.share<0))&& !(decide ((n:Int)≤r.share))&&numM r.place&&numM r.spot
def qn_ (names:List (List UInt8)) (lines:List LnL):Bool:=
 !(decide (40<names.length))&& !(decide (8000<lines.length))&&w2_ (wX_ names) names.length&&w2_ (wM_ lines) lines.length&& (lines.all (jJ_ names.length)&&names.all xS_)
def aeB_ (l:List (List UInt8)):Prop:= ∀s,s∈l→s.length<1099511627776
set_option linter.defProp false
def zG_:=And.intro (And.intro (And.intro (@ze_) (And.intro (@zd_) (@k6_))) (And.intro (@wc_) (And.intro (@k2_) (@q7_)))) (And.intro (And.intro (@wC_) (And.intro (@kd_) (@k8_))) (And.intro (@v0_) (And.intro (@Zw_) (@xp_))))
theorem Qg_ (v:Value) (l:List (List UInt8)) (w:World) (hv:aeM_ w v l) (hl:l.length<1000000) (hs:aeB_ l):Rets Tryd.prog 68 #[v, .func (.func 52) #[] #[]] w (fun v D=>(∃i:Int,v=vi i∧decide (0≤i)= !(l.all xS_))∧D= []):=by
 obtain⟨rb,off,arr,E,fz,hr⟩:=hv.row
 have ln:=hv.len
 refine Rets.enterV Tryd.func68 rfl (rs:= [.tmp 4]) Tryd.results68 Tryd.ntmps68 ?_
 refine kf ?_
 first|with_reducible refine ks [] (And.intro @zG_ @ln) ?_|refine kp (And.intro @zG_ @ln) ?_
 refine Cw.loopG (G:=Nat) [9,10,5,11,12,13,14,15,16,17,4,18,8] (fun k=> [(4,vi 0),(8,vi k)]) (fun k=> []) (fun k=>k≤l.length∧(l.take k).all xS_=true) (fun k=>l.length - k) 0 rfl rfl ?_ ?_
 ·exact⟨Nat.zero_le _,rfl⟩
 intro k jk hk
 refine kv ?_
 obtain⟨hk,hal⟩:=hk
 by_cases hlt:k<l.length
 ·have d1:decide ((k:Int)< (l.length:Int))=true:=decide_eq_true (by omega)
  have hb:=hr.has (by omega)
  have ix:=hr.idx false k hlt
  have ld:=fun n=>wI_ hr hlt n
  have hts:=StP.take_snoc (z:=([]:List UInt8)) hlt
  have hm:l.getD k []∈l:=by rw[List.getD_eq_getElem?_getD,List.getElem?_eq_getElem hlt];exact List.getElem_mem hlt
  have hsl:=hs _ hm
  generalize l.getD k []=s at*
  first|with_reducible refine ks [] (And.intro @zG_ (And.intro @d1 (And.intro @hb (And.intro @ix (@ld))))) ?_|refine kp (And.intro @zG_ (And.intro @d1 (And.intro @hb (And.intro @ix (@ld))))) ?_
  refine Ow.callFn1 (v:= .bool (!xS_ s)) rfl rfl rfl Tryd.call52 (fun w' hw'=>V1_ s w' hsl) ?_
  cases hn:xS_ s with
  |true=>
   refine ko @zG_ ?_
   refine Again.mk (G:=Nat) (k+1) (by show l.length - (k+1)<l.length - k;omega) ⟨hlt, ?_⟩ rfl rfl
   rw[hts,List.all_append,hal,List.all_cons,hn];rfl
  |false=>
   refine ko @zG_ ?_
   first|with_reducible refine ks [] @zG_ ?_|refine kp @zG_ ?_
   refine⟨_,(ke @zG_),trivial, ?_⟩
   refine⟨(k:Int),rfl, ?_⟩
   rw[decide_eq_true (show(0:Int)≤ (k:Int) by omega),show l.all xS_=false from List.all_eq_false.2 ⟨s,hm,by rw[hn];simp⟩];rfl
 ·obtain rfl:k=l.length:=by omega
  have d1:decide ((l.length:Int)< (l.length:Int))=false:=decide_eq_false (by omega)
  rw[List.take_length] at hal
  first|with_reducible refine ks [] (And.intro @zG_ @d1) ?_|refine kp (And.intro @zG_ @d1) ?_
  refine⟨_,(ke @zG_),trivial, ?_⟩
  exact⟨-1,rfl,by rw[hal];rfl⟩
theorem QZ_ (v:Value) (l:List (List UInt8)) (w:World) (hv:aeM_ w v l) (hl:l.length<1000000) (hs:aeB_ l):Rets Tryd.prog 51 #[v, .func (.func 52) #[] #[]] w (fun v D=>v= .bool (!(l.all xS_))∧D= []):=by
 refine Rets.enterV Tryd.func51 rfl (rs:= [.tmp 4]) Tryd.results51 Tryd.ntmps51 ?_
 refine kf ?_
 first|with_reducible refine ks [] @zG_ ?_|refine kp @zG_ ?_
 refine Ow.callC rfl rfl Tryd.call68 (fun w' hw'=>Rets.toX (Qg_ v l w' (hv.oldN hw' trivial) hl hs)) (fun B1 v1 D1 hA1 hB1 hN1 hS1=> ?_)
 obtain⟨rfl,i,rfl,hi⟩:=hS1
 refine ko (And.intro @zG_ @hi) ?_
 first|with_reducible refine ks [] @zG_ ?_|refine kp @zG_ ?_
 refine⟨_,(ke @zG_),trivial, ?_⟩
 rfl
structure RtG where
 k:Nat
 DG:za_
theorem vH_ (b:Nat) (names sums:List (List UInt8)) (lines:List LnL) (w:World) (h:MgIn w b names sums lines) (hnl:names.length<1000000) (hll:lines.length<1000000) (hs:aeB_ names):Rets Tryd.prog 18 #[vp b 0] w (fun v D=>v= .bool (qn_ names lines)∧D= []):=by
 obtain⟨v0,v1,v2,h1,h2,h3,h4⟩:=id h
 have hbl:=(Array.getElem?_eq_some_iff.1 h1).1
 have ln0':=h2.len
 have ln2':=h4.len
 obtain⟨rb,off,arr,E,fz,hr⟩:=h4.row
 refine Rets.enterV Tryd.func18 rfl (rs:= [.tmp 2]) Tryd.results18 Tryd.ntmps18 ?_
 refine kf ?_
 unfold qn_
 by_cases hn4:40<names.length
 ·have d1:decide ((40:Int)< (names.length:Int))=true:=decide_eq_true (by omega)
  rw[decide_eq_true hn4]
  first|with_reducible refine ks [] (And.intro @zG_ (And.intro @h1 (And.intro @ln0' (@d1)))) ?_|refine kp (And.intro @zG_ (And.intro @h1 (And.intro @ln0' (@d1)))) ?_
  refine⟨_,(ke @zG_),trivial, ?_⟩
  rfl
 have d1:decide ((40:Int)< (names.length:Int))=false:=decide_eq_false (by omega)
 rw[decide_eq_false hn4]
 by_cases hl8:8000<lines.length
 ·have d2:decide ((8000:Int)< (lines.length:Int))=true:=decide_eq_true (by omega)
  rw[decide_eq_true hl8]
  first|with_reducible refine ks [] (And.intro @zG_ (And.intro @h1 (And.intro @ln0' (And.intro @d1 (And.intro @ln2' (@d2)))))) ?_|refine kp (And.intro @zG_ (And.intro @h1 (And.intro @ln0' (And.intro @d1 (And.intro @ln2' (@d2)))))) ?_
  refine⟨_,(ke @zG_),trivial, ?_⟩
  rfl
 have d2:decide ((8000:Int)< (lines.length:Int))=false:=decide_eq_false (by omega)
 rw[decide_eq_false hl8]
 first|with_reducible refine ks [] (And.intro @zG_ (And.intro @h1 (And.intro @ln0' (And.intro @d1 (And.intro @ln2' (@d2)))))) ?_|refine kp (And.intro @zG_ (And.intro @h1 (And.intro @ln0' (And.intro @d1 (And.intro @ln2' (@d2)))))) ?_
 refine Ow.callFV rfl Tryd.call48 (fun w' hw'=>aeK_ v0 names w' (h2.oldN hw' trivial) hnl) ?_
 cases hr1:w2_ (wX_ names) names.length with
 |false=>
  refine ko @zG_ ?_
  first|with_reducible refine ks [] @zG_ ?_|refine kp @zG_ ?_
  refine⟨_,(ke @zG_),trivial, ?_⟩
  rfl
 |true=>
  refine ko (And.intro @zG_ @h1) ?_
  refine Ow.callFV rfl Tryd.call49 (fun w' hw'=>afq_ v2 lines w' (h4.oldN hw' trivial) hll) ?_
  cases hr2:w2_ (wM_ lines) lines.length with
  |false=>
   refine ko @zG_ ?_
   first|with_reducible refine ks [] @zG_ ?_|refine kp @zG_ ?_
   refine⟨_,(ke @zG_),trivial, ?_⟩
   rfl
  |true=>
   have e0: (!false&& !false&&true&&true&& (lines.all (jJ_ names.length)&&names.all xS_))=(lines.all (jJ_ names.length)&&names.all xS_):=rfl
   rw[e0]
   refine ko (And.intro @zG_ (And.intro @h1 (@ln2'))) ?_
   refine Cw.loopG (G:=RtG) [42,43,44,5,45,46,47,48,49,50,51,52,53,54,55,56,57,58,59,60,61,62,63,64,65,66,67,68,69,70,71,2,72,41] (fun q=> [(2, .bool false),(3, .func (.func 50) #[] #[]),(41,vi q.k)]) (fun q=>q.DG) (fun q=>q.k≤lines.length∧New w.heap.size q.DG∧(lines.take q.k).all (jJ_ names.length)=true) (fun q=>lines.length - q.k) ⟨0,[]⟩ rfl rfl ?_ ?_
   ·exact⟨Nat.zero_le _,trivial,rfl⟩
   intro q jq hq
   refine kv ?_
   obtain⟨k,DG⟩:=q
   simp only at hq ⊢
   obtain⟨hk,hN,hal⟩:=hq
   have rd: ∀X c o,New w.heap.size X→w.heap[c]? =some o→zy_ w X c=some o:=fun X c o hX hc=>by rw[qx_ (hX.not (Array.getElem?_eq_some_iff.1 hc).1)];exact hc
   by_cases hlt:k<lines.length
   ·have d3:decide ((k:Int)< (lines.length:Int))=true:=decide_eq_true (by omega)
    have hb:=hr.has (by omega)
    have rd1:=rd _ _ _ hN hb
    have ix:=hr.idx true k hlt
    have ld:=hr.load qc_ (by omega) hlt
    have hts:=StP.take_snoc (z:=Go.Proofs.ln0) hlt
    have hm:lines.getD k Go.Proofs.ln0∈lines:=by rw[List.getD_eq_getElem?_getD,List.getElem?_eq_getElem hlt];exact List.getElem_mem hlt
    have hbad:jJ_ names.length (lines.getD k Go.Proofs.ln0)=false→(lines.all (jJ_ names.length)&&names.all xS_)=false:=fun h=>by
     rw[show lines.all (jJ_ names.length)=false from List.all_eq_false.2 ⟨_,hm,by rw[h];simp⟩,Bool.false_and]
    generalize lines.getD k Go.Proofs.ln0=r at*
    first|with_reducible refine ks [] (And.intro @zG_ (And.intro @d3 (And.intro @rd1 (And.intro @ix (@ld))))) ?_|refine kp (And.intro @zG_ (And.intro @d3 (And.intro @rd1 (And.intro @ix (@ld))))) ?_
    refine Ow.alloc rfl rfl Kc_ fun b5 hb5 hw5=> ?_
    simp only[zg_,List.nil_append,List.cons_append]
    refine Ow.permL (M:=(b5, .cells (lnC Go.Proofs.ln0).toArray 38 (0,0))::DG) (by classical exact List.perm_iff_count.2 fun a=>by simp only[List.count_append,List.count_cons,List.count_nil]<;>omega) ?_
    refine ko @zG_ ?_
    have hN5:New w.heap.size ((b5,Obj.cells (lnC r).toArray 38 (0,0))::DG):=⟨hw5,hN⟩
    have hnb:b5≠b:=by omega
    have rdb:=rd _ _ _ hN5 h1
    first|with_reducible refine ks [] @zG_ ?_|refine kp @zG_ ?_
    refine Cw.regionS [b5,b] [0,1,2,3,4,6,7,8,5,9,10,11,12,13,14,15,16,17,18,19,20,21,22,23,24,25,26] [] (by kernel_rfl) (by kernel_rfl) (by kernel_rfl) ?_
    simp only[zj_, ↓zf_, ↓zb_, ↓zp_, ↓zq_,zc_]
    cases c1:decide (r.share<0) with
    |true=>
     refine kq (And.intro @zG_ @c1) ?_
     try with_reducible refine Ow.nil ?_
     first|with_reducible refine ks [] @zG_ ?_|refine kp @zG_ ?_
     refine⟨_,(ke @zG_),hN5, ?_⟩
     rw[hbad (by unfold jJ_;rw[c1];rfl)];rfl
    |false=>
     cases c2:decide ((names.length:Int)≤r.share) with
     |true=>
      refine kq (And.intro @zG_ (And.intro @c1 (And.intro @rdb (And.intro @ln0' (@c2))))) ?_
      try with_reducible refine Ow.nil ?_
      first|with_reducible refine ks [] @zG_ ?_|refine kp @zG_ ?_
      refine⟨_,(ke @zG_),hN5, ?_⟩
      rw[hbad (by unfold jJ_;rw[c1,c2];rfl)];rfl
     |false=>
      refine kq (And.intro @zG_ (And.intro @c1 (And.intro @rdb (And.intro @ln0' (@c2))))) ?_
      refine Ow.soft rfl rfl rfl ?_
      refine Ow.callFn1 (v:= .bool (numM r.place)) rfl rfl rfl Tryd.call50 (fun w' hw'=>Qy_ r.place w') ?_
      with_reducible refine Ow.nil ?_
      refine⟨by intro b hb;simp only[List.mem_cons,List.not_mem_nil,or_false] at hb;(try subst hb);rfl, ?_⟩
      cases c3:numM r.place with
      |false=>
       refine kq (And.intro @zG_ @c3) ?_
       try with_reducible refine Ow.nil ?_
       first|with_reducible refine ks [] @zG_ ?_|refine kp @zG_ ?_
       refine⟨_,(ke @zG_),hN5, ?_⟩
       rw[hbad (by unfold jJ_;rw[c1,c2,c3];rfl)];rfl
      |true=>
       refine kq @zG_ ?_
       refine Ow.soft rfl rfl rfl ?_
       refine Ow.callFn1 (v:= .bool (numM r.spot)) rfl rfl rfl Tryd.call50 (fun w' hw'=>Qy_ r.spot w') ?_
       with_reducible refine Ow.nil ?_
       refine⟨by intro b hb;simp only[List.mem_cons,List.not_mem_nil,or_false] at hb;(try subst hb);rfl, ?_⟩
       cases c4:numM r.spot with
       |false=>
        refine kq (And.intro @zG_ @c4) ?_
        try with_reducible refine Ow.nil ?_
        first|with_reducible refine ks [] @zG_ ?_|refine kp @zG_ ?_
        refine⟨_,(ke @zG_),hN5, ?_⟩
        rw[hbad (by unfold jJ_;rw[c1,c2,c3,c4];rfl)];rfl
       |true=>
        refine kq @zG_ ?_
        try with_reducible refine Ow.nil ?_
        first|with_reducible refine ks [] @zG_ ?_|refine kp @zG_ ?_
        refine Again.mk ⟨k+1,(b5, .cells (lnC r).toArray 38 (0,0))::DG⟩ (by show lines.length - (k+1)<lines.length - k;omega) ⟨hlt,hN5, ?_⟩ rfl rfl
        show(lines.take (k+1)).all _=true
        rw[hts,List.all_append,hal,List.all_cons]
        unfold jJ_;rw[c1,c2,c3,c4];rfl
   ·obtain rfl:k=lines.length:=by omega
    have d3:decide ((lines.length:Int)< (lines.length:Int))=false:=decide_eq_false (by omega)
    have rdb:=rd _ _ _ hN h1
    rw[List.take_length] at hal
    rw[hal,Bool.true_and]
    first|with_reducible refine ks [] (And.intro @zG_ (And.intro @d3 (@rdb))) ?_|refine kp (And.intro @zG_ (And.intro @d3 (@rdb))) ?_
    refine Ow.callFV rfl Tryd.call51 (fun w' hw'=>QZ_ v0 names w' (h2.oldN hw' hN) hnl hs) ?_
    refine ko @zG_ ?_
    first|with_reducible refine ks [] @zG_ ?_|refine kp @zG_ ?_
    refine⟨_,(ke @zG_),hN, ?_⟩
    exact congrArg Value.bool (Bool.not_not _)
end Go.Proofs
end
section
open Go Go.Proofs Go.Sx Go.StP Go.Flo
namespace Go.Proofs
set_option maxRecDepth 10000
set_option maxHeartbeats 1000000
set_option linter.unusedSimpArgs false
def magM:List UInt8:= [83,77,88,49]
def Zp_ (r:LnL):List UInt8:=r.id.l++ (z9_ (zP_ r.share)++ (z9_ (zP_ r.place)++z9_ (zP_ r.spot)))
def qF_ (l:List LnL):List UInt8:=(l.map Zp_).flatten
def ku_ (names sums:List (List UInt8)):Nat→List UInt8
 |0=> []
 |k+1=>ku_ names sums k++ (j7_ (names.getD k [])++sums.getD k [])
def kY_ (names sums:List (List UInt8)) (lines:List LnL):List UInt8:=
 (magM++ (z9_ (zP_ (names.length:Int))++ku_ names sums names.length))++ (z9_ (zP_ (lines.length:Int))++qF_ lines)
theorem QB_ (l:List LnL) {g:Nat} (h:g<l.length):qF_ (l.take (g+1))=qF_ (l.take g)++Zp_ (l.getD g Go.Proofs.ln0):=by
 rw[StP.take_snoc (z:=Go.Proofs.ln0) h];simp[qF_]
theorem Vo_ (r:LnL): (Zp_ r).length≤50:=by
 have h1:=zm_ r.share
 have h2:=zm_ r.place
 have h3:=zm_ r.spot
 have h4:=r.id.h
 unfold Zp_
 rw[List.length_append,List.length_append,List.length_append];omega
theorem vm_ (l:List LnL): ∀g,g≤l.length→(qF_ (l.take g)).length≤g*50
 |0,_=>by simp[qF_]
 |g+1,h=>by
  rw[QB_ l h,List.length_append]
  have:=vm_ l g (by omega)
  have:=Vo_ (l.getD g Go.Proofs.ln0)
  omega
theorem JZ_ (s:List UInt8): (j7_ s).length≤6+s.length:=by
 have:=zm_ (s.length:Int)
 unfold j7_
 rw[List.length_append];omega
def Most (n:Nat) (l:List (List UInt8)):Prop:= ∀s,s∈l→s.length≤n
theorem Most.at {n:Nat} {l:List (List UInt8)} (h:Most n l) (k:Nat): (l.getD k []).length≤n:=by
 by_cases hk:k<l.length
 ·rw[List.getD_eq_getElem?_getD,List.getElem?_eq_getElem hk];exact h _ (List.getElem_mem hk)
 ·rw[List.getD_eq_getElem?_getD,List.getElem?_eq_none (by omega)];simp
theorem Zv_ {names sums:List (List UInt8)} (hn:Most 1000 names) (hs:Most 1000 sums): ∀k,(ku_ names sums k).length≤k*2006
 |0=>by simp[ku_]
 |k+1=>by
  have h1:=Zv_ hn hs k
  have h2:=JZ_ (names.getD k [])
  have h3:=hn.at k
  have h4:=hs.at k
  unfold ku_
  rw[List.length_append,List.length_append];omega
structure MwG where
 k:Nat
 D:za_
set_option linter.defProp false
def z7_:=And.intro (And.intro (And.intro (@ze_) (And.intro (@zd_) (@k6_))) (And.intro (@wc_) (And.intro (@k2_) (@q7_)))) (And.intro (And.intro (@wC_) (And.intro (@kd_) (@k8_))) (And.intro (@v0_) (And.intro (@Zw_) (@xp_))))
theorem ZT_ (b:Nat) (names sums:List (List UInt8)) (lines:List LnL) (w:World) (hC:GlobC w) (h:MgIn w b names sums lines) (hsl:sums.length=names.length) (hnl:names.length≤40) (hll:lines.length≤8000) (hns:Most 1000 names) (hss:Most 1000 sums):
  Rets Tryd.prog 21 #[vp b 0] w (fun v D=>v=vs (qh_ (kY_ names sums lines))∧D= []):=by
 obtain⟨v0,v1,v2,h1,h2,h3,h4⟩:=id h
 have hbl:=(Array.getElem?_eq_some_iff.1 h1).1
 have l0:=h2.len
 have l2:=h4.len
 obtain⟨ra,oa,aa,Ea,fa,hra⟩:=h2.row
 obtain⟨rs,os,as_,Es,fs,hrs⟩:=h3.row
 obtain⟨rb,off,arr,E,fz,hr⟩:=h4.row
 have rd: ∀X c o,New w.heap.size X→w.heap[c]? =some o→zy_ w X c=some o:=fun X c o hX hc=>by rw[qx_ (hX.not (Array.getElem?_eq_some_iff.1 hc).1)];exact hc
 have hn1:=zm_ (names.length:Int)
 have hn2:=zm_ (lines.length:Int)
 refine Rets.enterV Tryd.func21 rfl (rs:= [.tmp 2]) Tryd.results21 Tryd.ntmps21 ?_
 refine kf ?_
 first|with_reducible refine ks [] @z7_ ?_|refine kp @z7_ ?_
 refine Ow.alloc rfl rfl Tryd.zr93 fun b3 hb3 hw3=> ?_
 refine ko @z7_ ?_
 first|with_reducible refine ks [] @z7_ ?_|refine kp @z7_ ?_
 have hZ:BldAt b3 [] [(b3, .cells #[.pointer none, .slice none 0 0] 93 (0,0))]:=BldAt.zeroK b3 (jg_ _ _ _)
 refine Ow.buildSlice (e:=9) #[vs [83,77,88,49]] rfl rfl (by kernel_rfl) fun b8 hb8 hw8=> ?_
 have h38:b3<b8:=zz_ hb8 (by simp[keys])
 refine ko @z7_ ?_
 refine Ow.callX (Y:= [(b8, .cells #[vs [83,77,88,49]] 9 (0,0))]) (by simp) rfl rfl Tryd.call40 (fun w' hw' hX hn=>kL_ b3 [(b3, .cells #[.pointer none, .slice none 0 0] 93 (0,0))] [] _ b8 0 [[83,77,88,49]] _ _ _ w' hZ hX hn (StrS.lit [[83,77,88,49]] rfl rfl (hw'.has _ _ (List.mem_cons_of_mem _ List.mem_cons_self))) (fun _ hm=>by simp[keys] at hm;omega) (by simp) (by simp)) (fun v9 D9 hC9 hS9=> ?_)
 obtain⟨rfl,hB9⟩:=hS9
 have hN9:New w.heap.size D9:=zQ_ hC9 ⟨hw3,trivial⟩
 have rd9:=rd (D9++ [(b8, .cells #[vs [83,77,88,49]] 9 (0,0))]) _ _ (hN9.app ⟨hw8,trivial⟩) h1
 refine ko @z7_ ?_
 first|with_reducible refine ks [] (And.intro @z7_ (And.intro @rd9 (@l0))) ?_|refine kp (And.intro @z7_ (And.intro @rd9 (@l0))) ?_
 refine Ow.buildSlice (e:=3) #[vi names.length] rfl rfl (by kernel_rfl) fun b15 hb15 hw15=> ?_
 refine ko @z7_ ?_
 refine Ow.callX (Y:= [(b8, .cells #[vs [83,77,88,49]] 9 (0,0)),(b15, .cells #[vi names.length] 3 (0,0))]) (by simp) rfl rfl Tryd.call41 (fun w' hw' hX hn=>qM_ b3 D9 _ _ b15 0 [(names.length:Int)] _ _ _ w' hB9 hX hn (OneS.lit [(names.length:Int)] rfl rfl (hw'.has b15 (.cells #[vi names.length] 3 (0,0)) (by simp))) (fun _ hm=>Nat.lt_irrefl _ (zz_ hb15 (by rw[zS_];exact List.mem_append_left _ hm))) (by simp)) (fun v16 D16 hC16 hS16=> ?_)
 obtain⟨rfl,hB16⟩:=hS16
 rw[vY_] at hB16
 have hN16:New w.heap.size D16:=zQ_ hC16 hN9
 have hN16':New w.heap.size (D16++ [(b8,Obj.cells #[vs [83,77,88,49]] 9 (0,0)),(b15,Obj.cells #[vi names.length] 3 (0,0))]):=hN16.app ⟨hw8,hw15,trivial⟩
 have rd16:=rd _ _ _ hN16' h1
 refine ko @z7_ ?_
 first|with_reducible refine ks [] (And.intro @z7_ (And.intro @rd16 (@l0))) ?_|refine kp (And.intro @z7_ (And.intro @rd16 (@l0))) ?_
 obtain⟨P0,hP0⟩: ∃P,P=magM++z9_ (zP_ (names.length:Int)):=⟨_,rfl⟩
 have hP0l:P0.length≤10:=by rw[hP0,List.length_append,show magM.length=4 from rfl];omega
 have hB0:BldAt b3 (P0++ku_ names sums 0) (D16++ [(b8,Obj.cells #[vs [83,77,88,49]] 9 (0,0)),(b15, .cells #[vi names.length] 3 (0,0))]):=by
  have:=hB16.app (Y:= [(b8,Obj.cells #[vs [83,77,88,49]] 9 (0,0)),(b15, .cells #[vi names.length] 3 (0,0))])
  rw[hP0]
  simpa [magM,ku_] using this
 refine Cw.loopG (G:=MwG) [23,24,25,26,4,5,27,28,29,30,31,32,33,34,35,36,37,38,39,22] (fun g=> [(22,vi g.k)]) (fun g=>g.D) (fun g=>g.k≤names.length∧New w.heap.size g.D∧BldAt b3 (P0++ku_ names sums g.k) g.D) (fun g=>names.length - g.k) ⟨0,D16++ [(b8,Obj.cells #[vs [83,77,88,49]] 9 (0,0)),(b15, .cells #[vi names.length] 3 (0,0))]⟩ rfl rfl ?_ ?_
 ·exact⟨Nat.zero_le _,hN16',hB0⟩
 intro g j hg
 refine kv ?_
 obtain⟨k,D⟩:=g
 simp only at hg ⊢
 obtain⟨hk,hN,hB⟩:=hg
 have hnt:=Zv_ hns hss k
 by_cases hlt:k<names.length
 ·have d1:decide ((k:Int)< (names.length:Int))=true:=decide_eq_true (by omega)
  have rda:=rd _ _ _ hN (hra.has (by omega))
  have ixa:=hra.idx false k hlt
  have lda:=fun n=>wI_ hra hlt n
  have ixs:=hrs.idx false k (by omega)
  have lds:=fun n=>wI_ hrs (show k<sums.length by omega) n
  have hst:ku_ names sums (k+1)=ku_ names sums k++ (j7_ (names.getD k [])++sums.getD k []):=rfl
  have hl1:=hns.at k
  have hl2:=hss.at k
  generalize names.getD k []=s at*
  generalize sums.getD k []=u at*
  have htl:=JZ_ s
  have htx:xV_ [s]=j7_ s:=by simp[xV_]
  have hPn: (P0++ku_ names sums k).length≤10+k*2006:=by rw[List.length_append];omega
  first|with_reducible refine ks [] (And.intro @z7_ (And.intro @d1 (And.intro @rda (And.intro @ixa (@lda))))) ?_|refine kp (And.intro @z7_ (And.intro @d1 (And.intro @rda (And.intro @ixa (@lda))))) ?_
  refine Ow.buildSlice (e:=9) #[vs s] rfl rfl (by kernel_rfl) fun b28 hb28 hw28=> ?_
  refine ko @z7_ ?_
  refine Ow.callX (Y:= [(b28, .cells #[vs s] 9 (0,0))]) (by simp) rfl rfl Tryd.call56 (fun w' hw' hX hn=>ab1_ b3 D _ _ b28 0 [s] _ _ _ w' hB hX hn (StrS.lit [s] rfl rfl (hw'.has b28 (.cells #[vs s] 9 (0,0)) (by simp))) (fun _ hm=>Nat.lt_irrefl _ (zz_ hb28 hm)) (by rw[htx];omega) (by simp)) (fun v29 D29 hC29 hS29=> ?_)
  obtain⟨rfl,hB29⟩:=hS29
  rw[htx] at hB29
  have hN29:New w.heap.size D29:=zQ_ hC29 hN
  have rd29:=rd (D29++ [(b28, .cells #[vs s] 9 (0,0))]) _ _ (hN29.app ⟨hw28,trivial⟩) h1
  have rds:=rd (D29++ [(b28, .cells #[vs s] 9 (0,0))]) _ _ (hN29.app ⟨hw28,trivial⟩) (hrs.has (by omega))
  refine ko @z7_ ?_
  first|with_reducible refine ks [] (And.intro @z7_ (And.intro @rd29 (And.intro @rds (And.intro @ixs (@lds))))) ?_|refine kp (And.intro @z7_ (And.intro @rd29 (And.intro @rds (And.intro @ixs (@lds))))) ?_
  refine Ow.buildSlice (e:=9) #[vs u] rfl rfl (by kernel_rfl) fun b37 hb37 hw37=> ?_
  refine ko @z7_ ?_
  refine Ow.callX (Y:= [(b28, .cells #[vs s] 9 (0,0)),(b37, .cells #[vs u] 9 (0,0))]) (by simp) rfl rfl Tryd.call40 (fun w' hw' hX hn=>kL_ b3 D29 _ _ b37 0 [u] _ _ _ w' hB29 hX hn (StrS.lit [u] rfl rfl (hw'.has b37 (.cells #[vs u] 9 (0,0)) (by simp))) (fun _ hm=>Nat.lt_irrefl _ (zz_ hb37 (by rw[zS_];exact List.mem_append_left _ hm))) (by rw[List.length_append];simp;omega) (by simp)) (fun v38 D38 hC38 hS38=> ?_)
  obtain⟨rfl,hB38⟩:=hS38
  have hN38:New w.heap.size D38:=zQ_ hC38 hN29
  refine ko @z7_ ?_
  first|with_reducible refine ks [] @z7_ ?_|refine kp @z7_ ?_
  refine Again.mk ⟨k+1,D38++ [(b28,Obj.cells #[vs s] 9 (0,0)),(b37, .cells #[vs u] 9 (0,0))]⟩ (by show names.length - (k+1)<names.length - k;omega) ⟨hlt,hN38.app ⟨hw28,hw37,trivial⟩, ?_⟩ rfl rfl
  show BldAt b3 (P0++ku_ names sums (k+1)) _
  rw[hst]
  have:=hB38.app (Y:= [(b28,Obj.cells #[vs s] 9 (0,0)),(b37, .cells #[vs u] 9 (0,0))])
  simpa using this
 ·obtain rfl:k=names.length:=by omega
  have d1:decide ((names.length:Int)< (names.length:Int))=false:=decide_eq_false (by omega)
  have rd40:=rd _ _ _ hN h1
  first|with_reducible refine ks [] (And.intro @z7_ (And.intro @d1 (And.intro @rd40 (@l2)))) ?_|refine kp (And.intro @z7_ (And.intro @d1 (And.intro @rd40 (@l2)))) ?_
  refine Ow.buildSlice (e:=3) #[vi lines.length] rfl rfl (by kernel_rfl) fun b45 hb45 hw45=> ?_
  refine ko @z7_ ?_
  have hPn: (P0++ku_ names sums names.length).length≤10+names.length*2006:=by rw[List.length_append];omega
  refine Ow.callX (Y:= [(b45, .cells #[vi lines.length] 3 (0,0))]) (by simp) rfl rfl Tryd.call41 (fun w' hw' hX hn=>qM_ b3 D _ _ b45 0 [(lines.length:Int)] _ _ _ w' hB hX hn (OneS.lit [(lines.length:Int)] rfl rfl (hw'.has b45 (.cells #[vi lines.length] 3 (0,0)) (by simp))) (fun _ hm=>Nat.lt_irrefl _ (zz_ hb45 hm)) (by simp;omega)) (fun v46 D46 hC46 hS46=> ?_)
  obtain⟨rfl,hB46⟩:=hS46
  rw[vY_] at hB46
  have hN46:New w.heap.size D46:=zQ_ hC46 hN
  have hN46':New w.heap.size (D46++ [(b45,Obj.cells #[vi lines.length] 3 (0,0))]):=hN46.app ⟨hw45,trivial⟩
  have rd46:=rd _ _ _ hN46' h1
  obtain⟨P1,hP1⟩: ∃P,P=P0++ku_ names sums names.length++z9_ (zP_ (lines.length:Int)):=⟨_,rfl⟩
  have hP1l:P1.length≤100000:=by rw[hP1,List.length_append];omega
  have hmb:kY_ names sums lines=P1++qF_ lines:=by rw[hP1,hP0];unfold kY_;simp only[List.append_assoc]
  have hB1:BldAt b3 (P1++qF_ (lines.take 0)) (D46++ [(b45,Obj.cells #[vi lines.length] 3 (0,0))]):=by
   have:=hB46.app (Y:= [(b45,Obj.cells #[vi lines.length] 3 (0,0))])
   rw[hP1]
   simpa [qF_] using this
  refine ko @z7_ ?_
  first|with_reducible refine ks [] (And.intro @z7_ (And.intro @rd46 (@l2))) ?_|refine kp (And.intro @z7_ (And.intro @rd46 (@l2))) ?_
  refine Cw.loopG (G:=MwG) [53,54,55,7,56,57,58,59,60,61,62,63,64,65,66,67,68,52] (fun q=> [(52,vi q.k)]) (fun q=>q.D) (fun q=>q.k≤lines.length∧New w.heap.size q.D∧BldAt b3 (P1++qF_ (lines.take q.k)) q.D) (fun q=>lines.length - q.k) ⟨0,D46++ [(b45,Obj.cells #[vi lines.length] 3 (0,0))]⟩ rfl rfl ?_ ?_
  ·exact⟨Nat.zero_le _,hN46',hB1⟩
  intro q jq hq
  refine kv ?_
  obtain⟨k,D⟩:=q
  simp only at hq ⊢
  clear hN hB
  obtain⟨hk,hN,hB⟩:=hq
  have hrl:=vm_ lines k hk
  by_cases hlt:k<lines.length
  ·have d1:decide ((k:Int)< (lines.length:Int))=true:=decide_eq_true (by omega)
   have rdb:=rd _ _ _ hN (hr.has (by omega))
   have ix:=hr.idx true k hlt
   have ld:=hr.load qc_ (by omega) hlt
   have hsn:=QB_ lines hlt
   generalize lines.getD k Go.Proofs.ln0=r at*
   first|with_reducible refine ks [1000014] (And.intro @z7_ (And.intro @d1 (And.intro @rdb (And.intro @ix (@ld))))) ?_|refine kp (And.intro @z7_ (And.intro @d1 (And.intro @rdb (And.intro @ix (@ld))))) ?_
   refine Ow.alloc rfl rfl Kc_ fun b7 hb7 hw7=> ?_
   simp only[zg_,List.nil_append,List.cons_append]
   refine Ow.permL (M:=(b7, .cells (lnC Go.Proofs.ln0).toArray 38 (0,0))::D) (by classical exact List.perm_iff_count.2 fun a=>by simp only[List.count_append,List.count_cons,List.count_nil]<;>omega) ?_
   refine ko @z7_ ?_
   first|with_reducible refine ks [] @z7_ ?_|refine kp @z7_ ?_
   have hrb:=Vo_ r
   have hil:=r.id.h
   have hPk: (P1++qF_ (lines.take k)).length≤100000+k*50:=by rw[List.length_append];omega
   refine Ow.buildSlice (e:=36) (a8 r.id.l) rfl rfl (VF_ r.id) fun b35 hb35 hw35=> ?_
   refine ko @z7_ ?_
   refine Ow.permL (M:=D++ [(b7,Obj.cells (lnC r).toArray 38 (0,0)),(b35, .cells (a8 r.id.l) 36 (0,0))]) (by classical exact List.perm_iff_count.2 fun a=>by simp only[List.count_append,List.count_cons,List.count_nil]<;>omega) ?_
   refine Ow.callX (Y:= [(b7,Obj.cells (lnC r).toArray 38 (0,0)),(b35, .cells (a8 r.id.l) 36 (0,0))]) (by simp) rfl rfl Tryd.call42 (fun w' hw' hX hn=>aa0_ b3 D _ _ b35 0 [r.id] _ _ _ w' hB hX hn (VP_ r.id (hw'.has b35 (.cells (a8 r.id.l) 36 (0,0)) (by simp))) (fun _ hm=>Nat.lt_irrefl _ (zz_ hb35 (by simp[keys] at hm ⊢;exact .inr hm))) (by simp at hPk ⊢;omega)) (fun v36 D36 hC36 hS36=> ?_)
   obtain⟨rfl,hB36⟩:=hS36
   have hN36:New w.heap.size D36:=zQ_ hC36 hN
   refine Ow.permL (M:=(b7,Obj.cells (lnC r).toArray 38 (0,0)):: (D36++ [(b35, .cells (a8 r.id.l) 36 (0,0))])) (by classical exact List.perm_iff_count.2 fun a=>by simp only[List.count_append,List.count_cons,List.count_nil]<;>omega) ?_
   refine ko @z7_ ?_
   first|with_reducible refine ks [] @z7_ ?_|refine kp @z7_ ?_
   refine Ow.buildSlice (e:=3) #[vi r.share,vi r.place,vi r.spot] rfl rfl (by kernel_rfl) fun b39 hb39 hw39=> ?_
   refine ko @z7_ ?_
   refine Ow.permL (M:=D36++ [(b7,Obj.cells (lnC r).toArray 38 (0,0)),(b35, .cells (a8 r.id.l) 36 (0,0)),(b39, .cells #[vi r.share,vi r.place,vi r.spot] 3 (0,0))]) (by classical exact List.perm_iff_count.2 fun a=>by simp only[List.count_append,List.count_cons,List.count_nil]<;>omega) ?_
   refine Ow.callX (Y:= [(b7,Obj.cells (lnC r).toArray 38 (0,0)),(b35, .cells (a8 r.id.l) 36 (0,0)),(b39, .cells #[vi r.share,vi r.place,vi r.spot] 3 (0,0))]) (by simp) rfl rfl Tryd.call41 (fun w' hw' hX hn=>qM_ b3 D36 _ _ b39 0 [r.share,r.place,r.spot] _ _ _ w' hB36 hX hn (OneS.lit [r.share,r.place,r.spot] rfl rfl (hw'.has b39 (.cells #[vi r.share,vi r.place,vi r.spot] 3 (0,0)) (by simp))) (fun _ hm=>Nat.lt_irrefl _ (zz_ hb39 (by simp[keys] at hm ⊢;exact .inr (.inl hm)))) (by simp[idsL,hil] at hPk ⊢;omega)) (fun v40 D40 hC40 hS40=> ?_)
   obtain⟨rfl,hB40⟩:=hS40
   have hN40:New w.heap.size D40:=zQ_ hC40 hN36
   refine ko @z7_ ?_
   first|with_reducible refine ks [] @z7_ ?_|refine kp @z7_ ?_
   refine Again.mk ⟨k+1,D40++ [(b7,Obj.cells (lnC r).toArray 38 (0,0)),(b35, .cells (a8 r.id.l) 36 (0,0)),(b39, .cells #[vi r.share,vi r.place,vi r.spot] 3 (0,0))]⟩ (by show lines.length - (k+1)<lines.length - k;omega) ⟨hlt,hN40.app ⟨hw7,hw35,hw39,trivial⟩, ?_⟩ rfl rfl
   show BldAt b3 (P1++qF_ (lines.take (k+1))) _
   rw[hsn]
   have:=hB40.app (Y:= [(b7,Obj.cells (lnC r).toArray 38 (0,0)),(b35, .cells (a8 r.id.l) 36 (0,0)),(b39, .cells #[vi r.share,vi r.place,vi r.spot] 3 (0,0))])
   simpa [Zp_,idsL,jR_] using this
  ·obtain rfl:k=lines.length:=by omega
   have d1:decide ((lines.length:Int)< (lines.length:Int))=false:=decide_eq_false (by omega)
   rw[List.take_length] at hrl hB
   rw[←hmb] at hB
   have hpl: (kY_ names sums lines).length<34359738368:=by rw[hmb,List.length_append];omega
   first|with_reducible refine ks [] (And.intro @z7_ @d1) ?_|refine kp (And.intro @z7_ @d1) ?_
   refine Ow.callX (Y:= []) (by simp) rfl rfl Tryd.call44 (fun w' hw' hX hn=>Zh_ b3 D (kY_ names sums lines) w' hB hX hn hpl) (fun v42 D42 hC42 hS42=> ?_)
   subst hS42
   have hN42:New w.heap.size D42:=zQ_ hC42 hN
   rw[List.append_nil]
   refine ko @z7_ ?_
   refine Ow.callFV rfl Tryd.call43 (fun w' hw'=>wT_ (kY_ names sums lines) w' (hC.newP hw' hN42) (by omega)) ?_
   refine ko @z7_ ?_
   first|with_reducible refine ks [] @z7_ ?_|refine kp @z7_ ?_
   refine⟨_,(ke @z7_),hN42, ?_⟩
   rfl
end Go.Proofs
end
section
open Go Go.Proofs Go.Sx Go.StP Go.Flo
namespace Go.Proofs
set_option maxRecDepth 10000
set_option maxHeartbeats 1000000
set_option linter.unusedSimpArgs false
abbrev Ps:=Nat×Int
def nmR (s:List UInt8) (q:Ps):List UInt8×List UInt8×Ps:=
 ((qe_ s q.1 q.2 40).1,(qz_ s (qe_ s q.1 q.2 40).2.1 (qe_ s q.1 q.2 40).2.2 4).1,(qz_ s (qe_ s q.1 q.2 40).2.1 (qe_ s q.1 q.2 40).2.2 4).2)
def ZU_ (s:List UInt8):Nat→Ps→List (List UInt8)×List (List UInt8)×Ps
 |0,q=>([],[],q)
 |k+1,q=>((nmR s q).1:: (ZU_ s k (nmR s q).2.2).1,(nmR s q).2.1:: (ZU_ s k (nmR s q).2.2).2.1,(ZU_ s k (nmR s q).2.2).2.2)
def lnR (s:List UInt8) (q:Ps):LnL×Ps:=
 (⟨wU_ (idR s q.1 q.2).1,(zE_ s (idR s q.1 q.2).2.1 (idR s q.1 q.2).2.2 40).1,(QX_ s (zE_ s (idR s q.1 q.2).2.1 (idR s q.1 q.2).2.2 40).2).1,(QX_ s (QX_ s (zE_ s (idR s q.1 q.2).2.1 (idR s q.1 q.2).2.2 40).2).2).1⟩,(QX_ s (QX_ s (zE_ s (idR s q.1 q.2).2.1 (idR s q.1 q.2).2.2 40).2).2).2)
def VV_ (s:List UInt8):Nat→Ps→List LnL×Ps
 |0,q=>([],q)
 |k+1,q=>((lnR s q).1:: (VV_ s k (lnR s q).2).1,(VV_ s k (lnR s q).2).2)
def J8_ (s:List UInt8) (q:Ps):List (List UInt8)×List (List UInt8)×Ps:=ZU_ s (zE_ s q.1 q.2 40).1.toNat (zE_ s q.1 q.2 40).2
def abG_ (s:List UInt8) (q:Ps):List LnL×Ps:=VV_ s (zE_ s q.1 q.2 8000).1.toNat (zE_ s q.1 q.2 8000).2
def vD_ (s:List UInt8) (q:Ps):List (List UInt8)×List (List UInt8)×List LnL×Ps:=((J8_ s q).1,(J8_ s q).2.1,abG_ s (J8_ s q).2.2)
def MgOk (b:List UInt8):Prop:=w5_ (zi_ b).1 (vD_ (zi_ b).1 (qz_ (zi_ b).1 0 0 4).2).2.2.2.1 (vD_ (zi_ b).1 (qz_ (zi_ b).1 0 0 4).2).2.2.2.2=0∧qn_ (vD_ (zi_ b).1 (qz_ (zi_ b).1 0 0 4).2).1 (vD_ (zi_ b).1 (qz_ (zi_ b).1 0 0 4).2).2.2.1=true∧qh_ (kY_ (vD_ (zi_ b).1 (qz_ (zi_ b).1 0 0 4).2).1 (vD_ (zi_ b).1 (qz_ (zi_ b).1 0 0 4).2).2.1 (vD_ (zi_ b).1 (qz_ (zi_ b).1 0 0 4).2).2.2.1)=b
noncomputable def Wp_ (b:List UInt8):Option (List (List UInt8)×List (List UInt8)×List LnL):=
 open Classical in if MgOk b then some ((vD_ (zi_ b).1 (qz_ (zi_ b).1 0 0 4).2).1,(vD_ (zi_ b).1 (qz_ (zi_ b).1 0 0 4).2).2.1,(vD_ (zi_ b).1 (qz_ (zi_ b).1 0 0 4).2).2.2.1) else none
theorem aa7_ {b s:List UInt8} {names sums:List (List UInt8)} {lines:List LnL} {q:Ps} (hs: (zi_ b).1=s) (h:vD_ s (qz_ s 0 0 4).2=(names,sums,lines,q)):
  (w5_ s q.1 q.2=0∧qn_ names lines=true∧qh_ (kY_ names sums lines)=b→Wp_ b=some (names,sums,lines))∧(¬ (w5_ s q.1 q.2=0∧qn_ names lines=true∧qh_ (kY_ names sums lines)=b)→Wp_ b=none):=by
 unfold Wp_ MgOk
 rw[hs,h]
 constructor
 ·intro hc
  rw[if_pos hc]
 ·intro hc
  rw[if_neg hc]
theorem afn_ (s:List UInt8) (a:Nat) (e n:Int) (hn:0≤n): ((qz_ s a e n).1.length:Int)≤n:=by
 unfold qz_
 split
 ·simpa using hn
 ·split
  ·simpa using hn
  ·split
   ·simpa using hn
   ·simp only[List.length_take,List.length_drop];omega
theorem VA_ (s:List UInt8): ∀ (k:Nat) (q:Ps),Most 40 (ZU_ s k q).1∧Most 4 (ZU_ s k q).2.1
 |0,_=>⟨fun _ h=>(by cases h),fun _ h=>(by cases h)⟩
 |k+1,q=>by
  obtain⟨h1,h2⟩:=VA_ s k (nmR s q).2.2
  unfold ZU_
  refine⟨fun x hx=> ?_,fun x hx=> ?_⟩
  ·rcases List.mem_cons.1 hx with rfl|hx
   ·have:=acU_ s q.1 q.2 40 (by omega)
    show(qe_ s q.1 q.2 40).1.length≤40
    omega
   ·exact h1 x hx
  ·rcases List.mem_cons.1 hx with rfl|hx
   ·have:=afn_ s (qe_ s q.1 q.2 40).2.1 (qe_ s q.1 q.2 40).2.2 4 (by omega)
    show(qz_ s (qe_ s q.1 q.2 40).2.1 (qe_ s q.1 q.2 40).2.2 4).1.length≤4
    omega
   ·exact h2 x hx
theorem Most.mono {n m:Nat} {l:List (List UInt8)} (h:Most n l) (hm:n≤m):Most m l:=fun s hs=>Nat.le_trans (h s hs) hm
theorem Most.short {n:Nat} {l:List (List UInt8)} (h:Most n l) (hn:n<1099511627776):aeB_ l:=fun s hs=>Nat.lt_of_le_of_lt (h s hs) hn
end Go.Proofs
end
section
open Go Go.Proofs Go.Sx Go.StP Go.Flo
namespace Go.Proofs
set_option maxRecDepth 10000
set_option maxHeartbeats 1000000
set_option linter.unusedSimpArgs false
theorem Qq_ (r:LnL):jb_ (QW_ Tryd.prog 38) (qd_ Tryd.prog 38) [(0,Value.agg (a8 r.id.l))]=some (.agg (lnC ⟨r.id,0,0,0⟩).toArray):=by
 have hp:QW_ Tryd.prog 38=some [(0,32),(32,1),(33,1),(34,1)]:=id (by kernel_rfl)
 rw[hp,Kc_]
 have e0: (lnC ln0).toArray=(([]:List Value)++ ((ln0.id.l.map v8)++ ([vi ln0.share]++ ([vi ln0.place]++ ([vi ln0.spot]))))).toArray:=by congr 1<;>simp only[lnC,List.append_assoc,List.nil_append,List.append_nil]
 have q0:x3_ (([]:List Value)++ ((ln0.id.l.map v8)++ ([vi ln0.share]++ ([vi ln0.place]++ ([vi ln0.spot]))))).toArray 0 (r.id.l.map v8)=(([]:List Value)++ ((r.id.l.map v8)++ ([vi ln0.share]++ ([vi ln0.place]++ ([vi ln0.spot]))))).toArray:=xk_ _ _ _ _ (by simp) (by simp[ln0.id.h,r.id.h])
 have s0: (([]:List Value)++ ((ln0.id.l.map v8)++ ([vi ln0.share]++ ([vi ln0.place]++ ([vi ln0.spot]))))).toArray.size=35:=by simp[r.id.h,ln0.id.h]
 have z0: (Value.cells (Value.agg (a8 r.id.l))).toList=r.id.l.map v8:=by rw[zg_];rfl
 have y0: (Value.cells (Value.agg (a8 r.id.l))).size=32:=by rw[←Array.length_toList,z0];simp[r.id.h]
 have eZ: (([]:List Value)++ ((r.id.l.map v8)++ ([vi ln0.share]++ ([vi ln0.place]++ ([vi ln0.spot]))))).toArray=(lnC ⟨r.id,0,0,0⟩).toArray:=by congr 1
 simp only[jb_]
 rw[e0]
 unfold Sx.fillV
 simp only[List.getElem?_cons_zero,List.getElem?_cons_succ,z0,y0]
 rw[if_pos ⟨trivial,by rw[s0];decide⟩,q0]
 rw[eZ];rfl
theorem zrMg:qd_ Tryd.prog 59=some (.agg #[.slice none 0 0, .slice none 0 0, .slice none 0 0]):=id (by kernel_rfl)
theorem K5_:jb_ (QW_ Tryd.prog 59) (qd_ Tryd.prog 59) []=some (.agg #[.slice none 0 0, .slice none 0 0, .slice none 0 0]):=by
 rw[show QW_ Tryd.prog 59=some [(0,1),(1,1),(2,1)] from id (by kernel_rfl),zrMg];rfl
theorem KF_ (v0 v1 v2 q:Value) (a:Bool) (hq:Value.oneCell' q=true∧q.cells= #[q]):zl_ (some (a,1)) (some (mgO v0 v1 v2)) 0 q=some (mgO q v1 v2):=
 zY_ [] [v0] [q] [v1,v2] a _ 59 rfl rfl hq.2 rfl (by simp[hq.1])
theorem VR_ (v0 v1 v2 q:Value) (a:Bool) (hq:Value.oneCell' q=true∧q.cells= #[q]):zl_ (some (a,1)) (some (mgO v0 v1 v2)) 1 q=some (mgO v0 q v2):=
 zY_ [v0] [v1] [q] [v2] a _ 59 rfl rfl hq.2 rfl (by simp[hq.1])
theorem Ve_ (v0 v1 v2 q:Value) (a:Bool) (hq:Value.oneCell' q=true∧q.cells= #[q]):zl_ (some (a,1)) (some (mgO v0 v1 v2)) 2 q=some (mgO v0 v1 q):=
 zY_ [v0,v1] [v2] [q] [] a _ 59 rfl rfl hq.2 rfl (by simp[hq.1])
def MgD (D:za_) (b:Nat) (names sums:List (List UInt8)) (lines:List LnL):Prop:= ∃v0 v1 v2,(b,mgO v0 v1 v2)∈D∧GrI D 9 1 v0 names.length (names.map VS_).flatten∧GrI D 9 1 v1 sums.length (sums.map VS_).flatten∧GrI D 38 35 v2 lines.length (lines.map lnC).flatten
theorem MgD.mono {D D':za_} {b:Nat} {names sums:List (List UInt8)} {lines:List LnL} (h:MgD D b names sums lines) (hD: ∀p,p∈D→p∈D'):MgD D' b names sums lines:=by
 obtain⟨v0,v1,v2,h1,h2,h3,h4⟩:=h;exact⟨v0,v1,v2,hD _ h1,h2.mono hD,h3.mono hD,h4.mono hD⟩
theorem Kx_ (s:List UInt8): (VS_ s).length=1:=rfl
theorem MgD.inW {w0 w:World} {D:za_} {b:Nat} {names sums:List (List UInt8)} {lines:List LnL} (h:MgD D b names sums lines) (hw:Hp w0 D w):MgIn w b names sums lines:=by
 obtain⟨v0,v1,v2,h1,h2,h3,h4⟩:=h;exact⟨v0,v1,v2,hw.has _ _ h1,h2.slV hw rfl rfl Kx_,h3.slV hw rfl rfl Kx_,h4.slV hw rfl rfl qc_⟩
def abd_ (b:List UInt8) (v:Value) (D:za_):Prop:=match Wp_ b with
 |some q=> ∃bm,v= .tuple #[vp bm 0,vi 0]∧MgD D bm q.1 q.2.1 q.2.2
 |none=>v= .tuple #[.pointer none,vi 2]
structure OmG where
 l:List (List UInt8)
 u:List (List UInt8)
 q:Ps
 v0:Value
 v1:Value
 D1:za_
 D2:za_
 DG:za_
structure OmL where
 l:List LnL
 q:Ps
 v:Value
 D3:za_
 DG:za_
set_option linter.defProp false
def zI_:=And.intro (And.intro (And.intro (And.intro (@ze_) (@zd_)) (And.intro (@k6_) (@wc_))) (And.intro (And.intro (@k2_) (@q7_)) (And.intro (@wC_) (@kd_)))) (And.intro (And.intro (And.intro (@k8_) (@v0_)) (And.intro (@Zw_) (@xp_))) (And.intro (And.intro (@aeY_) (@adO_)) (And.intro (@aeO_) (And.intro (@Sx.tup2_0) (@Sx.tup2_1)))))
theorem J0_ (b:List UInt8) (w:World) (hC:GlobC w) (hb:b.length<1099511627776):
  Rets Tryd.prog 8 #[vs b] w (XS w [] (abd_ b)):=by
 refine Rets.enterX Tryd.func8 rfl (rs:= [.tmp 2, .tmp 3]) Tryd.results8 Tryd.ntmps8 (fun p hp=>by cases hp) (by simp[keys]) ?_
 refine kf ?_
 first|with_reducible refine ks [1000016] @zI_ ?_|refine kp @zI_ ?_
 refine Ow.callFV rfl Tryd.call22 (fun w' hw'=>w8_ b w' (hC.newP hw' trivial) (by omega)) ?_
 have hun: (zi_ b).1.length≤b.length:=Qw_ b
 obtain⟨u,hu⟩: ∃u,u=zi_ b:=⟨_,rfl⟩
 obtain⟨s,ok⟩:=u
 have hus: (zi_ b).1=s:=by rw[←hu]
 rw[hus] at hun
 rw[←hu]
 obtain⟨r,hr⟩: ∃r,vD_ s (qz_ s 0 0 4).2=r:=⟨_,rfl⟩
 obtain⟨rn,rs,rl,rq⟩:=r
 obtain⟨hyes,hno⟩:=aa7_ hus hr
 unfold abd_
 refine ko @zI_ ?_
 refine Ow.callF rfl rfl Tryd.call23 (S:=fun B v D=> ∃b',B≤b'∧v=vp b' 0∧D= [(b',wrO s 0 0)]) (fun w' hw'=>Va_ s w') ?_
 rintro B v D hab hB ⟨bw,hbw,rfl,rfl⟩
 have hww:w.heap.size≤bw:=by omega
 refine⟨_,Mrg.fresh (by intro q hq;simp only[keys,List.map_cons,List.map_nil,List.mem_singleton] at hq;omega), ?_⟩
 rw[List.nil_append]
 refine ko @zI_ ?_
 refine Ow.build (.agg #[.slice none 0 0, .slice none 0 0, .slice none 0 0]) rfl K5_ ?_
 refine ko @zI_ ?_
 refine Ow.box rfl rfl fun bm hbm hwm=> ?_
 simp only[jL_,jr_,jq_,zg_]
 have hwbm:bw<bm:=zz_ hbm (by simp[keys])
 refine Ow.permL (M:= [(bm,mgO (.slice none 0 0) (.slice none 0 0) (.slice none 0 0)),(bw,wrO s 0 0)]) (List.Perm.swap _ _ _) ?_
 refine ko @zI_ ?_
 refine Ow.callM rfl rfl Tryd.call24 (by simp[keys]) (fun w' hw'=>wN_ bw s 0 0 4 w' (Nat.zero_le _) (by omega) (hw'.has _ _ (List.mem_cons_of_mem _ List.mem_cons_self))) ?_
 have r1:=vz_ (s:=s) (a:=0) (e:=0) (n:=4) (Nat.zero_le _)
 unfold vD_ at hr
 generalize qz_ s 0 0 4=p at*
 obtain⟨hd,a1,e1⟩:=p
 simp only at r1 hr ⊢
 refine kn ?_
 refine ko @zI_ ?_
 refine Ow.callM rfl rfl Tryd.call25 (by simp[keys]) (fun w' hw'=>z5_ bw s a1 e1 40 w' r1.2 (by omega) (hw'.has _ _ (List.mem_cons_of_mem _ List.mem_cons_self))) ?_
 have r2:=js_ (s:=s) (a:=a1) (e:=e1) (most:=40) r1.2
 have m2:=vn_ (s:=s) (a:=a1) (e:=e1) (most:=40) (by omega)
 have hnm:J8_ s (a1,e1)=ZU_ s (zE_ s a1 e1 40).1.toNat (zE_ s a1 e1 40).2:=rfl
 generalize zE_ s a1 e1 40=p at*
 obtain⟨n0,a2,e2⟩:=p
 simp only at r2 m2 hnm ⊢
 obtain⟨n,rfl⟩: ∃n:Nat,n0=(n:Int):=⟨n0.toNat,by omega⟩
 rw[Int.toNat_natCast] at hnm
 refine kn ?_
 refine ko @zI_ ?_
 refine Cw.permL (M:=(bm,mgO (.slice none 0 0) (.slice none 0 0) (.slice none 0 0)):: (bw,wrO s a2 e2):: ([]++ ([]++ []))) (List.Perm.refl _) ?_
 refine Cw.loopG (G:=OmG) [23,24,25,26,27,28,29,30,31,32,33,34,35,36,37,38,39,40,41,42,43,44,45,46,22] (fun g=> [(22,vi g.l.length)]) (fun g=>(bm,mgO g.v0 g.v1 (.slice none 0 0)):: (bw,wrO s g.q.1 g.q.2):: (g.D1++ (g.D2++g.DG))) (fun g=>g.l.length≤n∧g.u.length=g.l.length∧g.q.1≤s.length∧New w.heap.size g.D1∧New w.heap.size g.D2∧New w.heap.size g.DG∧Gr g.D1 9 1 g.v0 g.l.length (g.l.map VS_).flatten∧Gr g.D2 9 1 g.v1 g.u.length (g.u.map VS_).flatten∧ZU_ s n (a2,e2)=(g.l++ (ZU_ s (n - g.l.length) g.q).1,g.u++ (ZU_ s (n - g.l.length) g.q).2.1,(ZU_ s (n - g.l.length) g.q).2.2)) (fun g=>n - g.l.length) ⟨[],[],(a2,e2), .slice none 0 0, .slice none 0 0,[],[],[]⟩ rfl rfl ?_ ?_
 ·exact⟨Nat.zero_le _,rfl,r2.2,trivial,trivial,trivial,Gr.nl,Gr.nl,rfl⟩
 intro g j hg
 refine kv ?_
 obtain⟨l,u,⟨a,e⟩,v0,v1,D1,D2,DG⟩:=g
 simp only at hg ⊢
 obtain⟨hln,hul,hal,hN1,hN2,hNG,hG1,hG2,hrr⟩:=hg
 by_cases hlt:l.length<n
 ·have d1:decide ((l.length:Int)< (n:Int))=true:=decide_eq_true (by omega)
  have hpr:ZU_ s n (a2,e2)=(l++ [(nmR s (a,e)).1]++ (ZU_ s (n - (l++ [(nmR s (a,e)).1]).length) (nmR s (a,e)).2.2).1,u++ [(nmR s (a,e)).2.1]++ (ZU_ s (n - (l++ [(nmR s (a,e)).1]).length) (nmR s (a,e)).2.2).2.1,(ZU_ s (n - (l++ [(nmR s (a,e)).1]).length) (nmR s (a,e)).2.2).2.2):=by
   rw[hrr,show n - l.length=(n - (l++ [(nmR s (a,e)).1]).length)+1 by simp;omega]
   generalize n - (l++ [(nmR s (a,e)).1]).length=m
   show(l++ ((nmR s (a,e)).1:: (ZU_ s m (nmR s (a,e)).2.2).1),u++ ((nmR s (a,e)).2.1:: (ZU_ s m (nmR s (a,e)).2.2).2.1),(ZU_ s m (nmR s (a,e)).2.2).2.2)=_
   rw[List.append_assoc,List.append_assoc];rfl
  have hrow:nmR s (a,e)=((qe_ s a e 40).1,(qz_ s (qe_ s a e 40).2.1 (qe_ s a e 40).2.2 4).1,(qz_ s (qe_ s a e 40).2.1 (qe_ s a e 40).2.2 4).2):=rfl
  first|with_reducible refine ks [] (And.intro @zI_ @d1) ?_|refine kp (And.intro @zI_ @d1) ?_
  refine Cw.regionS [bm] [0,1,2,3,5,4,6,7,8,9,10,11] [11] (by kernel_rfl) (by kernel_rfl) (by kernel_rfl) ?_
  simp only[zj_, ↓zf_, ↓zb_, ↓zp_, ↓zq_,zc_]
  refine kq @zI_ ?_
  refine Ow.soft rfl rfl rfl ?_
  refine Ow.callM rfl rfl Tryd.call26 (by simp[keys]) (fun w' hw'=>Wd_ bw s a e 40 w' hal (by omega) (hw'.has _ _ (List.mem_cons_of_mem _ List.mem_cons_self))) ?_
  have t1:=(XY_ (s:=s) (a:=a) (e:=e) (most:=40) hal).2
  generalize qe_ s a e 40=p at*
  obtain⟨x,a3,e3⟩:=p
  simp only at hrow t1 ⊢
  refine kn ?_
  with_reducible refine Ow.nil ?_
  refine⟨(fun r hr=>by rw[List.mem_singleton] at hr;subst hr;simp(disch:=omega) only[List.cons_append,List.nil_append,zR_,zA_]), ?_⟩
  refine kq @zI_ ?_
  refine Ow.soft rfl rfl rfl ?_
  refine Ow.buildSlice (e:=9) #[vs x] rfl rfl (by kernel_rfl) fun ba hba hwa=> ?_
  with_reducible refine Ow.nil ?_
  refine⟨(fun r hr=>by rw[List.mem_singleton] at hr;subst hr;simp(disch:=omega) only[List.cons_append,List.nil_append,zR_,zA_]), ?_⟩
  refine kq @zI_ ?_
  refine Ow.soft rfl rfl rfl ?_
  refine Ow.permL (M:=D1++ ((bm,mgO v0 v1 (.slice none 0 0)):: (bw,wrO s a3 e3):: (D2++ (DG++ [(ba, .cells #[vs x] 9 (0,0))])))) (by classical exact List.perm_iff_count.2 fun a=>by simp only[List.count_append,List.count_cons,List.count_nil]<;>omega) ?_
  refine Ow.appendXG (e:=9) (k:=1) (new:=VS_ x) (X:=D1) v0 rfl rfl rfl rfl Tryd.underlying57 (id (by kernel_rfl):qr_ Tryd.prog 9=some (false,1)) (by kernel_rfl) (id (by kernel_rfl):qd_ Tryd.prog 9=some (vs [])) rfl Tryd.underlying57 (by intro k h;cases h) hG1 (fun w' hw'=>AppX.one1 (hw'.has ba (.cells #[vs x] 9 (0,0)) (by simp)) rfl rfl) (by omega) (fun B4 v4 D4 hA4 hB4 hG4 hk41 hk42 hlk4=> ?_)
  have hN4:New w.heap.size D4:=New.of_le fun q hq=>by
   rcases hk42 q hq with h|h
   ·exact hN1.le q h
   ·omega
  refine Ow.permL (M:=(bm,mgO v0 v1 (.slice none 0 0)):: (bw,wrO s a3 e3):: (D4++ (D2++ (DG++ [(ba, .cells #[vs x] 9 (0,0))])))) (by classical exact List.perm_iff_count.2 fun a=>by simp only[List.count_append,List.count_cons,List.count_nil]<;>omega) ?_
  with_reducible refine Ow.nil ?_
  refine⟨(fun r hr=>by rw[List.mem_singleton] at hr;subst hr;simp(disch:=omega) only[List.cons_append,List.nil_append,zR_,zA_]), ?_⟩
  have st4: ∀a,zl_ (some (a,1)) (some (mgO v0 v1 (.slice none 0 0))) 0 v4=some (mgO v4 v1 (.slice none 0 0)):=fun a=>KF_ v0 v1 _ v4 a hG4.cell
  refine kq @zI_ ?_
  refine Ow.store rfl rfl rfl (ke (And.intro @zI_ @st4)) ?_
  refine ko @zI_ ?_
  refine Cw.regionS [bm] [0,1,2,3,5,4,6,7,8,9,10,11] [11] (by kernel_rfl) (by kernel_rfl) (by kernel_rfl) ?_
  simp only[zj_, ↓zf_, ↓zb_, ↓zp_, ↓zq_,zc_]
  refine kq @zI_ ?_
  refine Ow.soft rfl rfl rfl ?_
  refine Ow.callM rfl rfl Tryd.call24 (by simp[keys]) (fun w' hw'=>wN_ bw s a3 e3 4 w' t1 (by omega) (hw'.has _ _ (List.mem_cons_of_mem _ List.mem_cons_self))) ?_
  have t2:=(vz_ (s:=s) (a:=a3) (e:=e3) (n:=4) t1).2
  generalize qz_ s a3 e3 4=p at*
  obtain⟨y,a4,e4⟩:=p
  simp only at hrow t2 ⊢
  rw[hrow] at hpr
  simp only at hpr
  refine kn ?_
  with_reducible refine Ow.nil ?_
  refine⟨(fun r hr=>by rw[List.mem_singleton] at hr;subst hr;simp(disch:=omega) only[List.cons_append,List.nil_append,zR_,zA_]), ?_⟩
  refine kq @zI_ ?_
  refine Ow.soft rfl rfl rfl ?_
  refine Ow.buildSlice (e:=9) #[vs y] rfl rfl (by kernel_rfl) fun bc hbc hwc=> ?_
  with_reducible refine Ow.nil ?_
  refine⟨(fun r hr=>by rw[List.mem_singleton] at hr;subst hr;simp(disch:=omega) only[List.cons_append,List.nil_append,zR_,zA_]), ?_⟩
  refine kq @zI_ ?_
  refine Ow.soft rfl rfl rfl ?_
  refine Ow.permL (M:=D2++ ((bm,mgO v4 v1 (.slice none 0 0)):: (bw,wrO s a4 e4):: (D4++ (DG++ [(ba, .cells #[vs x] 9 (0,0)),(bc, .cells #[vs y] 9 (0,0))])))) (by classical exact List.perm_iff_count.2 fun a=>by simp only[List.count_append,List.count_cons,List.count_nil]<;>omega) ?_
  refine Ow.appendXG (e:=9) (k:=1) (new:=VS_ y) (X:=D2) v1 rfl rfl rfl rfl Tryd.underlying57 (id (by kernel_rfl):qr_ Tryd.prog 9=some (false,1)) (by kernel_rfl) (id (by kernel_rfl):qd_ Tryd.prog 9=some (vs [])) rfl Tryd.underlying57 (by intro k h;cases h) hG2 (fun w' hw'=>AppX.one1 (hw'.has bc (.cells #[vs y] 9 (0,0)) (by simp)) rfl rfl) (by omega) (fun B5 v5 D5 hA5 hB5 hG5 hk51 hk52 hlk5=> ?_)
  have hN5:New w.heap.size D5:=New.of_le fun q hq=>by
   rcases hk52 q hq with h|h
   ·exact hN2.le q h
   ·omega
  refine Ow.permL (M:=(bm,mgO v4 v1 (.slice none 0 0)):: (bw,wrO s a4 e4):: (D4++ (D5++ (DG++ [(ba, .cells #[vs x] 9 (0,0)),(bc, .cells #[vs y] 9 (0,0))])))) (by classical exact List.perm_iff_count.2 fun a=>by simp only[List.count_append,List.count_cons,List.count_nil]<;>omega) ?_
  with_reducible refine Ow.nil ?_
  refine⟨(fun r hr=>by rw[List.mem_singleton] at hr;subst hr;simp(disch:=omega) only[List.cons_append,List.nil_append,zR_,zA_]), ?_⟩
  have st5: ∀a,zl_ (some (a,1)) (some (mgO v4 v1 (.slice none 0 0))) 1 v5=some (mgO v4 v5 (.slice none 0 0)):=fun a=>VR_ v4 v1 _ v5 a hG5.cell
  refine kq @zI_ ?_
  refine Ow.store rfl rfl rfl (ke (And.intro @zI_ @st5)) ?_
  refine ko @zI_ ?_
  have hl1: (l++ [x]).length=l.length+1:=by simp
  refine Again.mk ⟨l++ [x],u++ [y],(a4,e4),v4,v5,D4,D5,DG++ [(ba, .cells #[vs x] 9 (0,0)),(bc, .cells #[vs y] 9 (0,0))]⟩ (by show n - (l++ [x]).length<n - l.length;omega) ⟨by show(l++ [x]).length≤n;omega,by show(u++ [y]).length=(l++ [x]).length;simp[hul],t2,hN4,hN5,hNG.app ⟨hwa,hwc,trivial⟩,by simpa using hG4,by simpa using hG5,hpr⟩ rfl (by simp only[hl1];rfl)
 ·obtain rfl:n=l.length:=by omega
  have d1:decide ((l.length:Int)< (l.length:Int))=false:=decide_eq_false (by omega)
  rw[Nat.sub_self] at hrr
  simp only[ZU_,List.append_nil] at hrr
  rw[hrr] at hnm
  rw[hnm] at hr
  simp only at hr
  have hmo:=VA_ s l.length (a2,e2)
  rw[hrr] at hmo
  simp only at hmo
  clear hrr hnm
  first|with_reducible refine ks [] (And.intro @zI_ @d1) ?_|refine kp (And.intro @zI_ @d1) ?_
  refine Ow.callM rfl rfl Tryd.call25 (by simp[keys]) (fun w' hw'=>z5_ bw s a e 8000 w' hal (by omega) (hw'.has _ _ (List.mem_cons_of_mem _ List.mem_cons_self))) ?_
  have r5:=(js_ (s:=s) (a:=a) (e:=e) (most:=8000) hal).2
  have m5:=vn_ (s:=s) (a:=a) (e:=e) (most:=8000) (by omega)
  have hlm:abG_ s (a,e)=VV_ s (zE_ s a e 8000).1.toNat (zE_ s a e 8000).2:=rfl
  generalize zE_ s a e 8000=p at*
  obtain⟨n0,a5,e5⟩:=p
  simp only at r5 m5 hlm ⊢
  obtain⟨n,rfl⟩: ∃n:Nat,n0=(n:Int):=⟨n0.toNat,by omega⟩
  rw[Int.toNat_natCast] at hlm
  refine kn ?_
  refine ko @zI_ ?_
  refine Cw.permL (M:=(bm,mgO v0 v1 (.slice none 0 0)):: (bw,wrO s a5 e5):: (D1++ (D2++ ([]++DG)))) (by classical exact List.perm_iff_count.2 fun a=>by simp only[List.count_append,List.count_cons,List.count_nil]<;>omega) ?_
  refine Cw.loopG (G:=OmL) [50,51,52,53,8,54,55,56,57,58,59,60,61,62,63,64,65,66,67,68,69,70,71,72,73,49] (fun q=> [(49,vi q.l.length)]) (fun q=>(bm,mgO v0 v1 q.v):: (bw,wrO s q.q.1 q.q.2):: (D1++ (D2++ (q.D3++q.DG)))) (fun q=>q.l.length≤n∧q.q.1≤s.length∧New w.heap.size q.D3∧New w.heap.size q.DG∧Gr q.D3 38 35 q.v q.l.length (q.l.map lnC).flatten∧VV_ s n (a5,e5)=(q.l++ (VV_ s (n - q.l.length) q.q).1,(VV_ s (n - q.l.length) q.q).2)) (fun q=>n - q.l.length) ⟨[],(a5,e5), .slice none 0 0,[],DG⟩ rfl rfl ?_ ?_
  ·exact⟨Nat.zero_le _,r5,trivial,hNG,Gr.nl,rfl⟩
  intro q jq hq
  refine kv ?_
  clear hNG
  obtain⟨m,⟨a,e⟩,v,D3,DG⟩:=q
  simp only at hq ⊢
  obtain⟨hmn,hal,hN3,hNG,hG3,hrr⟩:=hq
  by_cases hlt:m.length<n
  ·have d1:decide ((m.length:Int)< (n:Int))=true:=decide_eq_true (by omega)
   have hpr:VV_ s n (a5,e5)=(m++ [(lnR s (a,e)).1]++ (VV_ s (n - (m++ [(lnR s (a,e)).1]).length) (lnR s (a,e)).2).1,(VV_ s (n - (m++ [(lnR s (a,e)).1]).length) (lnR s (a,e)).2).2):=by
    rw[hrr,show n - m.length=(n - (m++ [(lnR s (a,e)).1]).length)+1 by simp;omega]
    generalize n - (m++ [(lnR s (a,e)).1]).length=j
    show(m++ ((lnR s (a,e)).1:: (VV_ s j (lnR s (a,e)).2).1),(VV_ s j (lnR s (a,e)).2).2)=_
    rw[List.append_assoc];rfl
   have hrow:lnR s (a,e)=(⟨wU_ (idR s a e).1,(zE_ s (idR s a e).2.1 (idR s a e).2.2 40).1,(QX_ s (zE_ s (idR s a e).2.1 (idR s a e).2.2 40).2).1,(QX_ s (QX_ s (zE_ s (idR s a e).2.1 (idR s a e).2.2 40).2).2).1⟩,(QX_ s (QX_ s (zE_ s (idR s a e).2.1 (idR s a e).2.2 40).2).2).2):=rfl
   have hNr:New w.heap.size ((bm,mgO v0 v1 v):: (bw,wrO s a e):: (D1++ (D2++ (D3++DG)))):=⟨hwm,hww,hN1.app (hN2.app (hN3.app hNG))⟩
   first|with_reducible refine ks [15] (And.intro @zI_ @d1) ?_|refine kp (And.intro @zI_ @d1) ?_
   refine Ow.callM rfl rfl Tryd.call27 (by simp[keys]) (fun w' hw'=>VO_ bw s a e w' hal (by omega) (hw'.has _ _ (List.mem_cons_of_mem _ List.mem_cons_self))) ?_
   obtain⟨i,hi⟩: ∃i,i=wU_ (idR s a e).1:=⟨_,rfl⟩
   have hil: (idR s a e).1=i.l:=by rw[hi];exact(abf_ (aeE_ s a e)).symm
   have hle1:=adW_ (e:=e) hal
   rw[←hi] at hrow
   generalize idR s a e=p at*
   obtain⟨p1,a3,e3⟩:=p
   simp only at hil hrow hle1 ⊢
   subst hil
   clear hi
   refine kn ?_
   refine ko @zI_ ?_
   refine Ow.build (.agg (lnC ⟨i,0,0,0⟩).toArray) rfl (Qq_ ⟨i,0,0,0⟩) ?_
   refine ko @zI_ ?_
   refine Ow.alloc rfl rfl Kc_ fun b8 hb8 hw8=> ?_
   simp only[zg_,List.nil_append,List.cons_append]
   have h8m:bm<b8:=zz_ hb8 (by simp[keys])
   have h8w:bw<b8:=zz_ hb8 (by simp[keys])
   refine Ow.permL (M:=(b8, .cells (lnC Go.Proofs.ln0).toArray 38 (0,0)):: (bm,mgO v0 v1 v):: (bw,wrO s a3 e3):: (D1++ (D2++ (D3++DG)))) (by classical exact List.perm_iff_count.2 fun a=>by simp only[List.count_append,List.count_cons,List.count_nil]<;>omega) ?_
   refine ko @zI_ ?_
   first|with_reducible refine ks [] @zI_ ?_|refine kp @zI_ ?_
   refine Ow.callM rfl rfl Tryd.call25 (by simp[keys]) (fun w' hw'=>z5_ bw s a3 e3 40 w' hle1 (by omega) (hw'.has _ _ (List.mem_cons_of_mem _ (List.mem_cons_of_mem _ List.mem_cons_self)))) ?_
   have hle2:=(js_ (e:=e3) (most:=40) hle1).2
   generalize zE_ s a3 e3 40=p at*
   obtain⟨x1,a4,e4⟩:=p
   simp only at hrow hle2 ⊢
   refine kn ?_
   refine ko @zI_ ?_
   refine Ow.callM rfl rfl Tryd.call25 (by simp[keys]) (fun w' hw'=>z5_ bw s a4 e4 1099511627775 w' hle2 (by omega) (hw'.has _ _ (List.mem_cons_of_mem _ (List.mem_cons_of_mem _ List.mem_cons_self)))) ?_
   have hle3:=(js_ (e:=e4) (most:=1099511627775) hle2).2
   have hrow2:lnR s (a,e)=(⟨i,x1,(zE_ s a4 e4 1099511627775).1,(QX_ s (zE_ s a4 e4 1099511627775).2).1⟩,(QX_ s (zE_ s a4 e4 1099511627775).2).2):=hrow
   clear hrow
   generalize zE_ s a4 e4 1099511627775=p at*
   obtain⟨x2,a6,e6⟩:=p
   simp only at hrow2 hle3 ⊢
   refine kn ?_
   refine ko @zI_ ?_
   refine Ow.callM rfl rfl Tryd.call25 (by simp[keys]) (fun w' hw'=>z5_ bw s a6 e6 1099511627775 w' hle3 (by omega) (hw'.has _ _ (List.mem_cons_of_mem _ (List.mem_cons_of_mem _ List.mem_cons_self)))) ?_
   have hle4:=(js_ (e:=e6) (most:=1099511627775) hle3).2
   have hrow3:lnR s (a,e)=(⟨i,x1,x2,(zE_ s a6 e6 1099511627775).1⟩,(zE_ s a6 e6 1099511627775).2):=hrow2
   clear hrow2
   generalize zE_ s a6 e6 1099511627775=p at*
   obtain⟨x3,a7,e7⟩:=p
   simp only at hrow3 hle4 ⊢
   rw[hrow3] at hpr
   simp only at hpr
   refine kn ?_
   refine ko @zI_ ?_
   generalize (LnL.mk i x1 x2 x3)=r at*
   have l3:=hG3.len
   first|with_reducible refine ks [] @zI_ ?_|refine kp @zI_ ?_
   refine Cw.regionS [bm,b8] [0,1,2,3,4,5,6,7,8,9,10] [10] (by kernel_rfl) (by kernel_rfl) (by kernel_rfl) ?_
   simp only[zj_, ↓zf_, ↓zb_, ↓zp_, ↓zq_,zc_]
   refine kq @zI_ ?_
   refine Ow.soft rfl rfl rfl ?_
   refine Ow.buildSlice (e:=38) (lnC r).toArray rfl rfl (wb_ Tryd.underlying51 afS_ Kc_ (by decide) (qc_ _)) fun ba hba hwa=> ?_
   with_reducible refine Ow.nil ?_
   refine⟨(fun r hr=>by simp only[List.mem_cons,List.not_mem_nil,or_false] at hr;rcases hr with rfl|rfl<;>simp(disch:=omega) only[List.cons_append,List.nil_append,zR_,zA_]), ?_⟩
   refine kq @zI_ ?_
   refine Ow.soft rfl rfl rfl ?_
   refine Ow.permL (M:=D3++ ((b8, .cells (lnC r).toArray 38 (0,0)):: (bm,mgO v0 v1 v):: (bw,wrO s a7 e7):: (D1++ (D2++ (DG++ [(ba, .cells (lnC r).toArray 38 (0,0))]))))) (by classical exact List.perm_iff_count.2 fun a=>by simp only[List.count_append,List.count_cons,List.count_nil]<;>omega) ?_
   refine Ow.appendXG (e:=38) (k:=1) (new:=lnC r) (X:=D3) v rfl rfl rfl rfl Tryd.underlying51 afS_ (by kernel_rfl) Kc_ (by rw[q7_,List.size_toArray,qc_]) Tryd.underlying51 (by intro k h;cases h) hG3 (fun w' hw'=>AppX.one1 (hw'.has ba (.cells (lnC r).toArray 38 (0,0)) (by simp)) (qc_ _) (Z0_ _)) (by omega) (fun B4 v4 D4 hA4 hB4 hG4 hk41 hk42 hlk4=> ?_)
   have hN4:New w.heap.size D4:=New.of_le fun q hq=>by
    rcases hk42 q hq with h|h
    ·exact hN3.le q h
    ·omega
   refine Ow.permL (M:=(b8, .cells (lnC r).toArray 38 (0,0)):: (bm,mgO v0 v1 v):: (bw,wrO s a7 e7):: (D1++ (D2++ (D4++ (DG++ [(ba, .cells (lnC r).toArray 38 (0,0))]))))) (by classical exact List.perm_iff_count.2 fun a=>by simp only[List.count_append,List.count_cons,List.count_nil]<;>omega) ?_
   with_reducible refine Ow.nil ?_
   refine⟨(fun r hr=>by simp only[List.mem_cons,List.not_mem_nil,or_false] at hr;rcases hr with rfl|rfl<;>simp(disch:=omega) only[List.cons_append,List.nil_append,zR_,zA_]), ?_⟩
   have st6: ∀a,zl_ (some (a,1)) (some (mgO v0 v1 v)) 2 v4=some (mgO v0 v1 v4):=fun a=>Ve_ v0 v1 v v4 a hG4.cell
   refine kq @zI_ ?_
   refine Ow.store rfl rfl rfl (ke (And.intro @zI_ @st6)) ?_
   refine ko @zI_ ?_
   refine Cw.permL (M:=(bm,mgO v0 v1 v4):: (bw,wrO s a7 e7):: (D1++ (D2++ (D4++ ((b8, .cells (lnC r).toArray 38 (0,0)):: (DG++ [(ba, .cells (lnC r).toArray 38 (0,0))])))))) (by classical exact List.perm_iff_count.2 fun a=>by simp only[List.count_append,List.count_cons,List.count_nil]<;>omega) ?_
   first|with_reducible refine ks [] @zI_ ?_|refine kp @zI_ ?_
   have hl1: (m++ [r]).length=m.length+1:=by simp
   refine Again.mk ⟨m++ [r],(a7,e7),v4,D4,(b8, .cells (lnC r).toArray 38 (0,0)):: (DG++ [(ba, .cells (lnC r).toArray 38 (0,0))])⟩ (by show n - (m++ [r]).length<n - m.length;omega) ⟨by show(m++ [r]).length≤n;omega,hle4,hN4,⟨hw8,hNG.app ⟨hwa,trivial⟩⟩,by simpa using hG4,hpr⟩ rfl (by simp only[hl1];rfl)
  ·obtain rfl:n=m.length:=by omega
   have d1:decide ((m.length:Int)< (m.length:Int))=false:=decide_eq_false (by omega)
   rw[Nat.sub_self] at hrr
   rw[hrr] at hlm
   rw[hlm] at hr
   simp only[VV_,List.append_nil,Prod.mk.injEq] at hr
   obtain⟨hr1,hr2,hr3,hr4⟩:=hr
   subst hr1 hr2 hr3 hr4
   simp only at hyes hno
   have hNr:New w.heap.size ((bm,mgO v0 v1 v):: (bw,wrO s a e):: (D1++ (D2++ (D3++DG)))):=⟨hwm,hww,hN1.app (hN2.app (hN3.app hNG))⟩
   have hMD:MgD ((bm,mgO v0 v1 v):: (bw,wrO s a e):: (D1++ (D2++ (D3++DG)))) bm l u m:=⟨v0,v1,v,by simp,Gr.i hG1 fun p hp=>by simp[hp],Gr.i hG2 fun p hp=>by simp[hp],Gr.i hG3 fun p hp=>by simp[hp]⟩
   have hnl:l.length≤40:=by omega
   have hll:m.length≤8000:=by omega
   clear hrr hlm
   first|with_reducible refine ks [] (And.intro @zI_ @d1) ?_|refine kp (And.intro @zI_ @d1) ?_
   refine Cw.rebaseX (S1:=fun v D=>((w5_ s a e=0∧qn_ l m=true∧qh_ (kY_ l u m)=b)→v= .tuple #[vp bm 0,vi 0])∧(¬ (w5_ s a e=0∧qn_ l m=true∧qh_ (kY_ l u m)=b)→v= .tuple #[.pointer none,vi 2])) (by rfl) (fun w1 hw1=> ?_) (fun v' D' hD' hv'=> ?_)
   ·have hC1:=hC.newP hw1 hNr
    have hM1:=hMD.inW hw1
    have hb1:w1.heap[bw]? =some (wrO s a e):=hw1.has _ _ (by simp)
    have hbl:=(Array.getElem?_eq_some_iff.1 hb1).1
    clear hw1 hMD hNr
    first|with_reducible refine ks [] @zI_ ?_|refine kp @zI_ ?_
    refine Ow.callFV rfl Tryd.call28 (fun w' hw'=>J7_ bw s a e w' (by rw[hw'.old bw hbl (by simp[keys])];exact hb1)) ?_
    by_cases he:w5_ s a e=0
    ·have e1': (w5_ s a e !=0)=false:=by rw[he];rfl
     refine ko (And.intro @zI_ @e1') ?_
     refine Ow.callFV rfl Tryd.call18 (fun w' hw'=>vH_ bm l u m w' (hM1.old hw' trivial) (by omega) (by omega) (hmo.1.short (by decide))) ?_
     cases hri:qn_ l m with
     |false=>
      refine ko @zI_ ?_
      first|with_reducible refine ks [] @zI_ ?_|refine kp @zI_ ?_
      refine⟨_,(ke @zI_), ?_⟩
      exact⟨Ext.refl w1 [],⟨fun h=>(by have:=h.2.1;cases this),fun _=>rfl⟩⟩
     |true=>
      refine ko @zI_ ?_
      refine Ow.callFV rfl Tryd.call21 (fun w' hw'=>ZT_ bm l u m w' (hC1.newP hw' trivial) (hM1.old hw' trivial) hul hnl hll (hmo.1.mono (by decide)) (hmo.2.mono (by decide))) ?_
      by_cases hbb:qh_ (kY_ l u m)=b
      ·have d5: (qh_ (kY_ l u m) !=b)=false:=bne_eq_false_iff_eq.2 hbb
       refine ko (And.intro @zI_ @d5) ?_
       first|with_reducible refine ks [] @zI_ ?_|refine kp @zI_ ?_
       refine⟨_,(ke @zI_), ?_⟩
       exact⟨Ext.refl w1 [],⟨fun _=>rfl,fun h=>absurd ⟨he,rfl,hbb⟩ h⟩⟩
      ·have d5: (qh_ (kY_ l u m) !=b)=true:=bne_iff_ne.2 hbb
       refine ko (And.intro @zI_ @d5) ?_
       first|with_reducible refine ks [] @zI_ ?_|refine kp @zI_ ?_
       refine⟨_,(ke @zI_), ?_⟩
       exact⟨Ext.refl w1 [],⟨fun h=>absurd h.2.2 hbb,fun _=>rfl⟩⟩
    ·have e1': (w5_ s a e !=0)=true:=bne_iff_ne.2 he
     refine ko (And.intro @zI_ @e1') ?_
     first|with_reducible refine ks [] @zI_ ?_|refine kp @zI_ ?_
     refine⟨_,(ke @zI_), ?_⟩
     exact⟨Ext.refl w1 [],⟨fun h=>absurd h.1 he,fun _=>rfl⟩⟩
   ·refine⟨Ext.of_new (hNr.app hD'), ?_⟩
    by_cases hc:w5_ s a e=0∧qn_ l m=true∧qh_ (kY_ l u m)=b
    ·rw[hyes hc]
     exact⟨bm,hv'.1 hc,hMD.mono fun p hp=>List.mem_append_left _ hp⟩
    ·rw[hno hc]
     exact hv'.2 hc
end Go.Proofs
end
