/-
  Part 3 of the walk: contracts of the functions that the law reaches, and the calculus they stand on.
  No conditions.
-/
import Derived.Test.YtdffddfgldlijaaGreatDoorL2
import Derived.Shelf.SlIter.Nil
import Derived.Shelf.SortM.Plain
import Derived.Shelf.SortM.SortNone
import Derived.Ground.GgzProg
import Derived.Ground.SlgmProg
set_option maxRecDepth 100000
set_option maxHeartbeats 400000
set_option linter.unusedSimpArgs false
set_option linter.defProp false
open Go.Proofs.Tryz
section
open Go Go.Proofs Go.Sx Go.StP
namespace Go.Proofs
def bX (s:List UInt8):Bool:= !(s== [])&&decide (s.length≤80)&& !(s.any fN)
def ft:=aN (aN (aN @av (aN @vf @wL)) (aN (aN @zG @au) (aN @EA @V1_))) (aN (aN (aN @Wv_ @VI_) (aN @FF @uj)) (aN (aN @Sx.tup3_0 @Sx.tup3_1) (aN @Sx.tup3_2 @eqb)))
def Nb (c:Int) (w:World):Rets prog 68 #[jO c] w (fun v D=>v= .bool (badR c)∧D= []):=by
 refine Rets.enterV func68 rfl (rs:= [.tmp 2]) results68 ntmps68 ?_
 refine kf ?_
 unfold badR
 cases h1:decide (c<33)
 ·cases h2:decide (126<c)
  ·refine ky (aN @ft (aN @h1 @h2)) ?_
   refine⟨_,(ke @ft),trivial, ?_⟩
   simp[cM]
  refine ky (aN @ft (aN @h1 @h2)) ?_
  refine⟨_,(ke @ft),trivial, ?_⟩
  simp[cM]
 refine ky (aN @ft @h1) ?_
 refine⟨_,(ke @ft),trivial, ?_⟩
 simp[cM]
def KR_ (s:List UInt8) (w:World) (hs:s.length<1099511627776):
  Rets prog 34 #[vs s] w (fun v D=>v= .bool (bX s)∧D= []):=by
 refine Rets.enterV func34 rfl (rs:= [.tmp 2]) results34 ntmps34 ?_
 refine kf ?_
 cases h0: (s != [])
 ·have e0: (s== [])=true:=by simpa using h0
  refine ky (aN @ft @h0) ?_
  refine⟨_,(ke @ft),trivial, ?_⟩
  simp[cM,bX,e0]
 have e0: (s== [])=false:=by simpa using h0
 cases h1:decide ((s.length:Int)≤80)
 ·have e1:decide (s.length≤80)=false:=aO (by have:=of_decide_eq_false h1;omega)
  refine ky (aN @ft (aN @h0 @h1)) ?_
  refine⟨_,(ke @ft),trivial, ?_⟩
  simp only[cM,bX,e0,e1,Bool.not_false,Bool.true_and,Bool.false_and,Bool.and_false]
 have e1:decide (s.length≤80)=true:=aK (by have:=of_decide_eq_true h1;omega)
 refine ky (aN @ft (aN @h0 @h1)) ?_
 refine Ow.callFV rfl call67 (fun w' aA=>wV_ s 68 call68 Nb w' hs) ?_
 refine ko @ft ?_
 refine ky @ft ?_
 refine⟨_,(ke @ft),trivial, ?_⟩
 simp only[cM,bX,e0,e1,Bool.not_false,Bool.true_and]
def Rs (s:List UInt8) (w:World) (hs:s.length<1099511627776):Rets prog 126 #[vs s] w (fun v D=>v= .bool (!bX s)∧D= []):=by
 refine Rets.enterV func126 rfl (rs:= [.tmp 2]) results126 ntmps126 ?_
 refine kf ?_
 refine ky @ft ?_
 refine Ow.callFV rfl call34 (fun w' aA=>KR_ s w' hs) ?_
 refine ko @ft ?_
 refine ky @ft ?_
 refine⟨_,(ke @ft),trivial, ?_⟩
 rfl
def Wo_ (v:Value) (l:List (List UInt8)) (w:World) (hv:qv w v l) (hl:l.length<1000000) (hs: ∀s,s∈l→s.length<1099511627776):Rets prog 151 #[v, .func (.func 126) #[] #[]] w (fun v D=>(∃i:Int,v=vi i∧decide (0≤i)= !(l.all bX))∧D= []):=by
 obtain⟨rb,off,arr,E,fz,hr⟩:=hv.row
 have ln:=hv.len
 refine Rets.enterV func151 rfl (rs:= [.tmp 4]) results151 ntmps151 ?_
 refine kf ?_
 refine ky (aN @ft @ln) ?_
 refine Cw.loopG (G:=Nat) [9,10,5,11,12,13,14,15,16,17,4,18,8] (fun k=> [(4,vi 0),(8,vi k)]) (fun k=> []) (fun k=>k≤l.length∧(l.take k).all bX=true) (fun k=>l.length - k) 0 rfl rfl ?_ ?_
 ·exact⟨aV _,rfl⟩
 intro k jk hk
 refine kv ?_
 obtain⟨hk,eC⟩:=hk
 by_cases aC:k<l.length
 ·have d1:decide ((k:Int)< (l.length:Int))=true:=aK oM
  have hb:=hr.has oM
  have ix:=hr.idx false k aC
  have ld:=fun n=>Ac hr aC n
  have j6:=StP.take_snoc (z:=([]:List UInt8)) aC
  have hm:l.getD k []∈l:=by rw[List.getD_eq_getElem?_getD,List.getElem?_eq_getElem aC];exact List.getElem_mem aC
  have bh:=hs _ hm
  generalize l.getD k []=s at*
  refine ky (aN @ft (aN @d1 (aN @hb (aN @ix @ld)))) ?_
  refine Ow.callFn1 (v:= .bool (!bX s)) rfl rfl rfl call126 (fun w' aA=>Rs s w' bh) ?_
  cases hn:bX s with
  |true=>
   refine ko @ft ?_
   refine Again.mk (G:=Nat) (k+1) (by show l.length - (k+1)<l.length - k;omega) ⟨aC, ?_⟩ rfl rfl
   rw[j6,List.all_append,eC,List.all_cons,hn];rfl
  |false=>
   refine ko @ft ?_
   refine ky @ft ?_
   refine⟨_,(ke @ft),trivial, ?_⟩
   refine⟨(k:Int),rfl, ?_⟩
   rw[aK (show(0:Int)≤ (k:Int) by omega),show l.all bX=false from List.all_eq_false.2 ⟨s,hm,by rw[hn];simp⟩];rfl
 obtain rfl:k=l.length:=by omega
 have d1:decide ((l.length:Int)< (l.length:Int))=false:=aO oM
 rw[List.take_length] at eC
 refine ky (aN @ft @d1) ?_
 refine⟨_,(ke @ft),trivial, ?_⟩
 exact⟨-1,rfl,by rw[eC];rfl⟩
def MH (v:Value) (l:List (List UInt8)) (w:World) (hv:qv w v l) (hl:l.length<1000000) (hs: ∀s,s∈l→s.length<1099511627776):Rets prog 125 #[v, .func (.func 126) #[] #[]] w (fun v D=>v= .bool (!(l.all bX))∧D= []):=by
 refine Rets.enterV func125 rfl (rs:= [.tmp 4]) results125 ntmps125 ?_
 refine kf ?_
 refine ky @ft ?_
 refine Ow.callC rfl rfl call151 (fun w' aA=>Rets.toX (Wo_ v l w' (hv.oldN aA trivial) hl hs)) (fun B1 v1 D1 dN di cR dr=> ?_)
 obtain⟨rfl,i,rfl,hi⟩:=dr
 refine ko (aN @ft @hi) ?_
 refine ky @ft ?_
 refine⟨_,(ke @ft),trivial, ?_⟩
 rfl
structure FileL where
 data:List UInt8
 stl:Nat
def cg:FileL:=⟨[],0⟩
structure CallL where
 kind:Nat
 a:List UInt8
 b:List UInt8
 n:Nat
def l9:CallL:=⟨2,[],[],0⟩
abbrev NmL:=List (List UInt8×Nat)
structure DirL where
 seen:NmL
 stl:NmL
 pend:List CallL
structure DiskL where
 dir:Nat→DirL
 files:List FileL
 max:Int
 fuse:Int
 fused:Bool
 off:Bool
def aM (l:NmL) (s:List UInt8):Option Nat:=(l.find? fun p=>s==p.1).map Prod.snd
def cA (l:NmL) (s:List UInt8):NmL:=l.filter fun p=> !(s==p.1)
def insN:NmL→List UInt8×Nat→NmL
 | [],x=> [x]
 |p::r,x=>if ltB x.1 p.1=true then x::p::r else p::insN r x
def f5 (l:NmL) (x:List UInt8×Nat):NmL:=insN (cA l x.1) x
def SrtN (l:NmL):Prop:=l.Pairwise fun p q=>ltB p.1 q.1=true
def SrtN.nodup {l:NmL} (h:SrtN l): (l.map Prod.fst).Nodup:=by
 refine List.pairwise_map.2 (List.Pairwise.imp ?_ h)
 intro a b gR e
 rw[e,Kv] at gR;cases gR
theorem si (x:List UInt8×Nat): ∀l:NmL,(insN l x).Perm (x::l)
 | []=>List.Perm.refl _
 |p::r=>by
  unfold insN
  split
  ·exact List.Perm.refl _
  exact((si x r).cons p).trans (List.Perm.swap x p r)
theorem Es {x:List UInt8×Nat}: ∀ {l:NmL},SrtN l→(∀p,p∈l→p.1≠x.1)→SrtN (insN l x)
 | [],_,_=>List.pairwise_singleton _ _
 |p::r,h,hx=>by
  unfold SrtN at h
  rw[List.pairwise_cons] at h
  unfold insN
  split
  ·rename_i h1
   refine List.pairwise_cons.2 ⟨fun q hq=> ?_,List.pairwise_cons.2 h⟩
   rcases List.mem_cons.1 hq with rfl|hq
   ·exact h1
   exact LA h1 (h.1 q hq)
  rename_i h1
  refine List.pairwise_cons.2 ⟨fun q hq=> ?_,Es h.2 fun q hq=>hx q (cN _ hq)⟩
  rcases List.mem_cons.1 ((si x r).mem_iff.1 hq) with rfl|hq
  ·have t_:ltB q.1 p.1=false:=by simpa using h1
   exact JI t_ (fun e=>hx p am e.symm)
  exact h.1 q hq
def JA {l:NmL} (s:List UInt8) (h:SrtN l):SrtN (cA l s):=List.Pairwise.filter _ h
def V' {l:NmL} {s:List UInt8} {p:List UInt8×Nat} (h:p∈cA l s):p.1≠s:=by
 have:=(List.mem_filter.1 h).2
 intro e
 rw[e] at this;simp at this
def AV {l:NmL} (x:List UInt8×Nat) (h:SrtN l):SrtN (f5 l x):=Es (JA _ h) fun _ hp=>V' hp
def iG {l:NmL} {s:List UInt8} {n:Nat} (h:aM l s=some n): (s,n)∈l:=by
 unfold aM at h
 cases hf:l.find? fun p=>s==p.1 with
 |none=>rw[hf] at h;cases h
 |some p=>
  rw[hf] at h
  have h1:=List.find?_some hf
  have h2:=List.mem_of_find?_eq_some hf
  obtain⟨a,b⟩:=p
  cases h
  rw[show s=a from by simpa using h1];exact h2
def Bq {l:NmL} {s:List UInt8} (h:aM l s=none): ∀p,p∈l→p.1≠s:=by
 intro p hp e
 unfold aM at h
 cases hf:l.find? fun p=>s==p.1 with
 |none=>
  have:=List.find?_eq_none.1 hf p hp
  rw[e] at this;simp at this
 |some q=>rw[hf] at h;cases h
def Cq {α β:Type} {m:List (α×β)} (hn: (m.map Prod.fst).Nodup) {k:α} {a b:β} (h1: (k,a)∈m) (h2: (k,b)∈m):a=b:=by
 induction m with
 |nil=>cases h1
 |cons p r ih=>
  rw[List.map_cons,List.nodup_cons] at hn
  rcases List.mem_cons.1 h1 with e1|h1
  ·rcases List.mem_cons.1 h2 with e2|h2
   ·rw[←e1] at e2;exact(congrArg Prod.snd e2).symm
   exact absurd (by rw[←e1];exact List.mem_map.2 ⟨_,h2,rfl⟩) hn.1
  rcases List.mem_cons.1 h2 with e2|h2
  ·exact absurd (by rw[←e2];exact List.mem_map.2 ⟨_,h1,rfl⟩) hn.1
  exact ih hn.2 h1 h2
def zW {l:NmL} (hn: (l.map Prod.fst).Nodup) {s:List UInt8} {n:Nat} (h: (s,n)∈l):aM l s=some n:=by
 cases hf:aM l s with
 |none=>exact absurd rfl (Bq hf _ h)
 |some m=>rw[Cq hn (iG hf) h]
section
variable {α β:Type} [BEq α] [LawfulBEq α]
def YA {m:List (α×β)} (hn: (m.map Prod.fst).Nodup) {k:α} {v z:β} (h: (k,v)∈m):getG k z m=v:=by
 unfold getG
 cases hf:m.find? fun p=>k==p.1 with
 |none=>
  have:=List.find?_eq_none.1 hf _ h
  exact absurd (beq_self_eq_true k) this
 |some q=>
  have h1:=List.find?_some hf
  have h2:=List.mem_of_find?_eq_some hf
  obtain⟨a,b⟩:=q
  have e:k=a:=eq_of_beq h1
  subst e
  exact Cq hn h2 h
def Xu {m:List (α×β)} {k:α} {z:β} (h: ∀p,p∈m→p.1≠k):getG k z m=z:=by
 unfold getG
 cases hf:m.find? fun p=>k==p.1 with
 |none=>rfl
 |some q=>
  have h1:=List.find?_some hf
  exact absurd (eq_of_beq h1).symm (h q (List.mem_of_find?_eq_some hf))
def CN {m:List (α×β)} {k:α} (h: ∀p,p∈m→p.1≠k):m.filter (fun p=> !(k==p.1))=m:=
 List.filter_eq_self.2 fun p hp=>by
  have:=h p hp
  cases e:k==p.1 with
  |false=>rfl
  |true=>exact absurd (eq_of_beq e).symm this
theorem DB (k:α) (v:β): ∀ {m:List (α×β)},(m.map Prod.fst).Nodup→(updG k v m).Perm ((k,v)::m.filter fun p=> !(k==p.1))
 | [],_=>List.Perm.refl _
 |p::r,hn=>by
  rw[List.map_cons,List.nodup_cons] at hn
  unfold updG
  cases hk: (k==p.1) with
  |true=>
   rw[if_pos rfl,List.filter_cons,hk]
   have e:k=p.1:=eq_of_beq hk
   have hr:r.filter (fun p=> !(k==p.1))=r:=CN fun q hq e2=>hn.1 (List.mem_map.2 ⟨q,hq,by rw[e2,e]⟩)
   simp only[Bool.not_true,Bool.false_eq_true, ↓reduceIte,hr]
   rw[e]
  |false=>
   rw[if_neg (by simp),List.filter_cons,hk]
   simp only[Bool.not_false, ↓reduceIte]
   exact((DB k v hn.2).cons p).trans (List.Perm.swap _ _ _)
theorem FH (k:α): ∀ {m:List (α×β)},(m.map Prod.fst).Nodup→delG k m=m.filter fun p=> !(k==p.1)
 | [],_=>rfl
 |p::r,hn=>by
  rw[List.map_cons,List.nodup_cons] at hn
  unfold delG
  cases hk: (k==p.1) with
  |true=>
   rw[if_pos rfl,List.filter_cons,hk]
   have e:k=p.1:=eq_of_beq hk
   have hr:r.filter (fun p=> !(k==p.1))=r:=CN fun q hq e2=>hn.1 (List.mem_map.2 ⟨q,hq,by rw[e2,e]⟩)
   simp only[Bool.not_true,Bool.false_eq_true, ↓reduceIte,hr]
  |false=>
   rw[if_neg (by simp),List.filter_cons,hk,FH k hn.2]
   simp only[Bool.not_false, ↓reduceIte]
end
def bC:Option Nat→Value
 |none=> .pointer none
 |some b=>vp b 0
def ptrN (fb:List Nat) (p:List UInt8×Nat):List UInt8×Option Nat:=(p.1,some (fb.getD p.2 0))
def NmP (fb:List Nat) (l:NmL) (m:List (List UInt8×Option Nat)):Prop:=m.Perm (l.map (ptrN fb))
def NmP.keys {fb:List Nat} {l:NmL} {m:List (List UInt8×Option Nat)} (h:NmP fb l m) (hn: (l.map Prod.fst).Nodup): (m.map Prod.fst).Nodup:=by
 refine((h.map Prod.fst).nodup_iff).2 ?_
 rw[List.map_map]
 exact hn
def NmP.get {fb:List Nat} {l:NmL} {m:List (List UInt8×Option Nat)} (h:NmP fb l m) (hn: (l.map Prod.fst).Nodup) (s:List UInt8):getG s none m=(aM l s).map fun n=>fb.getD n 0:=by
 cases hf:aM l s with
 |none=>
  refine Xu fun p hp e=> ?_
  obtain⟨q,hq,rfl⟩:=List.mem_map.1 (h.mem_iff.1 hp)
  exact Bq hf q hq e
 |some n=>exact YA (h.keys hn) (h.mem_iff.2 (List.mem_map.2 ⟨_,iG hf,rfl⟩))
def Ew (fb:List Nat) (l:NmL) (s:List UInt8): (l.map (ptrN fb)).filter (fun p=> !(s==p.1))=(cA l s).map (ptrN fb):=by
 unfold cA
 rw[List.filter_map];rfl
def NmP.wipe {fb:List Nat} {l:NmL} {m:List (List UInt8×Option Nat)} (h:NmP fb l m) (hn: (l.map Prod.fst).Nodup) (s:List UInt8):NmP fb (cA l s) (delG s m):=by
 unfold NmP
 rw[FH s (h.keys hn),←Ew]
 exact h.filter _
def NmP.put {fb:List Nat} {l:NmL} {m:List (List UInt8×Option Nat)} (h:NmP fb l m) (hn: (l.map Prod.fst).Nodup) (s:List UInt8) (n:Nat):NmP fb (f5 l (s,n)) (updG s (some (fb.getD n 0)) m):=by
 refine(DB s _ (h.keys hn)).trans ?_
 unfold f5
 refine List.Perm.trans ?_ ((si (s,n) (cA l s)).map (ptrN fb)).symm
 rw[List.map_cons,←Ew]
 exact(h.filter _).cons _
def NmP.mono {fb fb':List Nat} {l:NmL} {m:List (List UInt8×Option Nat)} (h:NmP fb l m) (hb: ∀p,p∈l→fb'.getD p.2 0=fb.getD p.2 0):NmP fb' l m:=by
 unfold NmP at h ⊢
 rw[show l.map (ptrN fb')=l.map (ptrN fb) from List.map_congr_left fun p hp=>by unfold ptrN;rw[hb p hp]]
 exact h
def aD:List UInt8:= [108,111,111,115,101]
def lN:List UInt8:= [112,97,99,107]
def refD:List UInt8:= [114,101,102]
def cB (k:Nat):List UInt8:=match k with|0=>aD|1=>lN|_=>refD
def bO (s:List UInt8):Option Nat:=if s==aD then some 0 else if s==lN then some 1 else if s==refD then some 2 else none
def dT {s:List UInt8} {k:Nat} (h:bO s=some k):k<3∧s=cB k:=by
 unfold bO at h
 split at h
 ·rename_i e;cases h;exact⟨by omega,eq_of_beq e⟩
 split at h
 ·rename_i e;cases h;exact⟨by omega,eq_of_beq e⟩
 split at h
 ·rename_i e;cases h;exact⟨by omega,eq_of_beq e⟩
 cases h
def qK {k:Nat} (h:k<3):bO (cB k)=some k:=by
 have:k=0∨k=1∨k=2:=by omega
 rcases this with rfl|rfl|rfl<;>rfl
def ci (l:NmL) (c:CallL):NmL:=match c.kind with
 |0=>f5 l (c.a,c.n)
 |1=>f5 (cA l c.a) (c.b,(aM l c.a).getD 0)
 |_=>cA l c.a
def dY (S:DiskL) (k:Nat) (d:DirL):DiskL:={S with dir:=fun j=>if j=k then d else S.dir j}
def co (S:DiskL) (dir:List UInt8) (names:List (List UInt8)):Nat:=if bO dir=none∨names.all bX=false then 1 else if S.off=true then 9 else 0
def aH (S:DiskL):DiskL×Nat:=if S.fused=true∧S.fuse=0 then({S with off:=true},9) else if S.fused=true then({S with fuse:=S.fuse - 1},0) else(S,0)
def bv (S:DiskL) (l:NmL):Nat:=(l.map fun p=>(S.files.getD p.2 cg).data.length).sum
def ct (S:DiskL):Nat:=bv S (S.dir 0).seen+bv S (S.dir 1).seen+bv S (S.dir 2).seen
structure DkOk (S:DiskL):Prop where
 seen: ∀k,k<3→SrtN (S.dir k).seen
 stl: ∀k,k<3→SrtN (S.dir k).stl
 seenN: ∀k,k<3→ ∀p,p∈ (S.dir k).seen→p.2<S.files.length
 stlN: ∀k,k<3→ ∀p,p∈ (S.dir k).stl→p.2<S.files.length
 pendN: ∀k,k<3→ ∀c,c∈ (S.dir k).pend→c.kind=0→c.n<S.files.length
 file: ∀f,f∈S.files→f.data.length≤1048576∧f.stl≤f.data.length
 fuse: -9223372036854775808≤S.fuse∧S.fuse<9223372036854775808∧(S.fused=true→0≤S.fuse)
 max: -9223372036854775808≤S.max∧S.max<9223372036854775808
def dH (f:FileL):Obj:= .cells #[vs f.data,vi (f.stl:Int)] 76 (0,0)
def d7 (a b:Nat) (v:Value):Obj:= .cells #[vm a,vm b,v] 80 (0,0)
def bl (bm:Nat) (S:DiskL):Obj:= .cells #[vm bm,vi S.max,vi S.fuse, .bool S.fused, .bool S.off] 72 (0,0)
def dz (s:List UInt8):Obj:= .cells #[vs s] 9 (0,0)
def ptrO (b:Nat):Obj:= .cells #[vp b 0] 74 (0,0)
structure DkG where
 bd:Nat
 bm:Nat
 d:Nat→Nat
 s:Nat→Nat
 t:Nat→Nat
 p:Nat→Value
 fb:List Nat
def pf (G:DkG):List (List UInt8×Option Nat):= [(aD,some (G.d 0)),(lN,some (G.d 1)),(refD,some (G.d 2))]
def FnP (X:aB) (fb:List Nat) (v:Value) (c:CallL):Prop:=match c.kind with
 |0=> ∃b1 b2,v= .func (.func 224) #[] #[vp b1 0,vp b2 0]∧Sx.look X b1=some (ptrO (fb.getD c.n 0))∧Sx.look X b2=some (dz c.a)
 |1=> ∃b1 b2,v= .func (.func 218) #[] #[vp b1 0,vp b2 0]∧Sx.look X b1=some (dz c.a)∧Sx.look X b2=some (dz c.b)
 |_=> ∃b1,v= .func (.func 133) #[] #[vp b1 0]∧Sx.look X b1=some (dz c.a)
def NmM (X:aB) (fb:List Nat) (b:Nat) (l:NmL):Prop:= ∃o m,Sx.look X b=some o∧e_ vs bC o m∧NmP fb l m
structure DkP (X:aB) (G:DkG) (S:DiskL):Prop where
 disk:Sx.look X G.bd=some (bl G.bm S)
 dirs: ∃o,Sx.look X G.bm=some o∧e_ vs bC o (pf G)
 dir: ∀k,k<3→Sx.look X (G.d k)=some (d7 (G.s k) (G.t k) (G.p k))
 seen: ∀k,k<3→NmM X G.fb (G.s k) (S.dir k).seen
 stl: ∀k,k<3→NmM X G.fb (G.t k) (S.dir k).stl
 pend: ∀k,k<3→ ∃vals:List Value,vals.length=(S.dir k).pend.length∧Gr X 125 1 (G.p k) vals.length vals∧ ∀i,i<vals.length→FnP X G.fb (vals.getD i undef) ((S.dir k).pend.getD i l9)
 file: ∀n,n<S.files.length→Sx.look X (G.fb.getD n 0)=some (dH (S.files.getD n cg))
 len:G.fb.length=S.files.length
 nodf:G.fb.Nodup
 nodm: [G.s 0,G.s 1,G.s 2,G.t 0,G.t 1,G.t 2].Nodup
 nodd: [G.d 0,G.d 1,G.d 2].Nodup
 nodb: ∀k,k<3→G.bm≠G.s k∧G.bm≠G.t k
 nodp: ∀i j,i<3→j<3→i≠j→ ∀b,slB (G.p i)=some b→slB (G.p j)≠some b
 ok:DkOk S
def DkW (w:World) (G:DkG) (S:DiskL):Prop:= ∃X,(∀b o,Sx.look X b=some o→w.heap[b]? =some o)∧DkP X G S
def FnP.keep {X X':aB} {fb:List Nat} {v:Value} {c:CallL} (h:FnP X fb v c) (hk: ∀b o,Sx.look X b=some o→((∃s,o=dz s)∨ ∃a,o=ptrO a)→Sx.look X' b=some o):FnP X' fb v c:=by
 unfold FnP at h ⊢
 split at h
 ·obtain⟨b1,b2,h1,h2,h3⟩:=h;exact⟨b1,b2,h1,hk _ _ h2 (.inr ⟨_,rfl⟩),hk _ _ h3 (.inl ⟨_,rfl⟩)⟩
 ·obtain⟨b1,b2,h1,h2,h3⟩:=h;exact⟨b1,b2,h1,hk _ _ h2 (.inl ⟨_,rfl⟩),hk _ _ h3 (.inl ⟨_,rfl⟩)⟩
 obtain⟨b1,h1,h2⟩:=h;exact⟨b1,h1,hk _ _ h2 (.inl ⟨_,rfl⟩)⟩
def NmM.keep {X X':aB} {fb:List Nat} {b:Nat} {l:NmL} (h:NmM X fb b l) (hk: ∀o,Sx.look X b=some o→Sx.look X' b=some o):NmM X' fb b l:=by
 obtain⟨o,m,h1,h2,h3⟩:=h;exact⟨o,m,hk _ h1,h2,h3⟩
def jD {L:aB} {E:TypeId} {m n:Nat} {v:Value} {cs:List Value} (h:Gr L E m v n cs) {b:Nat} (hb:slB v=some b): ∃arr,Sx.look L b=some (.cells arr E (0,0)):=by
 rcases h with h| ⟨-,-,c,rfl,h⟩
 ·cases h with
  |nl=>cases hb
  |at_ hl=>cases hb;exact⟨_,hl⟩
 cases hb;exact⟨_,h⟩
def tyO:Obj→Option TypeId
 | .cells _ t _=>some t
 |_=>none
def kG {α β:Type} {encK:α→Value} {encV:β→Value} {o:Obj} {m:List (α×β)} (h:e_ encK encV o m):tyO o=none:=by
 obtain⟨es,c,rfl,-⟩:=h;rfl
def iD {X:aB} {c b:Nat} {oc x o:Obj} (hc:Sx.look X c=some oc) (hb:Sx.look X b=some o) (ht:tyO o≠tyO oc):Sx.look (setB X c x) b=some o:=by
 rw[bR (by rintro rfl;rw[hc] at hb;cases hb;exact ht rfl)];exact hb
def DkP.mono {X X':aB} {G:DkG} {S:DiskL} (h:DkP X G S) (hk: ∀b o,Sx.look X b=some o→Sx.look X' b=some o):DkP X' G S where
 disk:=hk _ _ h.disk
 dirs:=by obtain⟨o,h1,h2⟩:=h.dirs;exact⟨o,hk _ _ h1,h2⟩
 dir k dQ:=hk _ _ (h.dir k dQ)
 seen k dQ:=(h.seen k dQ).keep fun o=>hk _ o
 stl k dQ:=(h.stl k dQ).keep fun o=>hk _ o
 pend k dQ:=by
  obtain⟨vals,h1,h2,h3⟩:=h.pend k dQ
  exact⟨vals,h1,h2.keep fun b o _=>hk b o,fun i hi=>(h3 i hi).keep fun b o ho _=>hk b o ho⟩
 file n hn:=hk _ _ (h.file n hn)
 len:=h.len
 nodf:=h.nodf
 nodm:=h.nodm
 nodd:=h.nodd
 nodb:=h.nodb
 nodp:=h.nodp
 ok:=h.ok
def DkP.setDisk {X:aB} {G:DkG} {S:DiskL} (h:DkP X G S) (S':DiskL) (hd:S'.dir=S.dir) (hf:S'.files=S.files) (ok:DkOk S'):DkP (setB X G.bd (bl G.bm S')) G S' where
 disk:=dp h.disk
 dirs:=by obtain⟨o,h1,h2⟩:=h.dirs;exact⟨o,iD h.disk h1 (by rw[kG h2];intro e;cases e),h2⟩
 dir k dQ:=iD h.disk (h.dir k dQ) (by simp[tyO,d7,bl])
 seen k dQ:=by
  rw[hd]
  obtain⟨o,m,h1,h2,h3⟩:=h.seen k dQ
  exact⟨o,m,iD h.disk h1 (by rw[kG h2];intro e;cases e),h2,h3⟩
 stl k dQ:=by
  rw[hd]
  obtain⟨o,m,h1,h2,h3⟩:=h.stl k dQ
  exact⟨o,m,iD h.disk h1 (by rw[kG h2];intro e;cases e),h2,h3⟩
 pend k dQ:=by
  rw[hd]
  obtain⟨vals,h1,h2,h3⟩:=h.pend k dQ
  refine⟨vals,h1,h2.keep fun b o hb ho=> ?_,fun i hi=>(h3 i hi).keep fun b o ho hx=>iD h.disk ho ?_⟩
  ·obtain⟨arr,ha⟩:=jD h2 hb
   rw[ho] at ha;cases ha
   exact iD h.disk ho (by simp[tyO,bl])
  rcases hx with⟨s,rfl⟩ | ⟨a,rfl⟩<;>simp[tyO,bl,dz,ptrO]
 file n hn:=by rw[hf] at hn ⊢;exact iD h.disk (h.file n hn) (by simp[tyO,bl,dH])
 len:=by rw[hf];exact h.len
 nodf:=h.nodf
 nodm:=h.nodm
 nodd:=h.nodd
 nodb:=h.nodb
 nodp:=h.nodp
 ok:=ok
def DkP.setFile {X:aB} {G:DkG} {S:DiskL} (h:DkP X G S) {n:Nat} (hn:n<S.files.length) (f:FileL) (ok:DkOk {S with files:=S.files.set n f}):DkP (setB X (G.fb.getD n 0) (dH f)) G {S with files:=S.files.set n f} where
 disk:=iD (h.file n hn) h.disk (by simp[tyO,bl,dH])
 dirs:=by obtain⟨o,h1,h2⟩:=h.dirs;exact⟨o,iD (h.file n hn) h1 (by rw[kG h2];intro e;cases e),h2⟩
 dir k dQ:=iD (h.file n hn) (h.dir k dQ) (by simp[tyO,d7,dH])
 seen k dQ:=by
  obtain⟨o,m,h1,h2,h3⟩:=h.seen k dQ
  exact⟨o,m,iD (h.file n hn) h1 (by rw[kG h2];intro e;cases e),h2,h3⟩
 stl k dQ:=by
  obtain⟨o,m,h1,h2,h3⟩:=h.stl k dQ
  exact⟨o,m,iD (h.file n hn) h1 (by rw[kG h2];intro e;cases e),h2,h3⟩
 pend k dQ:=by
  obtain⟨vals,h1,h2,h3⟩:=h.pend k dQ
  refine⟨vals,h1,h2.keep fun b o hb ho=> ?_,fun i hi=>(h3 i hi).keep fun b o ho hx=>iD (h.file n hn) ho ?_⟩
  ·obtain⟨arr,ha⟩:=jD h2 hb
   rw[ho] at ha;cases ha
   exact iD (h.file n hn) ho (by simp[tyO,dH])
  rcases hx with⟨s,rfl⟩ | ⟨a,rfl⟩<;>simp[tyO,dH,dz,ptrO]
 file i hi:=by
  simp only[List.length_set] at hi
  by_cases e:i=n
  ·subst e
   rw[dp (h.file i hn),List.getD_eq_getElem?_getD,List.getElem?_set_self hn];rfl
  have hl:=h.len
  have aX:G.fb.getD i 0≠G.fb.getD n 0:=by
   intro e2
   rw[List.getD_eq_getElem?_getD,List.getD_eq_getElem?_getD,List.getElem?_eq_getElem oM,List.getElem?_eq_getElem oM] at e2
   simp only[Option.getD_some] at e2
   rcases Nat.lt_or_gt_of_ne e with aC|aC
   ·exact(List.pairwise_iff_getElem.1 h.nodf) i n oM oM aC e2
   exact(List.pairwise_iff_getElem.1 h.nodf) n i oM oM aC e2.symm
  rw[bR (Ne.symm aX),h.file i hi,List.getD_eq_getElem?_getD,List.getD_eq_getElem?_getD,List.getElem?_set_ne (Ne.symm e)]
 len:=by rw[List.length_set];exact h.len
 nodf:=h.nodf
 nodm:=h.nodm
 nodd:=h.nodd
 nodb:=h.nodb
 nodp:=h.nodp
 ok:=ok
def DkP.world {X:aB} {G:DkG} {S:DiskL} {w0 w:World} (h:DkP X G S) (hw:Hp w0 X w):DkW w G S:=⟨X,fun _ _ hb=>hw.has _ _ (cQ hb),h⟩
def DkP.worldX {X:aB} {G:DkG} {S:DiskL} {w:World} (h:DkP X G S) (hX: ∀p,p∈X→w.heap[p.1]? =some p.2):DkW w G S:=⟨X,fun _ _ hb=>hX _ (cQ hb),h⟩
theorem DkW.old {w w':World} {L:aB} {G:DkG} {S:DiskL} (h:DkW w G S) (hw:Hp w L w') (hn:New w.heap.size L):DkW w' G S:=by
 obtain⟨X,h1,h2⟩:=h
 refine⟨X,fun b o hb=> ?_,h2⟩
 have aC:=(Array.getElem?_eq_some_iff.1 (h1 b o hb)).1
 rw[hw.old b aC (hn.not aC)];exact h1 b o hb
def nU (bm:Nat) (S:DiskL) (n:Nat):aG (some (false,n)) (some (bl bm S)) 0=some (vm bm):=(rfl)
def AO (bm:Nat) (S:DiskL) (n:Nat):aG (some (false,n)) (some (bl bm S)) 1=some (vi S.max):=(rfl)
def CF (bm:Nat) (S:DiskL) (n:Nat):aG (some (false,n)) (some (bl bm S)) 2=some (vi S.fuse):=(rfl)
def Cs (bm:Nat) (S:DiskL) (n:Nat):aG (some (false,n)) (some (bl bm S)) 3=some (.bool S.fused):=(rfl)
def Cn (bm:Nat) (S:DiskL) (n:Nat):aG (some (false,n)) (some (bl bm S)) 4=some (.bool S.off):=(rfl)
def Qr (bm:Nat) (S:DiskL) (x:Int) (a:Bool):ad (some (a,1)) (some (bl bm S)) 1 (vi x)=some (bl bm {S with max:=x}):=dR [vm bm] [vi S.max] [vi x] [vi S.fuse, .bool S.fused, .bool S.off] a _ 72 rfl rfl rfl rfl rfl
def Q_ (bm:Nat) (S:DiskL) (x:Int) (a:Bool):ad (some (a,1)) (some (bl bm S)) 2 (vi x)=some (bl bm {S with fuse:=x}):=dR [vm bm,vi S.max] [vi S.fuse] [vi x] [.bool S.fused, .bool S.off] a _ 72 rfl rfl rfl rfl rfl
def Bl (bm:Nat) (S:DiskL) (x:Bool) (a:Bool):ad (some (a,1)) (some (bl bm S)) 3 (.bool x)=some (bl bm {S with fused:=x}):=dR [vm bm,vi S.max,vi S.fuse] [.bool S.fused] [.bool x] [.bool S.off] a _ 72 rfl rfl rfl rfl rfl
def Bx (bm:Nat) (S:DiskL) (x:Bool) (a:Bool):ad (some (a,1)) (some (bl bm S)) 4 (.bool x)=some (bl bm {S with off:=x}):=dR [vm bm,vi S.max,vi S.fuse, .bool S.fused] [.bool S.off] [.bool x] [] a _ 72 rfl rfl rfl rfl rfl
def pO (a b:Nat) (v:Value) (n:Nat):aG (some (false,n)) (some (d7 a b v)) 0=some (vm a):=(rfl)
def pK (a b:Nat) (v:Value) (n:Nat):aG (some (false,n)) (some (d7 a b v)) 1=some (vm b):=(rfl)
def pL (a b:Nat) (v:Value) (n:Nat):aG (some (false,n)) (some (d7 a b v)) 2=some v:=(rfl)
def zA (f:FileL) (n:Nat):aG (some (false,n)) (some (dH f)) 0=some (vs f.data):=(rfl)
def zD (f:FileL) (n:Nat):aG (some (false,n)) (some (dH f)) 1=some (vi (f.stl:Int)):=(rfl)
def Ks (f:FileL) (x:List UInt8) (a:Bool):ad (some (a,1)) (some (dH f)) 0 (vs x)=some (dH {f with data:=x}):=dR [] [vs f.data] [vs x] [vi (f.stl:Int)] a _ 76 rfl rfl rfl rfl rfl
def Ko (f:FileL) (x:Nat) (a:Bool):ad (some (a,1)) (some (dH f)) 1 (vi (x:Int))=some (dH {f with stl:=x}):=dR [vs f.data] [vi (f.stl:Int)] [vi (x:Int)] [] a _ 76 rfl rfl rfl rfl rfl
def tw (b o:Nat):bF prog .eql 28 (vp b o) (.pointer none)=some (.bool false):=by
 simp[bF,eqX,eu,eW,underlying28,vp]
def F_ (b o:Nat):bF prog .neq 28 (vp b o) (.pointer none)=some (.bool true):=by
 simp[bF,eqX,eu,eW,underlying28,vp]
def ob (b o:Nat):bF prog .eql 69 (vp b o) (.pointer none)=some (.bool false):=by
 simp[bF,eqX,eu,eW,underlying69,vp]
def oQ:bF prog .eql 69 (.pointer none) (.pointer none)=some (.bool true):=by
 simp[bF,eqX,eu,eW,underlying69]
def qx (b o:Nat):bF prog .eql 74 (vp b o) (.pointer none)=some (.bool false):=by
 simp[bF,eqX,eu,eW,underlying74,vp]
def qg:bF prog .eql 74 (.pointer none) (.pointer none)=some (.bool true):=by
 simp[bF,eqX,eu,eW,underlying74]
def zrPd:an prog 69=some (bC none):=id kR
def zrPf:an prog 74=some (bC none):=id kR
def ju:KeyOk prog 9 vs:=KeyOk.str underlying9
def Ao (G:DkG) (s:List UInt8):getG s none (pf G)=(bO s).map G.d:=by
 unfold getG pf bO
 rw[List.find?_cons,List.find?_cons,List.find?_cons,List.find?_nil]
 cases h1:s==aD
 ·cases h2:s==lN
  ·cases h3:s==refD<;>rfl
  rfl
 rfl
def um:=aN (aN (aN @av (aN @au @nU)) (aN @AO (aN @CF @Cs))) (aN (aN @Cn (aN @Qr @Q_)) (aN (aN @Bl @Bx) (aN @tw @F_)))
def IM (b bm:Nat) (S:DiskL) (w:World) (hf: -9223372036854775808≤S.fuse∧S.fuse<9223372036854775808∧(S.fused=true→0≤S.fuse)) (ho:w.heap[b]? =some (bl bm S)):
  Rets prog 96 #[vp b 0] w (fun v D=> ∃o,D= [(b,o)]∧v=vi (aH S).2∧o=bl bm (aH S).1):=by
 refine Rets.enterM func96 rfl (rs:= [.tmp 2]) results96 ntmps96 ho ?_
 refine kf ?_
 unfold aH
 cases mH:S.fused with
 |false=>
  rw[if_neg (by simp),if_neg (by simp)]
  refine ky (aN @um @mH) ?_
  refine⟨_,_,_,(ke @um),rfl,trivial, ?_⟩
  exact⟨rfl,rfl⟩
 |true=>
  by_cases h0:S.fuse=0
  ·have e0: (S.fuse==0)=true:=beq_iff_eq.2 h0
   rw[if_pos ⟨rfl,h0⟩]
   refine ky (aN @um (aN @mH @e0)) ?_
   refine⟨_,_,_,(ke @um),rfl,trivial, ?_⟩
   exact⟨rfl,rfl⟩
  have e0: (S.fuse==0)=false:=beq_eq_false_iff_ne.2 h0
  have h1:=hf.2.2 mH
  rw[if_neg (fun h=>h0 h.2),if_pos rfl]
  refine ky (aN @um (aN @mH @e0)) ?_
  refine⟨_,_,_,(ke @um),rfl,trivial, ?_⟩
  exact⟨rfl,rfl⟩
def Pt (b bm:Nat) (S:DiskL) (n:Int) (w:World) (ho:w.heap[b]? =some (bl bm S)):
  Rets prog 22 #[vp b 0,vi n] w (fun v D=> ∃o,D= [(b,o)]∧v=cM []∧o=bl bm {S with fuse:=n,fused:=decide (0≤n)}):=by
 refine Rets.enterM func22 rfl (rs:= []) results22 ntmps22 ho ?_
 refine kf ?_
 refine ky @um ?_
 refine⟨_,_,_,(ke @um),rfl,trivial, ?_⟩
 exact⟨rfl,rfl⟩
def GS (G:DkG) (S:DiskL) (dir:List UInt8) (names:List (List UInt8)) (v:Value):Prop:=
 (co S dir names≠0∧v= .tuple #[.pointer none,vi (co S dir names:Nat)])∨(co S dir names=0∧ ∃k,bO dir=some k∧v= .tuple #[vp (G.d k) 0,vi 0])
def oE:=aN (aN (aN @av @au) (aN @nU (aN @AO @CF))) (aN (aN @Cs (aN @Cn @tw)) (aN @F_ (aN @ob @oQ)))
def vl (w:World) (G:DkG) (S:DiskL) (dir:List UInt8) (v:Value) (names:List (List UInt8)) (hD:DkW w G S) (hv:qv w v names) (hl:names.length<1000000) (hs: ∀s,s∈names→s.length<1099511627776):
  Rets prog 89 #[vp G.bd 0,vs dir,v] w (fun v D=>GS G S dir names v∧D= []):=by
 obtain⟨X,hX,hP⟩:=hD
 have hd:=hX _ _ hP.disk
 obtain⟨om,lF,hM⟩:=hP.dirs
 have hb:=hX _ _ lF
 refine Rets.enterV func89 rfl (rs:= [.tmp 6, .tmp 7]) results89 ntmps89 ?_
 refine kf ?_
 refine ky (aN @oE @hd) ?_
 refine Ow.mapGetG (encK:=vs) (encV:=bC) (k:=dir) (z:=none) rfl rfl underlying70 ju zrPd rfl rfl hb hM ?_
 rw[Ao]
 unfold GS co
 cases hw:bO dir with
 |none=>
  rw[if_pos (.inl rfl)]
  have gr:bC none= .pointer none:=rfl
  refine ko (aN @oE @gr) ?_
  refine ky @oE ?_
  refine⟨_,(ke @oE),trivial, ?_⟩
  exact .inl ⟨by decide,rfl⟩
 |some k=>
  have hp: ∀q:Nat,bC (some q)=vp q 0:=fun _=>rfl
  refine ko (aN @oE @hp) ?_
  refine Ow.callFV rfl call125 (fun w' aA=>MH v names w' (hv.oldN aA trivial) hl hs) ?_
  cases eC:names.all bX with
  |false=>
   rw[if_pos (.inr rfl)]
   refine ko @oE ?_
   refine ky @oE ?_
   refine⟨_,(ke @oE),trivial, ?_⟩
   exact .inl ⟨by decide,rfl⟩
  |true=>
   rw[if_neg (by simp)]
   cases sS:S.off with
   |true=>
    rw[if_pos rfl]
    refine ko @oE ?_
    refine ky (aN @oE (aN @hd @sS)) ?_
    refine⟨_,(ke @oE),trivial, ?_⟩
    exact .inl ⟨by decide,rfl⟩
   |false=>
    rw[if_neg (by simp)]
    refine ko @oE ?_
    refine ky (aN @oE (aN @hd @sS)) ?_
    refine⟨_,(ke @oE),trivial, ?_⟩
    exact .inr ⟨rfl,k,rfl,rfl⟩
def qh {w:World} {b:Nat} {s:List UInt8} {E:TypeId} (h:w.heap[b]? =some (.cells #[vs s] E (0,0))):qv w (vsl b 0 1 1) [s]:=
 SlV.sl (l:= [s]) h (fun k hk j hj=>by
  obtain rfl:k=0:=by simpa using hk
  obtain rfl:j=0:=by omega
  rfl) (bq _) (by simp)
def Yu {w:World} {b:Nat} {s u:List UInt8} {E:TypeId} (h:w.heap[b]? =some (.cells #[vs s,vs u] E (0,0))):qv w (vsl b 0 2 2) [s,u]:=
 SlV.sl (l:= [s,u]) h (fun k hk j hj=>by
  obtain rfl:j=0:=by omega
  have:k=0∨k=1:=by simp at hk;omega
  rcases this with rfl|rfl<;>rfl) (bq _) (by simp)
def Qy {S:DiskL} {dir:List UInt8} {names:List (List UInt8)} (h:co S dir names=0):bO dir≠none∧names.all bX=true∧S.off=false:=by
 unfold co at h
 split at h
 ·cases h
 split at h
 ·cases h
 rename_i h1 h2
 refine⟨fun e=>h1 (.inl e), ?_,by simpa using h2⟩
 cases e:names.all bX with
 |true=>rfl
 |false=>exact absurd (.inr e) h1
def d8 (S:DiskL) (dir name:List UInt8):List UInt8×Nat:=
 if co S dir [name]≠0 then([],co S dir [name]) else match(bO dir).bind fun k=>aM (S.dir k).seen name with
  |none=>([],6)
  |some n=>((S.files.getD n cg).data,0)
def kF {n:Nat} (h:n≠0): ((n:Int) !=0)=true:=bne_iff_ne.2 oM
def oO:=aN (aN (aN (aN @av @au) (aN @nU @pO)) (aN (aN @pK @pL) (aN @zA (aN @zD @ob)))) (aN (aN (aN @oQ @qx) (aN @qg @Sx.tup2_0)) (aN (aN @Sx.tup2_1 @uj) (aN @Sx.tup3_0 (aN @Sx.tup3_1 @Sx.tup3_2))))
def BL (w:World) (G:DkG) (S:DiskL) (dir name:List UInt8) (hD:DkW w G S) (hn:name.length<1099511627776):
  Rets prog 49 #[vp G.bd 0,vs dir,vs name] w (fun v D=>v= .tuple #[vs (d8 S dir name).1,vi ((d8 S dir name).2:Nat)]∧D= []):=by
 have Gd:=hD
 obtain⟨X,hX,hP⟩:=hD
 refine Rets.enterV func49 rfl (rs:= [.tmp 6, .tmp 7]) results49 ntmps49 ?_
 refine kf ?_
 refine ky @oO ?_
 refine Ow.buildSlice (e:=9) #[vs name] rfl rfl kR fun b1 aW aI=> ?_
 refine ko @oO ?_
 have cR:New w.heap.size [(b1,Obj.cells #[vs name] 9 (0,0))]:=⟨aI,trivial⟩
 refine Ow.callC rfl rfl call89 (fun w' aA=>Rets.toX (vl w' G S dir (vsl b1 0 1 1) [name] (Gd.old aA cR) (qh (aA.has _ _ am)) (by simp) (by simpa using hn))) (fun B2 v2 D2 ay dE be bM=> ?_)
 obtain⟨rfl,bM⟩:=bM
 rw[List.append_nil]
 unfold d8
 rcases bM with⟨he,rfl⟩ | ⟨he,k,hk,rfl⟩
 ·rw[if_pos he]
  have e1:=kF he
  refine ko @oO ?_
  refine ky (aN @oO @e1) ?_
  refine⟨_,(ke @oO),cR, ?_⟩
  rfl
 rw[if_neg (by rw[he];simp),hk]
 have aj:=(dT hk).1
 have eh:=hX _ _ (hP.dir k aj)
 obtain⟨os,ms,gq,gG,ij⟩:=hP.seen k aj
 have mM:=hX _ _ gq
 have fq:=(Array.getElem?_eq_some_iff.1 eh).1
 have gp:=(Array.getElem?_eq_some_iff.1 mM).1
 have rY:aU w [(b1,Obj.cells #[vs name] 9 (0,0))] (G.d k)=some (d7 (G.s k) (G.t k) (G.p k)):=by rw[jn (cR.not fq)];exact eh
 have nP:aU w [(b1,Obj.cells #[vs name] 9 (0,0))] (G.s k)=some os:=by rw[jn (cR.not gp)];exact mM
 have e1: ((0:Int) !=0)=false:=rfl
 refine ko @oO ?_
 refine ky (aN @oO (aN @e1 (aN @eh @rY))) ?_
 refine Ow.mapGetG (encK:=vs) (encV:=bC) (k:=name) (z:=none) rfl rfl underlying77 ju zrPf rfl rfl nP gG ?_
 rw[ij.get (hP.ok.seen k aj).nodup]
 show Ow _ _ _ _ _ _ _ _
 cases hf:aM (S.dir k).seen name with
 |none=>
  have nF: (some k).bind (fun k=>aM (S.dir k).seen name)=none:=hf
  rw[nF]
  have gr:bC none= .pointer none:=rfl
  refine ko (aN @oO @gr) ?_
  refine ky @oO ?_
  refine⟨_,(ke @oO),cR, ?_⟩
  rfl
 |some n=>
  have nF: (some k).bind (fun k=>aM (S.dir k).seen name)=some n:=hf
  rw[nF]
  have cT:=hP.ok.seenN k aj _ (iG hf)
  have eV:=hX _ _ (hP.file n cT)
  have k7:=(Array.getElem?_eq_some_iff.1 eV).1
  have pA:aU w [(b1,Obj.cells #[vs name] 9 (0,0))] (G.fb.getD n 0)=some (dH (S.files.getD n cg)):=by rw[jn (cR.not k7)];exact eV
  have hp: ∀q:Nat,bC (some q)=vp q 0:=fun _=>rfl
  refine ko (aN @oO @hp) ?_
  refine ky (aN @oO (aN @eV @pA)) ?_
  refine⟨_,(ke @oO),cR, ?_⟩
  rfl
def uDir (S:DiskL) (p:List UInt8×Option Nat):Nat:=match bO p.1 with|some k=>bv S (S.dir k).seen|none=>0
def oL (S:DiskL) (l:NmL) (p:List UInt8×Option Nat):Nat:=match aM l p.1 with|some n=>(S.files.getD n cg).data.length|none=>0
def Uq (S:DiskL) (G:DkG): ((pf G).map (uDir S)).sum=ct S:=by
 unfold pf ct
 simp only[List.map_cons,List.map_nil,List.sum_cons,List.sum_nil]
 show bv S (S.dir 0).seen+ (bv S (S.dir 1).seen+ (bv S (S.dir 2).seen+0))=_
 omega
def TZ (S:DiskL) {fb:List Nat} {l:NmL} {m:List (List UInt8×Option Nat)} (h:NmP fb l m) (hn: (l.map Prod.fst).Nodup): (m.map (oL S l)).sum=bv S l:=by
 rw[(h.map (oL S l)).sum_nat,List.map_map]
 unfold bv
 congr 1
 refine List.map_congr_left fun p hp=> ?_
 show oL S l (ptrN fb p)=_
 unfold oL ptrN
 rw[zW hn hp]
def EX {α:Type} (f:α→Nat) {a b m:List α} (h: (a++b).Perm m): (a.map f).sum≤ (m.map f).sum:=by
 rw[← (h.map f).sum_nat,List.map_append,List.sum_append]
 omega
def vg {α β:Type} {encK:α→Value} {encV:β→Value} {o:Obj} {bm:Nat} {om:Obj} {m dn lf:List (α×β)} (h:ItG encK encV o bm om m dn lf): (dn++lf).Perm m:=by
 obtain⟨es,clock,ds,-,-,-,-,-,-,hp⟩:=h;exact hp
def CH {G:DkG} {p:List UInt8×Option Nat} (h:p∈pf G): ∃k,k<3∧p=(cB k,some (G.d k)):=by
 unfold pf at h
 simp only[List.mem_cons,List.not_mem_nil,or_false] at h
 rcases h with rfl|rfl|rfl
 ·exact⟨0,by omega,rfl⟩
 ·exact⟨1,by omega,rfl⟩
 exact⟨2,by omega,rfl⟩
structure UsG where
 dn:List (List UInt8×Option Nat)
 lf:List (List UInt8×Option Nat)
 it:Obj
 DG:aB
def l8:=aN (aN (aN (aN @av @au) (aN @nU @pO)) (aN (aN @pK @pL) (aN @zA (aN @zD @tw)))) (aN (aN (aN @ob @oQ) (aN @qx (aN @qg @Sx.tup2_0))) (aN (aN @Sx.tup2_1 @uj) (aN @Sx.tup3_0 (aN @Sx.tup3_1 @Sx.tup3_2))))
def Bc (w:World) (G:DkG) (S:DiskL) (hD:DkW w G S) (hb:ct S<4611686018427387904):Rets prog 217 #[vp G.bd 0] w (fun v D=>v=vi (ct S:Nat)∧D= []):=by
 obtain⟨X,hX,hP⟩:=hD
 have hd:=hX _ _ hP.disk
 obtain⟨om,lF,hM⟩:=hP.dirs
 have yD:=hX _ _ lF
 have eE:=(Array.getElem?_eq_some_iff.1 yD).1
 have hU:=Uq S G
 have old: ∀b o,w.heap[b]? =some o→ ∀Y,New w.heap.size Y→aU w Y b=some o:=fun b o hb Y hY=>by
  rw[jn (hY.not (Array.getElem?_eq_some_iff.1 hb).1)];exact hb
 refine Rets.enterV func217 rfl (rs:= [.tmp 2]) results217 ntmps217 ?_
 refine kf ?_
 refine ky (aN @l8 @hd) ?_
 refine Ow.rangeMapG (encK:=vs) (encV:=bC) rfl rfl underlying70 rfl yD hM fun bi oi H4 je hI=> ?_
 rw[List.nil_append]
 refine ko @l8 ?_
 refine ky @l8 ?_
 refine Cw.loopG (G:=UsG) [15,16,17,18,5,19,20,21,22,23,24,25,26,27,7,28,29,30,31,32,33,34,3] (fun g=> [(3,vi ((g.dn.map (uDir S)).sum:Nat))]) (fun g=>(bi,g.it)::g.DG) (fun g=>ItG vs bC g.it G.bm om (pf G) g.dn g.lf∧New w.heap.size g.DG) (fun g=>g.lf.length) ⟨[],pf G,oi,[]⟩ rfl rfl ?_ ?_
 ·exact⟨hI,trivial⟩
 intro g j hg
 refine kv ?_
 clear hI
 obtain⟨dn,lf,it,DG⟩:=g
 simp only at hg ⊢
 obtain⟨hI,hN⟩:=hg
 have uA: ∀x,New w.heap.size ((bi,x)::DG):=fun x=>⟨je,hN⟩
 refine ky @l8 ?_
 refine Ow.nextMapG rfl rfl rfl (kH _ _ _) (old _ _ yD _ (uA it)) hI (fun mJ=> ?_) (fun p it' lf' lw n2=> ?_)
 ·subst mJ
  have hp:=vg hI
  rw[List.append_nil] at hp
  rw[(hp.map (uDir S)).sum_nat,hU]
  refine ko @l8 ?_
  refine ky @l8 ?_
  refine⟨_,(ke @l8),uA it, ?_⟩
  rfl
 refine kn ?_
 refine ko @l8 ?_
 refine ky @l8 ?_
 refine Ow.entryMapG (encK:=vs) (encV:=bC) rfl rfl rfl (o5 _ _ _ _) (old _ _ yD _ (uA it')) n2 ?_
 have hp:=vg n2
 obtain⟨k,aj,rfl⟩:=CH (hp.mem_iff.1 (cz _ (dJ _ am)))
 have dc:=EX (uDir S) hp
 rw[hU,List.map_append,List.sum_append] at dc
 have A0: ([(cB k,some (G.d k))].map (uDir S)).sum=bv S (S.dir k).seen:=by
  show uDir S (cB k,some (G.d k))+0=_
  unfold uDir
  simp only[qK aj,Nat.add_zero]
 rw[A0] at dc
 have hac: ((dn++ [(cB k,some (G.d k))]).map (uDir S)).sum=(dn.map (uDir S)).sum+bv S (S.dir k).seen:=by rw[List.map_append,List.sum_append,A0]
 generalize (dn.map (uDir S)).sum=A at*
 have eh:=hX _ _ (hP.dir k aj)
 obtain⟨os,ms,gq,gG,ij⟩:=hP.seen k aj
 have mM:=hX _ _ gq
 have hs:=TZ S ij (hP.ok.seen k aj).nodup
 have hdr1:=old _ _ eh _ (uA it')
 have yK:=old _ _ eh _ hN
 have uQ: ∀q:Nat,bC (some q)=vp q 0:=fun _=>rfl
 refine ko (aN @l8 (aN @uQ (aN @hdr1 @yK))) ?_
 refine Ow.rangeMapG (encK:=vs) (encV:=bC) rfl rfl underlying77 rfl (old _ _ mM _ (uA it')) gG fun bj oj hbj K7 hJ=> ?_
 refine Ow.permL (M:=(bj,oj):: (bi,it')::DG) pM ?_
 refine ko @l8 ?_
 refine ky @l8 ?_
 refine Cw.loopG (G:=UsG) [24,25,26,27,7,28,29,30,31,32,33,34,3] (fun p=> [(3,vi ((A+ (p.dn.map (oL S (S.dir k).seen)).sum:Nat):Int))]) (fun p=>(bj,p.it):: (bi,it')::DG) (fun p=>ItG vs bC p.it (G.s k) os ms p.dn p.lf) (fun p=>p.lf.length) ⟨[],ms,oj,[]⟩ rfl rfl ?_ ?_
 ·exact hJ
 intro p jp hp
 refine kv ?_
 clear hJ
 obtain⟨dn2,lf2,jt,DX⟩:=p
 simp only at hp ⊢
 refine ky @l8 ?_
 refine Ow.nextMapG rfl rfl rfl (kH _ _ _) (old _ _ mM _ ⟨K7,uA it'⟩) hp (fun mJ=> ?_) (fun p jt' lf2' hl2' n3=> ?_)
 ·subst mJ
  have hq:=vg hp
  rw[List.append_nil] at hq
  rw[(hq.map (oL S (S.dir k).seen)).sum_nat,hs]
  refine Ow.permL (M:=(bi,it'):: (bj,jt)::DG) pM ?_
  refine ko @l8 ?_
  refine ky @l8 ?_
  exact Again.mk ⟨dn++ [(cB k,some (G.d k))],lf',it',(bj,jt)::DG⟩ (by show lf'.length<lf.length;omega) ⟨n2,K7,hN⟩ rfl (by simp only[hac];rfl)
 refine kn ?_
 refine ko @l8 ?_
 refine ky @l8 ?_
 have hq:=vg n3
 have rN:=EX (oL S (S.dir k).seen) hq
 rw[hs] at rN
 have vO:p∈ (S.dir k).seen.map (ptrN G.fb):=ij.mem_iff.1 (hq.mem_iff.1 (cz _ (dJ _ am)))
 obtain⟨⟨s,n⟩,dk,rfl⟩:=List.mem_map.1 vO
 have huf: ([ptrN G.fb (s,n)].map (oL S (S.dir k).seen)).sum=(S.files.getD n cg).data.length:=by
  show oL S (S.dir k).seen (s,some (G.fb.getD n 0))+0=_
  unfold oL
  simp only[zW (hP.ok.seen k aj).nodup dk,Nat.add_zero]
 rw[List.map_append,List.sum_append,huf] at rN
 have y4: ((dn2++ [ptrN G.fb (s,n)]).map (oL S (S.dir k).seen)).sum=(dn2.map (oL S (S.dir k).seen)).sum+ (S.files.getD n cg).data.length:=by rw[List.map_append,List.sum_append,huf]
 have eV:=hX _ _ (hP.file n (hP.ok.seenN k aj _ dk))
 have HH:=old _ _ eV _ (show New w.heap.size ((bj,jt'):: (bi,it')::DG) from⟨K7,uA it'⟩)
 have vB:=old _ _ eV _ (uA it')
 have Jq:=old _ _ eV _ hN
 generalize (dn2.map (oL S (S.dir k).seen)).sum=B at*
 refine Ow.entryMapG (encK:=vs) (encV:=bC) rfl rfl rfl (o5 _ _ _ _) (old _ _ mM _ ⟨K7,uA it'⟩) n3 ?_
 unfold ptrN at n3 y4 ⊢
 simp only at n3 y4 ⊢
 generalize G.fb.getD n 0=fbn at*
 generalize S.files.getD n cg=fl at*
 refine ko (aN @l8 (aN @uQ (aN @HH (aN @vB @Jq)))) ?_
 refine ky @l8 ?_
 exact Again.mk ⟨dn2++ [(s,some fbn)],lf2',jt',DX⟩ (by show lf2'.length<lf2.length;omega) n3 rfl (by simp only[y4,←Nat.add_assoc,Int.natCast_add];rfl)
def atD (S:DiskL) (dir name:List UInt8):Option Nat:=(bO dir).bind fun k=>aM (S.dir k).seen name
def aE (S:DiskL) (n:Nat):FileL:=S.files.getD n cg
def eG (S:DiskL) (n:Nat) (f:FileL):DiskL:={S with files:=S.files.set n f}
def cu (S:DiskL) (dir name:List UInt8):DiskL×Nat:=
 if co S dir [name]≠0 then(S,co S dir [name]) else match atD S dir name with
  |none=>(S,6)
  |some n=>if(aH S).2≠0 then aH S else(eG (aH S).1 n ⟨(aE S n).data,(aE S n).data.length⟩,0)
def jA (S:DiskL): (aH S).1.dir=S.dir∧(aH S).1.files=S.files∧(aH S).1.max=S.max:=by
 unfold aH
 split
 ·exact⟨rfl,rfl,rfl⟩
 split
 ·exact⟨rfl,rfl,rfl⟩
 exact⟨rfl,rfl,rfl⟩
def pP {S:DiskL} (h:DkOk S):DkOk (aH S).1:=by
 obtain⟨h1,h2,h3⟩:=jA S
 refine⟨by rw[h1];exact h.seen,by rw[h1];exact h.stl,by rw[h1,h2];exact h.seenN,by rw[h1,h2];exact h.stlN,by rw[h1,h2];exact h.pendN,by rw[h2];exact h.file, ?_,by rw[h3];exact h.max⟩
 have hf:=h.fuse
 unfold aH
 split
 ·exact hf
 split
 ·rename_i h4 h5
  have:=hf.2.2 h5
  have h6:S.fuse≠0:=fun e=>h4 ⟨h5,e⟩
  exact⟨by show _≤S.fuse - 1;omega,by show S.fuse - 1<_;omega,fun _=>by show 0≤S.fuse - 1;omega⟩
 exact hf
def zT {S:DiskL} (h:DkOk S) {n:Nat} {f:FileL} (hf:f.data.length≤1048576∧f.stl≤f.data.length):DkOk (eG S n f):=by
 refine⟨h.seen,h.stl,fun k hk p hp=>by show p.2< (S.files.set n f).length;rw[List.length_set];exact h.seenN k hk p hp,fun k hk p hp=>by show p.2< (S.files.set n f).length;rw[List.length_set];exact h.stlN k hk p hp,fun k hk c hc h0=>by show c.n< (S.files.set n f).length;rw[List.length_set];exact h.pendN k hk c hc h0,fun g hg=> ?_,h.fuse,h.max⟩
 rcases List.mem_or_eq_of_mem_set hg with hg|rfl
 ·exact h.file g hg
 exact hf
def sf {S:DiskL} (h:DkOk S) {n:Nat} (hn:n<S.files.length): (aE S n).data.length≤1048576∧(aE S n).stl≤ (aE S n).data.length:=by
 unfold aE
 rw[List.getD_eq_getElem?_getD,List.getElem?_eq_getElem hn]
 exact h.file _ (List.getElem_mem hn)
def lJ:=aN (aN (aN (aN @av @au) (aN @nU @AO)) (aN (aN @pO @pK) (aN @pL @zA))) (aN (aN (aN @zD @Ks) (aN @Ko @ob)) (aN (aN @oQ @qx) (aN @qg (aN @Sx.tup2_0 @Sx.tup2_1))))
def BR (X:aB) (G:DkG) (S:DiskL) (dir name:List UInt8) (w:World) (hX: ∀p,p∈X→w.heap[p.1]? =some p.2) (hn: (keys X).Nodup) (hP:DkP X G S) (gH:name.length<1099511627776):
  Rets prog 53 #[vp G.bd 0,vs dir,vs name] w (XS w X (fun v D=>v=vi ((cu S dir name).2:Nat)∧DkP D G (cu S dir name).1)):=by
 refine Rets.enterX func53 rfl (rs:= [.tmp 6]) results53 ntmps53 hX hn ?_
 refine kf ?_
 refine ky @lJ ?_
 refine Ow.buildSlice (e:=9) #[vs name] rfl rfl kR fun b1 aW aI=> ?_
 have ap:=hP.mono (X':=X++ [(b1,Obj.cells #[vs name] 9 (0,0))]) fun b o h=>az h
 have cE:=(Ext.refl w X).app (o:=Obj.cells #[vs name] 9 (0,0)) aI
 have fa: (b1,Obj.cells #[vs name] 9 (0,0))∈X++ [(b1,Obj.cells #[vs name] 9 (0,0))]:=by simp
 generalize X++ [(b1,Obj.cells #[vs name] 9 (0,0))]=L1 at*
 refine ko @lJ ?_
 refine Ow.callC rfl rfl call89 (fun w' aA=>Rets.toX (vl w' G S dir (vsl b1 0 1 1) [name] (ap.world aA) (qh (aA.has _ _ fa)) (by simp) (by simpa using gH))) (fun B2 v2 D2 ay dE be bM=> ?_)
 obtain⟨rfl,bM⟩:=bM
 rw[List.append_nil]
 clear fa ay be
 unfold cu atD
 rcases bM with⟨he,rfl⟩ | ⟨he,k,hk,rfl⟩
 ·rw[if_pos he]
  have e1:=kF he
  refine ko @lJ ?_
  refine ky (aN @lJ @e1) ?_
  refine⟨_,(ke @lJ), ?_⟩
  exact⟨cE,rfl,ap⟩
 rw[if_neg (by rw[he];simp),hk]
 have aj:=(dT hk).1
 have eh:=aQ (w0:=w) (ap.dir k aj)
 obtain⟨os,ms,gq,gG,ij⟩:=ap.seen k aj
 have mM:=aQ (w0:=w) gq
 have e1: ((0:Int) !=0)=false:=rfl
 refine ko @lJ ?_
 refine ky (aN @lJ (aN @e1 @eh)) ?_
 refine Ow.mapGetG (encK:=vs) (encV:=bC) (k:=name) (z:=none) rfl rfl underlying77 ju zrPf rfl rfl mM gG ?_
 rw[ij.get (hP.ok.seen k aj).nodup]
 show Ow _ _ _ _ _ _ _ _
 cases hf:aM (S.dir k).seen name with
 |none=>
  have nF: (some k).bind (fun k=>aM (S.dir k).seen name)=none:=hf
  rw[nF]
  have gr:bC none= .pointer none:=rfl
  refine ko (aN @lJ @gr) ?_
  refine ky @lJ ?_
  refine⟨_,(ke @lJ), ?_⟩
  exact⟨cE,rfl,ap⟩
 |some n=>
  have nF: (some k).bind (fun k=>aM (S.dir k).seen name)=some n:=hf
  rw[nF]
  have cT:=hP.ok.seenN k aj _ (iG hf)
  have hp: ∀q:Nat,bC (some q)=vp q 0:=fun _=>rfl
  have uz:G.bd∈keys L1:=bY ap.disk
  refine ko (aN @lJ @hp) ?_
  refine ky @lJ ?_
  refine Ow.callM rfl rfl call96 uz (fun w' aA=>IM G.bd G.bm S w' hP.ok.fuse (aA.has _ _ (cQ ap.disk))) ?_
  obtain⟨aW,aq,da⟩:=jA S
  have bE:=ap.setDisk (aH S).1 aW aq (pP hP.ok)
  have bZ:=cE.setB (b:=G.bd) (o:=bl G.bm (aH S).1)
  generalize setB L1 G.bd (bl G.bm (aH S).1)=L2 at*
  by_cases fW: (aH S).2=0
  ·have bQ:=bE.file n (by rw[aq];exact cT)
   have ce:=aQ (w0:=w) bQ
   have e2: (((aH S).2:Int) !=0)=false:=by rw[fW];rfl
   rw[if_neg (by rw[fW];simp)]
   have jX:=sf hP.ok cT
   have j4:=bE.setFile (n:=n) (by rw[aq];exact cT) ⟨(aE S n).data,(aE S n).data.length⟩ (zT (pP hP.ok) ⟨jX.1,bq _⟩)
   have gF: (aH S).1.files.getD n cg=aE S n:=by rw[aq];rfl
   rw[gF] at bQ ce
   refine ko (aN @lJ @e2) ?_
   refine ky (aN @lJ (aN @ce @bQ)) ?_
   refine⟨_,(ke @lJ), ?_⟩
   exact⟨bZ.setB,rfl,j4⟩
  have e2:=kF fW
  rw[if_pos fW]
  refine ko (aN @lJ @e2) ?_
  refine ky @lJ ?_
  refine⟨_,(ke @lJ), ?_⟩
  exact⟨bZ,rfl,bE⟩
def jF (S:DiskL) (n:Nat) (s:List UInt8):Bool:=decide ((1048576:Int) - ((aE S n).data.length:Int)< (s.length:Int)) ||decide (S.max< (ct S:Int)) ||decide (S.max - (ct S:Int)< (s.length:Int))
def iC (S:DiskL) (dir name s:List UInt8):DiskL×Nat:=
 if co S dir [name]≠0 then(S,co S dir [name]) else match atD S dir name with
  |none=>(S,6)
  |some n=>if jF S n s=true then(S,8) else if(aH S).2≠0 then aH S else(eG (aH S).1 n ⟨(aE S n).data++s,(aE S n).stl⟩,0)
def fi:=aN (aN (aN (aN @av @au) (aN @nU @AO)) (aN (aN @pO @pK) (aN @pL @zA))) (aN (aN (aN @zD @Ks) (aN @Ko @ob)) (aN (aN @oQ @qx) (aN @qg (aN @Sx.tup2_0 @Sx.tup2_1))))
def M_ (X:aB) (G:DkG) (S:DiskL) (dir name s:List UInt8) (w:World) (hX: ∀p,p∈X→w.heap[p.1]? =some p.2) (hn: (keys X).Nodup) (hP:DkP X G S) (gH:name.length<1099511627776) (bh:s.length<1099511627776) (hu:ct S<4611686018427387904):
  Rets prog 201 #[vp G.bd 0,vs dir,vs name,vs s] w (XS w X (fun v D=>v=vi ((iC S dir name s).2:Nat)∧DkP D G (iC S dir name s).1)):=by
 refine Rets.enterX func201 rfl (rs:= [.tmp 8]) results201 ntmps201 hX hn ?_
 refine kf ?_
 refine ky @fi ?_
 refine Ow.buildSlice (e:=9) #[vs name] rfl rfl kR fun b1 aW aI=> ?_
 have ap:=hP.mono (X':=X++ [(b1,Obj.cells #[vs name] 9 (0,0))]) fun b o h=>az h
 have cE:=(Ext.refl w X).app (o:=Obj.cells #[vs name] 9 (0,0)) aI
 have fa: (b1,Obj.cells #[vs name] 9 (0,0))∈X++ [(b1,Obj.cells #[vs name] 9 (0,0))]:=by simp
 generalize X++ [(b1,Obj.cells #[vs name] 9 (0,0))]=L1 at*
 refine ko @fi ?_
 refine Ow.callC rfl rfl call89 (fun w' aA=>Rets.toX (vl w' G S dir (vsl b1 0 1 1) [name] (ap.world aA) (qh (aA.has _ _ fa)) (by simp) (by simpa using gH))) (fun B2 v2 D2 ay dE be bM=> ?_)
 obtain⟨rfl,bM⟩:=bM
 rw[List.append_nil]
 clear fa ay be
 unfold iC atD
 rcases bM with⟨he,rfl⟩ | ⟨he,k,hk,rfl⟩
 ·rw[if_pos he]
  have e1:=kF he
  refine ko @fi ?_
  refine ky (aN @fi @e1) ?_
  refine⟨_,(ke @fi), ?_⟩
  exact⟨cE,rfl,ap⟩
 rw[if_neg (by rw[he];simp),hk]
 have aj:=(dT hk).1
 have eh:=aQ (w0:=w) (ap.dir k aj)
 obtain⟨os,ms,gq,gG,ij⟩:=ap.seen k aj
 have mM:=aQ (w0:=w) gq
 have e1: ((0:Int) !=0)=false:=rfl
 refine ko @fi ?_
 refine ky (aN @fi (aN @e1 @eh)) ?_
 refine Ow.mapGetG (encK:=vs) (encV:=bC) (k:=name) (z:=none) rfl rfl underlying77 ju zrPf rfl rfl mM gG ?_
 rw[ij.get (hP.ok.seen k aj).nodup]
 show Ow _ _ _ _ _ _ _ _
 cases hf:aM (S.dir k).seen name with
 |none=>
  have nF: (some k).bind (fun k=>aM (S.dir k).seen name)=none:=hf
  rw[nF]
  have gr:bC none= .pointer none:=rfl
  refine ko (aN @fi @gr) ?_
  refine ky @fi ?_
  refine⟨_,(ke @fi), ?_⟩
  exact⟨cE,rfl,ap⟩
 |some n=>
  have nF: (some k).bind (fun k=>aM (S.dir k).seen name)=some n:=hf
  rw[nF]
  have cT:n<S.files.length:=hP.ok.seenN k aj _ (iG hf)
  have jX:=sf hP.ok cT
  have hp: ∀q:Nat,bC (some q)=vp q 0:=fun _=>rfl
  have uz:G.bd∈keys L1:=bY ap.disk
  have nQ:=aQ (w0:=w) (ap.file n cT)
  have kA:=aQ (w0:=w) ap.disk
  have Ht:aU w L1 (G.fb.getD n 0)=some (dH (aE S n)):=nQ
  have hmx:=hP.ok.max
  refine ko (aN @fi @hp) ?_
  refine ky @fi ?_
  refine Cw.regionS [G.fb.getD n 0,G.bd] [0,1,2,3,4,5,6,7,8,9,10,12,13,14,15,11,16,17,18,19,20,21,22,23,25,24,26,27,28,29,30] [] kR kR kR ?_
  simp only[ai, ↓ah, ↓ab, ↓ag, ↓ae,ac]
  cases h1:decide ((1048576:Int) - ((aE S n).data.length:Int)< (s.length:Int)) with
  |true=>
   refine kq (aN @fi (aN @Ht (aN @kA @h1))) ?_
   have hF:jF S n s=true:=by unfold jF;rw[h1];simp
   rw[if_pos hF]
   try with_reducible refine Ow.nil ?_
   refine ky @fi ?_
   refine⟨_,(ke @fi), ?_⟩
   exact⟨cE,rfl,ap⟩
  |false=>
   refine kq (aN @fi (aN @Ht (aN @kA @h1))) ?_
   refine Ow.soft rfl rfl rfl ?_
   refine Ow.callFV rfl call217 (fun w' aA=>Bc w' G S (ap.world aA) hu) ?_
   with_reducible refine Ow.nil ?_
   refine⟨by intro b hb;simp only[List.mem_cons,List.not_mem_nil,or_false] at hb;(try subst hb);rfl, ?_⟩
   cases h2:decide (S.max< (ct S:Int)) with
   |true=>
    refine kq (aN @fi (aN @kA @h2)) ?_
    have hF:jF S n s=true:=by unfold jF;rw[h2];simp
    rw[if_pos hF]
    try with_reducible refine Ow.nil ?_
    refine ky @fi ?_
    refine⟨_,(ke @fi), ?_⟩
    exact⟨cE,rfl,ap⟩
   |false=>
    have h2':=of_decide_eq_false h2
    refine kq (aN @fi (aN @kA @h2)) ?_
    refine Ow.soft rfl rfl rfl ?_
    refine Ow.callFV rfl call217 (fun w' aA=>Bc w' G S (ap.world aA) hu) ?_
    with_reducible refine Ow.nil ?_
    refine⟨by intro b hb;simp only[List.mem_cons,List.not_mem_nil,or_false] at hb;(try subst hb);rfl, ?_⟩
    cases h3:decide (S.max - (ct S:Int)< (s.length:Int)) with
    |true=>
     refine kq (aN @fi (aN @kA @h3)) ?_
     have hF:jF S n s=true:=by unfold jF;rw[h3];simp
     rw[if_pos hF]
     try with_reducible refine Ow.nil ?_
     refine ky @fi ?_
     refine⟨_,(ke @fi), ?_⟩
     exact⟨cE,rfl,ap⟩
    |false=>
     have hF:jF S n s=false:=by unfold jF;rw[h1,h2,h3];rfl
     rw[if_neg (by rw[hF];simp)]
     have t_:=of_decide_eq_false h1
     refine kq (aN @fi (aN @kA @h3)) ?_
     try with_reducible refine Ow.nil ?_
     refine ky @fi ?_
     refine Ow.callM rfl rfl call96 uz (fun w' aA=>IM G.bd G.bm S w' hP.ok.fuse (aA.has _ _ (cQ ap.disk))) ?_
     obtain⟨aW,aq,da⟩:=jA S
     have bE:=ap.setDisk (aH S).1 aW aq (pP hP.ok)
     have bZ:=cE.setB (b:=G.bd) (o:=bl G.bm (aH S).1)
     generalize setB L1 G.bd (bl G.bm (aH S).1)=L2 at*
     by_cases fW: (aH S).2=0
     ·have bQ:=bE.file n (by rw[aq];exact cT)
      have ce:=aQ (w0:=w) bQ
      have e2: (((aH S).2:Int) !=0)=false:=by rw[fW];rfl
      rw[if_neg (by rw[fW];simp)]
      have j4:=bE.setFile (n:=n) (by rw[aq];exact cT) ⟨(aE S n).data++s,(aE S n).stl⟩ (zT (pP hP.ok) ⟨by simp only[List.length_append];omega,by simp only[List.length_append];omega⟩)
      have gF: (aH S).1.files.getD n cg=aE S n:=by rw[aq];rfl
      rw[gF] at bQ ce
      refine ko (aN @fi @e2) ?_
      refine ky (aN @fi (aN @ce @bQ)) ?_
      refine⟨_,(ke @fi), ?_⟩
      exact⟨bZ.setB,rfl,j4⟩
     have e2:=kF fW
     rw[if_pos fW]
     refine ko (aN @fi @e2) ?_
     refine ky @fi ?_
     refine⟨_,(ke @fi), ?_⟩
     exact⟨bZ,rfl,bE⟩
structure Only (X D:aB) (bs:Nat) (o:Obj):Prop where
 keys:Sx.keys D=Sx.keys X
 at_:Sx.look D bs=some o
 rest: ∀b,b≠bs→Sx.look D b=Sx.look X b
def Only.set {X:aB} {bs:Nat} {o o':Obj} (h:Sx.look X bs=some o):Only X (setB X bs o') bs o':=⟨l5 _ _ _,dp h,fun _ hb=>bR (Ne.symm hb)⟩
theorem Only.trans {X D D':aB} {bs:Nat} {o o':Obj} (h:Only X D bs o) (h':Only D D' bs o'):Only X D' bs o':=⟨h'.keys.trans h.keys,h'.at_,fun b hb=>(h'.rest b hb).trans (h.rest b hb)⟩
def CD (s:List UInt8) (n:Nat):aG (some (false,n)) (some (dz s)) 0=some (vs s):=(rfl)
def Ua (b:Nat) (n:Nat):aG (some (false,n)) (some (ptrO b)) 0=some (vp b 0):=(rfl)
def pg:=aN (aN @av @au) (aN @CD @Ua)
def Mt (X:aB) (b1 b2 bs fbn:Nat) (a:List UInt8) (o:Obj) (m:List (List UInt8×Option Nat)) (w:World) (hX: ∀p,p∈X→w.heap[p.1]? =some p.2) (hn: (keys X).Nodup)
  (h1:Sx.look X b1=some (ptrO fbn)) (h2:Sx.look X b2=some (dz a)) (hs:Sx.look X bs=some o) (hm:e_ vs bC o m):
  Rets prog 224 #[vm bs,vp b1 0,vp b2 0] w (XS w X (fun v D=>v=cM []∧ ∃o',Only X D bs o'∧e_ vs bC o' (updG a (some fbn) m))):=by
 have r1:=aQ (w0:=w) h1
 have r2:=aQ (w0:=w) h2
 refine Rets.enterX func224 rfl (rs:= []) results224 ntmps224 hX hn ?_
 refine kf ?_
 refine ky (aN @pg (aN @r1 @r2)) ?_
 refine Ow.mapUpdateG (encK:=vs) (encV:=bC) (k:=a) (v:=some fbn) rfl rfl underlying77 ju rfl rfl rfl hs hm (fun o' ii=> ?_)
 refine ko @pg ?_
 refine⟨_,(ke @pg), ?_⟩
 exact⟨(Ext.refl w X).setB,rfl,o',Only.set hs,ii⟩
def MV (X:aB) (b1 bs:Nat) (a:List UInt8) (o:Obj) (m:List (List UInt8×Option Nat)) (w:World) (hX: ∀p,p∈X→w.heap[p.1]? =some p.2) (hn: (keys X).Nodup)
  (h1:Sx.look X b1=some (dz a)) (hs:Sx.look X bs=some o) (hm:e_ vs bC o m):
  Rets prog 133 #[vm bs,vp b1 0] w (XS w X (fun v D=>v=cM []∧ ∃o',Only X D bs o'∧e_ vs bC o' (delG a m))):=by
 have r1:=aQ (w0:=w) h1
 refine Rets.enterX func133 rfl (rs:= []) results133 ntmps133 hX hn ?_
 refine kf ?_
 refine ky (aN @pg @r1) ?_
 refine Ow.mapDeleteG (encK:=vs) (encV:=bC) (k:=a) rfl rfl underlying77 ju rfl rfl hs hm (fun o' ii=> ?_)
 refine ko @pg ?_
 refine⟨_,(ke @pg), ?_⟩
 exact⟨(Ext.refl w X).setB,rfl,o',Only.set hs,ii⟩
def OH (X:aB) (b1 b2 bs:Nat) (a b:List UInt8) (o:Obj) (m:List (List UInt8×Option Nat)) (w:World) (hX: ∀p,p∈X→w.heap[p.1]? =some p.2) (hn: (keys X).Nodup)
  (h1:Sx.look X b1=some (dz a)) (h2:Sx.look X b2=some (dz b)) (hs:Sx.look X bs=some o) (hm:e_ vs bC o m):
  Rets prog 218 #[vm bs,vp b1 0,vp b2 0] w (XS w X (fun v D=>v=cM []∧ ∃o',Only X D bs o'∧e_ vs bC o' (delG a (updG b (getG a none m) m)))):=by
 have r1:=aQ (w0:=w) h1
 have r2:=aQ (w0:=w) h2
 refine Rets.enterX func218 rfl (rs:= []) results218 ntmps218 hX hn ?_
 refine kf ?_
 refine ky (aN @pg (aN @r1 @r2)) ?_
 refine Ow.mapGetG (encK:=vs) (encV:=bC) (k:=a) (z:=none) rfl rfl underlying77 ju zrPf rfl rfl (aQ hs) hm ?_
 refine ko @pg ?_
 refine Ow.mapUpdateG (encK:=vs) (encV:=bC) (k:=b) (v:=getG a none m) rfl rfl underlying77 ju rfl rfl rfl hs hm (fun o1 fa=> ?_)
 have Jy:Only X (setB X bs o1) bs o1:=Only.set hs
 have aX:b1≠bs:=by
  rintro rfl
  rw[hs] at h1;cases h1
  obtain⟨es,c,h,-⟩:=hm;cases h
 have r3:=aQ (w0:=w) ((Jy.rest b1 aX).trans h1)
 have hE:=(Ext.refl w X).setB (b:=bs) (o:=o1)
 generalize setB X bs o1=L1 at*
 refine ko @pg ?_
 refine ky (aN @pg @r3) ?_
 refine Ow.mapDeleteG (encK:=vs) (encV:=bC) (k:=a) rfl rfl underlying77 ju rfl rfl Jy.at_ fa (fun o' ii=> ?_)
 refine ko @pg ?_
 refine⟨_,(ke @pg), ?_⟩
 exact⟨hE.setB,rfl,o',Jy.trans (Only.set Jy.at_),ii⟩
def okC (l:NmL) (c:CallL):Prop:=c.kind=1→aM l c.a≠none∧c.a≠c.b
def NmP.ren {fb:List Nat} {l:NmL} {m:List (List UInt8×Option Nat)} (h:NmP fb l m) (hs:SrtN l) {a b:List UInt8} {n:Nat} (gR:a≠b):NmP fb (f5 (cA l a) (b,n)) (delG a (updG b (some (fb.getD n 0)) m)):=by
 have h1:=h.put hs.nodup b n
 have h2:=h1.wipe (AV (b,n) hs).nodup a
 refine h2.trans (List.Perm.map _ ?_)
 unfold f5
 refine(List.Perm.filter _ (si (b,n) (cA l b))).trans ?_
 refine List.Perm.trans ?_ (si (b,n) (cA (cA l a) b)).symm
 have e: (a==b)=false:=beq_eq_false_iff_ne.2 gR
 rw[List.filter_cons]
 simp only[e,Bool.not_false, ↓reduceIte]
 unfold cA
 rw[List.filter_filter,List.filter_filter]
 refine List.Perm.cons _ (List.Perm.of_eq (List.filter_congr fun p _=>Bool.and_comm _ _))
def wr {l:NmL} (c:CallL) (h:SrtN l):SrtN (ci l c):=by
 unfold ci
 split
 ·exact AV _ h
 ·exact AV _ (JA _ h)
 exact JA _ h
def LU {X:aB} {fb:List Nat} {v:Value} {c:CallL} {bs:Nat} {l:NmL} (hv:FnP X fb v c) (hN:NmM X fb bs l) (hs:SrtN l) (bU:okC l c):
  ∃k cap,v= .func (.func k) #[] cap∧(∀a w,(callFunc k a).run prog w= .ok (.enter k a) w)∧ ∀w,(∀p,p∈X→w.heap[p.1]? =some p.2)→(keys X).Nodup→Rets prog k (#[vm bs]++cap) w (XS w X (fun r D=>r=cM []∧ ∃o',Only X D bs o'∧NmM D fb bs (ci l c))):=by
 obtain⟨o,m,ho,hm,hp⟩:=hN
 unfold FnP at hv
 split at hv
 ·rename_i hk
  obtain⟨b1,b2,rfl,h1,h2⟩:=hv
  refine⟨_,_,rfl,call224,fun w hX hn=>Rets.mono (Mt X b1 b2 bs _ c.a o m w hX hn h1 h2 ho hm) ?_⟩
  rintro r D ⟨hE,hr,o',hO,ii⟩
  refine⟨hE,hr,o',hO,o',_,hO.at_,ii, ?_⟩
  unfold ci
  rw[hk]
  exact hp.put hs.nodup c.a c.n
 ·rename_i hk
  obtain⟨b1,b2,rfl,h1,h2⟩:=hv
  obtain⟨hf,gR⟩:=bU hk
  refine⟨_,_,rfl,call218,fun w hX hn=>Rets.mono (OH X b1 b2 bs c.a c.b o m w hX hn h1 h2 ho hm) ?_⟩
  rintro r D ⟨hE,hr,o',hO,ii⟩
  refine⟨hE,hr,o',hO,o',_,hO.at_,ii, ?_⟩
  unfold ci
  rw[hk,hp.get hs.nodup]
  cases e:aM l c.a with
  |none=>exact absurd e hf
  |some n=>exact hp.ren hs gR
 rename_i h0 t_
 obtain⟨b1,rfl,h1⟩:=hv
 refine⟨_,_,rfl,call133,fun w hX hn=>Rets.mono (MV X b1 bs c.a o m w hX hn h1 ho hm) ?_⟩
 rintro r D ⟨hE,hr,o',hO,ii⟩
 refine⟨hE,hr,o',hO,o',_,hO.at_,ii, ?_⟩
 have e:ci l c=cA l c.a:=by
  unfold ci
  split
  ·rename_i e;exact absurd e h0
  ·rename_i e;exact absurd e t_
  rfl
 rw[e]
 exact hp.wipe hs.nodup c.a
def zK {α:Type} {a b:List α} (z:α) (k:Nat) (h:k<a.length): (a++b).getD k z=a.getD k z:=by
 rw[List.getD_eq_getElem?_getD,List.getElem?_append_left h,←List.getD_eq_getElem?_getD]
def vy {α:Type} {a:List α} (z x:α) {k:Nat} (h:a.length=k): (a++ [x]).getD k z=x:=by
 subst h
 rw[List.getD_eq_getElem?_getD,List.getElem?_append_right (bq _),Nat.sub_self];rfl
def setP (G:DkG) (k:Nat) (v:Value):DkG:={G with p:=fun j=>if j=k then v else G.p j}
def Iz {l:NmL} {c:CallL} {n:Nat} (hl: ∀p,p∈l→p.2<n) (bU:okC l c) (hc:c.kind=0→c.n<n): ∀p,p∈ci l c→p.2<n:=by
 intro p hp
 have gP: ∀ {l:NmL} {x:List UInt8×Nat},(∀p,p∈l→p.2<n)→x.2<n→p∈f5 l x→p.2<n:=by
  intro l x h1 h2 h3
  rcases List.mem_cons.1 ((si x (cA l x.1)).mem_iff.1 h3) with rfl|h3
  ·exact h2
  exact h1 _ ((List.mem_filter.1 h3).1)
 unfold ci at hp
 split at hp
 ·rename_i hk;exact gP hl (hc hk) hp
 ·rename_i hk
  refine gP (fun q hq=>hl q ((List.mem_filter.1 hq).1)) ?_ hp
  cases e:aM l c.a with
  |none=>exact absurd e (bU hk).1
  |some m=>
   have:=hl _ (iG e)
   exact this
 exact hl _ ((List.mem_filter.1 hp).1)
def AJ {S:DiskL} (h:DkOk S) {k:Nat} (d:DirL) (h1:SrtN d.seen) (h2:SrtN d.stl) (h3: ∀p,p∈d.seen→p.2<S.files.length) (h4: ∀p,p∈d.stl→p.2<S.files.length) (h5: ∀c,c∈d.pend→c.kind=0→c.n<S.files.length):DkOk (dY S k d):=by
 refine⟨fun j hj=> ?_,fun j hj=> ?_,fun j hj=> ?_,fun j hj=> ?_,fun j hj=> ?_,h.file,h.fuse,h.max⟩<;>unfold dY<;>simp only<;>by_cases e:j=k
 ·rw[if_pos e];exact h1
 ·rw[if_neg e];exact h.seen j hj
 ·rw[if_pos e];exact h2
 ·rw[if_neg e];exact h.stl j hj
 ·rw[if_pos e];exact h3
 ·rw[if_neg e];exact h.seenN j hj
 ·rw[if_pos e];exact h4
 ·rw[if_neg e];exact h.stlN j hj
 ·rw[if_pos e];exact h5
 rw[if_neg e];exact h.pendN j hj
def qS {G:DkG} (h: [G.s 0,G.s 1,G.s 2,G.t 0,G.t 1,G.t 2].Nodup) {i j:Nat} (hi:i<3) (hj:j<3): (i≠j→G.s i≠G.s j)∧(i≠j→G.t i≠G.t j)∧G.s i≠G.t j:=by
 simp only[List.nodup_cons,List.mem_cons,List.not_mem_nil,not_or,or_false,List.nodup_nil,and_true,not_false_eq_true] at h
 have a:i=0∨i=1∨i=2:=by omega
 have b:j=0∨j=1∨j=2:=by omega
 rcases a with rfl|rfl|rfl<;>rcases b with rfl|rfl|rfl<;>refine⟨fun aX=> ?_,fun aX=> ?_, ?_⟩<;>first|omega| (exact absurd rfl aX)
def GE {G:DkG} (h: [G.d 0,G.d 1,G.d 2].Nodup) {i j:Nat} (hi:i<3) (hj:j<3):i≠j→G.d i≠G.d j:=by
 simp only[List.nodup_cons,List.mem_cons,List.not_mem_nil,not_or,or_false,List.nodup_nil,and_true,not_false_eq_true] at h
 have a:i=0∨i=1∨i=2:=by omega
 have b:j=0∨j=1∨j=2:=by omega
 rcases a with rfl|rfl|rfl<;>rcases b with rfl|rfl|rfl<;>intro aX<;>first|omega| (exact absurd rfl aX)
structure DkP.Turn (X L:aB) (G:DkG) (k:Nat):Prop where
 keep: ∀b o,Sx.look X b=some o→b≠G.s k→b≠G.d k→slB (G.p k)≠some b→Sx.look L b=some o
def DkP.turn {X L:aB} {G:DkG} {S:DiskL} (h:DkP X G S) {k:Nat} (hk:k<3) {c:CallL} {v v2:Value} {vals:List Value} (hT:DkP.Turn X L G k)
  (hs:NmM L G.fb (G.s k) (ci (S.dir k).seen c)) (hd:Sx.look L (G.d k)=some (d7 (G.s k) (G.t k) v2)) (hv:vals.length=(S.dir k).pend.length)
  (hF: ∀i,i<vals.length→FnP X G.fb (vals.getD i undef) ((S.dir k).pend.getD i l9)) (hGo:Gr X 125 1 (G.p k) vals.length vals)
  (cI:Gr L 125 1 v2 (vals.length+1) (vals++ [v])) (hFv:FnP X G.fb v c) (bh:slB v2=slB (G.p k)∨ ∃b,slB v2=some b∧b∉keys X) (bU:okC (S.dir k).seen c) (uF:c.kind=0→c.n<S.files.length):
  DkP L (setP G k v2) (dY S k ⟨ci (S.dir k).seen c,(S.dir k).stl,(S.dir k).pend++ [c]⟩):=by
 have vN: ∀b o,Sx.look X b=some o→tyO o≠some 125→slB (G.p k)≠some b:=by
  intro b o hb ht e
  obtain⟨arr,ha⟩:=jD hGo e
  rw[hb] at ha;cases ha;exact ht rfl
 obtain⟨osk,msk,rU,rS,-⟩:=h.seen k hk
 have dj: ∀b o,Sx.look X b=some o→tyO o≠none→b≠G.s k:=by
  rintro b o hb ht rfl
  rw[rU] at hb;cases hb;exact ht (kG rS)
 have bA: ∀b o,Sx.look X b=some o→tyO o≠some 80→b≠G.d k:=by
  rintro b o hb ht rfl
  rw[h.dir k hk] at hb;cases hb;exact ht rfl
 have K: ∀b o,Sx.look X b=some o→tyO o≠none→tyO o≠some 80→tyO o≠some 125→Sx.look L b=some o:=fun b o hb h1 h2 h3=>hT.keep b o hb (dj b o hb h1) (bA b o hb h2) (vN b o hb h3)
 have KM: ∀b o,Sx.look X b=some o→tyO o=none→b≠G.s k→Sx.look L b=some o:=fun b o hb h1 h2=>hT.keep b o hb h2 (bA b o hb (by rw[h1];intro e;cases e)) (vN b o hb (by rw[h1];intro e;cases e))
 have KF: ∀ {w c},FnP X G.fb w c→FnP L G.fb w c:=fun hw=>hw.keep fun b o hb hx=>K b o hb (by rcases hx with⟨s,rfl⟩ | ⟨a,rfl⟩<;>simp[tyO,dz,ptrO]) (by rcases hx with⟨s,rfl⟩ | ⟨a,rfl⟩<;>simp[tyO,dz,ptrO]) (by rcases hx with⟨s,rfl⟩ | ⟨a,rfl⟩<;>simp[tyO,dz,ptrO])
 refine⟨?_, ?_, ?_, ?_, ?_, ?_, ?_,h.len,h.nodf,h.nodm,h.nodd,h.nodb, ?_, ?_⟩
 ·exact K _ _ h.disk (by simp[tyO,bl]) (by simp[tyO,bl]) (by simp[tyO,bl])
 ·obtain⟨o,h1,h2⟩:=h.dirs
  exact⟨o,KM _ _ h1 (kG h2) (h.nodb k hk).1,h2⟩
 ·intro j hj
  by_cases e:j=k
  ·subst e
   show Sx.look L (G.d j)=some (d7 (G.s j) (G.t j) (if j=j then v2 else G.p j))
   rw[if_pos rfl];exact hd
  show Sx.look L (G.d j)=some (d7 (G.s j) (G.t j) (if j=k then v2 else G.p j))
  rw[if_neg e]
  exact hT.keep _ _ (h.dir j hj) (dj _ _ (h.dir j hj) (by simp[tyO,d7])) (GE h.nodd hj hk e) (vN _ _ (h.dir j hj) (by simp[tyO,d7]))
 ·intro j hj
  show NmM L G.fb (G.s j) (if j=k then _ else S.dir j).seen
  by_cases e:j=k
  ·subst e;rw[if_pos rfl];exact hs
  rw[if_neg e]
  obtain⟨o,m,h1,h2,h3⟩:=h.seen j hj
  exact⟨o,m,KM _ _ h1 (kG h2) ((qS h.nodm hj hk).1 e),h2,h3⟩
 ·intro j hj
  show NmM L G.fb (G.t j) (if j=k then _ else S.dir j).stl
  have e2: (if j=k then⟨ci (S.dir k).seen c,(S.dir k).stl,(S.dir k).pend++ [c]⟩ else S.dir j:DirL).stl=(S.dir j).stl:=by
   by_cases e:j=k
   ·subst e;rw[if_pos rfl]
   rw[if_neg e]
  rw[e2]
  obtain⟨o,m,h1,h2,h3⟩:=h.stl j hj
  exact⟨o,m,KM _ _ h1 (kG h2) (Ne.symm (qS h.nodm hk hj).2.2),h2,h3⟩
 ·intro j hj
  by_cases e:j=k
  ·subst e
   refine⟨vals++ [v], ?_, ?_, ?_⟩
   ·show(vals++ [v]).length=(if j=j then _ else S.dir j:DirL).pend.length
    rw[if_pos rfl,List.length_append,List.length_append,hv];rfl
   ·show Gr L _ 1 (if j=j then v2 else G.p j) (vals++ [v]).length (vals++ [v])
    rw[if_pos rfl,List.length_append];exact cI
   intro i hi
   show FnP L G.fb ((vals++ [v]).getD i undef) ((if j=j then _ else S.dir j:DirL).pend.getD i l9)
   rw[if_pos rfl]
   rw[List.length_append,List.length_singleton] at hi
   by_cases ei:i=vals.length
   ·subst ei
    rw[vy _ _ rfl,vy _ _ hv.symm]
    exact KF hFv
   rw[zK _ _ oM,zK _ _ oM]
   exact KF (hF i oM)
  obtain⟨vj,h1,h2,h3⟩:=h.pend j hj
  refine⟨vj, ?_, ?_, ?_⟩
  ·show vj.length=(if j=k then _ else S.dir j:DirL).pend.length
   rw[if_neg e];exact h1
  ·show Gr L _ 1 (if j=k then v2 else G.p j) vj.length vj
   rw[if_neg e]
   refine h2.keep fun b o hb ho=> ?_
   obtain⟨arr,ha⟩:=jD h2 hb
   rw[ho] at ha;cases ha
   exact hT.keep _ _ ho (dj _ _ ho (by simp[tyO])) (bA _ _ ho (by simp[tyO])) (h.nodp j k hj hk e b hb)
  intro i hi
  show FnP L G.fb (vj.getD i undef) ((if j=k then _ else S.dir j:DirL).pend.getD i l9)
  rw[if_neg e]
  exact KF (h3 i hi)
 ·intro n hn
  exact K _ _ (h.file n hn) (by simp[tyO,dH]) (by simp[tyO,dH]) (by simp[tyO,dH])
 ·intro i j hi hj mI b hb
  have key: ∀j,j<3→ ∀b,slB (G.p j)=some b→b∈keys X:=fun j hj b hb=>by
   obtain⟨vj,-,h2,-⟩:=h.pend j hj
   obtain⟨arr,ha⟩:=jD h2 hb
   exact bY ha
  show slB (if j=k then v2 else G.p j)≠some b
  have dO:slB (if i=k then v2 else G.p i)=some b:=hb
  by_cases ei:i=k
  ·subst ei
   rw[if_pos rfl] at dO
   rw[if_neg (Ne.symm mI)]
   rcases bh with e| ⟨b',e,aq⟩
   ·exact h.nodp i j hi hj mI b (by rw[←e];exact dO)
   rw[e] at dO;cases dO
   exact fun h'=>aq (key j hj _ h')
  rw[if_neg ei] at dO
  by_cases ej:j=k
  ·subst ej
   rw[if_pos rfl]
   rcases bh with e| ⟨b',e,aq⟩
   ·rw[e];exact h.nodp i j hi hj mI b dO
   rw[e]
   intro h';cases h'
   exact aq (key i hi _ dO)
  rw[if_neg ej];exact h.nodp i j hi hj mI b dO
 exact AJ h.ok _ (wr c (h.ok.seen k hk)) (h.ok.stl k hk) (Iz (h.ok.seenN k hk) bU uF) (h.ok.stlN k hk) (fun d hd h0=>by
  rcases List.mem_append.1 hd with hd|hd
  ·exact h.ok.pendN k hk d hd h0
  rw[List.mem_singleton.1 hd] at h0 ⊢;exact uF h0)
def gd (S:DiskL) (k:Nat) (c:CallL):DiskL:=dY S k ⟨ci (S.dir k).seen c,(S.dir k).stl,(S.dir k).pend++ [c]⟩
def Kl (a b:Nat) (v q:Value) (x:Bool) (hq:Value.oneCell' q=true∧q.cells= #[q]):ad (some (x,1)) (some (d7 a b v)) 2 q=some (d7 a b q):=dR [vm a,vm b] [v] [q] [] x _ 80 rfl rfl hq.2 rfl (by simp[hq.1])
def ph:=aN (aN @av (aN @au @nU)) (aN (aN @AO @pO) (aN @pK @pL))
def Ki (X:aB) (G:DkG) (S:DiskL) (k:Nat) (c:CallL) (v:Value) (w:World) (hX: ∀p,p∈X→w.heap[p.1]? =some p.2) (hn: (keys X).Nodup) (hP:DkP X G S) (hk:k<3) (hv:FnP X G.fb v c) (bU:okC (S.dir k).seen c) (uF:c.kind=0→c.n<S.files.length) (fc: (S.dir k).pend.length<1000000):
  Rets prog 99 #[vp G.bd 0,vp (G.d k) 0,v] w (XS w X (fun r D=>r=vi ((aH S).2:Nat)∧if(aH S).2≠0 then D=setB X G.bd (bl G.bm (aH S).1) else∃v2,DkP D (setP G k v2) (gd (aH S).1 k c))):=by
 obtain⟨fk,cap,rfl,-,-⟩:=LU hv (hP.seen k hk) (hP.ok.seen k hk) bU
 refine Rets.enterX func99 rfl (rs:= [.tmp 6]) results99 ntmps99 hX hn ?_
 refine kf ?_
 refine ky @ph ?_
 refine Ow.callM rfl rfl call96 (bY hP.disk) (fun w' aA=>IM G.bd G.bm S w' hP.ok.fuse (aA.has _ _ (cQ hP.disk))) ?_
 obtain⟨aW,aq,da⟩:=jA S
 have ap:=hP.setDisk (aH S).1 aW aq (pP hP.ok)
 have cE:=(Ext.refl w X).setB (b:=G.bd) (o:=bl G.bm (aH S).1)
 have uV:FnP (setB X G.bd (bl G.bm (aH S).1)) G.fb (.func (.func fk) #[] cap) c:=hv.keep fun b o ho hx=>iD hP.disk ho (by rcases hx with⟨s,rfl⟩ | ⟨a,rfl⟩<;>simp[tyO,bl,dz,ptrO])
 generalize hL1:setB X G.bd (bl G.bm (aH S).1)=L1 at*
 by_cases fW: (aH S).2=0
 ·have e2: (((aH S).2:Int) !=0)=false:=by rw[fW];rfl
  have qJ:SrtN ((aH S).1.dir k).seen:=ap.ok.seen k hk
  have kr:okC ((aH S).1.dir k).seen c:=by rw[aW];exact bU
  obtain⟨fk',cap',he,gl,j_⟩:=LU uV (ap.seen k hk) qJ kr
  cases he
  have eh:=aQ (w0:=w) (ap.dir k hk)
  obtain⟨os,ms,gq,gG,-⟩:=ap.seen k hk
  have Jn:G.d k≠G.s k:=by
   intro e
   have h1:=ap.dir k hk
   rw[e,gq] at h1;cases h1
   obtain⟨es,cl,h,-⟩:=gG;cases h
  obtain⟨vals,I7,cI,hF⟩:=ap.pend k hk
  refine ko (aN @ph @e2) ?_
  refine ky (aN @ph @eh) ?_
  refine Ow.callFnXC (b:=vm (G.s k)) (cap:=cap) (ars:= #[vm (G.s k)]++cap) rfl (X:=L1) (Y:= []) (List.append_nil _).symm rfl rfl rfl rfl gl (fun w' aA aZ aT=>j_ w' aZ aT) (fun r D hC hS=> ?_)
  rw[List.append_nil]
  obtain⟨rfl,o',hO,be⟩:=hS
  have bZ:=cE.came0 hC
  have jW:Sx.look D (G.d k)=some (d7 (G.s k) (G.t k) (G.p k)):=(hO.rest _ Jn).trans (ap.dir k hk)
  have yK:=aQ (w0:=w) jW
  have hGD:Gr D 125 1 (G.p k) vals.length vals:=cI.keep fun b o hb ho=>by
   obtain⟨arr,ha⟩:=jD cI hb
   rw[ho] at ha;cases ha
   refine(hO.rest b ?_).trans ho
   rintro rfl
   rw[gq] at ho;cases ho
   obtain⟨es,cl,h,-⟩:=gG;cases h
  refine ko @ph ?_
  refine ky (aN @ph @yK) ?_
  refine Ow.buildSlice (e:=125) #[.func (.func fk) #[] cap] rfl rfl kR fun ba lh im=> ?_
  refine ko @ph ?_
  refine Ow.appendG (e:=125) (k:=1) (new:= [.func (.func fk) #[] cap]) (G.p k) rfl rfl rfl underlying78 (id kR:aR prog 125=some (false,1)) kR (id kR:an prog 125=some .nilFunc) rfl underlying78 (by intro k h;cases h) hGD.app (fun w' aA=>AppX.one1 (aA.has _ _ (dJ _ am)) rfl rfl) rfl (by rw[I7,aW];omega) (fun v2 L2 dE _ kg eA=> ?_)
  have lY:=(bZ.app (o:= .cells #[.func (.func fk) #[] cap] 125 (0,0)) im).grew kg
  have ly:slB (G.p k)≠some (G.d k):=fun e=>by
   obtain⟨arr,ha⟩:=jD hGD e
   rw[jW] at ha
   simp[d7] at ha
  have ll:Sx.look L2 (G.d k)=some (d7 (G.s k) (G.t k) (G.p k)):=kg.look _ _ ly (az jW)
  have nP:=aQ (w0:=w) ll
  have st:=fun x=>Kl (G.s k) (G.t k) (G.p k) v2 x dE.cell
  refine ko @ph ?_
  refine ky (aN @ph (aN @ll @st)) ?_
  refine⟨_,(ke @ph), ?_⟩
  refine⟨lY.setB,by rw[fW];rfl, ?_⟩
  rw[if_neg (by rw[fW];simp)]
  have hAb: ∀b,fU (D++ [(ba, .cells #[.func (.func fk) #[] cap] 125 (0,0))]) b→b∉keys L1:=fun b hb hm=>by
   have:=ak hb (b:=b) (by rw[ao,hO.keys];exact cz _ hm)
   omega
  have HQ: ∀b o,Sx.look L1 b=some o→b≠G.s k→b≠G.d k→slB (G.p k)≠some b→Sx.look (setB L2 (G.d k) (d7 (G.s k) (G.t k) v2)) b=some o:=fun b o hb h1 h2 h3=>by
   rw[bR (Ne.symm h2)]
   exact kg.look _ _ h3 (az ((hO.rest b h1).trans hb))
  obtain⟨oN,mN,fC,c_,dq⟩:=be
  have hps:slB (G.p k)≠some (G.s k):=fun e=>by
   obtain⟨arr,ha⟩:=jD cI e
   rw[gq] at ha;cases ha
   obtain⟨es,cl,h,-⟩:=gG;cases h
  have hv2d:slB v2≠some (G.d k):=fun e=>by
   rcases eA with h| ⟨b',h,ha⟩
   ·exact ly (by rw[←h];exact e)
   rw[h] at e;cases e
   exact hAb _ ha (bY (ap.dir k hk))
  refine⟨v2,ap.turn hk (c:=c) (v:= .func (.func fk) #[] cap) (v2:=v2) (vals:=vals) ⟨HQ⟩ ⟨oN,mN, ?_,c_,dq⟩ (dp ll) I7 hF cI (dE.keep fun b o hb ho=> ?_) uV (eA.imp id fun⟨b',h,ha⟩=>⟨b',h,hAb _ ha⟩) kr (by rw[aq];exact uF)⟩
  ·rw[bR Jn]
   exact kg.look _ _ hps (az fC)
  rw[bR (by rintro rfl;exact hv2d hb)];exact ho
 have e2:=kF fW
 refine ko (aN @ph @e2) ?_
 refine ky @ph ?_
 refine⟨_,(ke @ph), ?_⟩
 refine⟨cE,rfl, ?_⟩
 rw[if_pos fW]
def addF (G:DkG) (bf:Nat):DkG:={G with fb:=G.fb++ [bf]}
def eH (S:DiskL) (f:FileL):DiskL:={S with files:=S.files++ [f]}
def E4 {S:DiskL} (h:DkOk S) {f:FileL} (hf:f.data.length≤1048576∧f.stl≤f.data.length):DkOk (eH S f):=by
 have e: (eH S f).files.length=S.files.length+1:=by unfold eH;simp
 refine⟨h.seen,h.stl,fun k hk p hp=>by rw[e];exact Nat.lt_succ_of_lt (h.seenN k hk p hp),fun k hk p hp=>by rw[e];exact Nat.lt_succ_of_lt (h.stlN k hk p hp),fun k hk c hc h0=>by rw[e];exact Nat.lt_succ_of_lt (h.pendN k hk c hc h0),fun g hg=> ?_,h.fuse,h.max⟩
 rcases List.mem_append.1 hg with hg|hg
 ·exact h.file g hg
 rw[List.mem_singleton.1 hg];exact hf
def Fm {fb:List Nat} {bf n:Nat} (h:n<fb.length): (fb++ [bf]).getD n 0=fb.getD n 0:=zK 0 n h
def DkP.addFile {X:aB} {G:DkG} {S:DiskL} (h:DkP X G S) {bf:Nat} {f:FileL} (hb:Sx.look X bf=some (dH f)) (hn:bf∉G.fb) (hf:f.data.length≤1048576∧f.stl≤f.data.length):DkP X (addF G bf) (eH S f):=by
 have hl:=h.len
 have hNm: ∀ {b:Nat} {l:NmL},(∀p,p∈l→p.2<S.files.length)→NmM X G.fb b l→NmM X (G.fb++ [bf]) b l:=by
  rintro b l aC ⟨o,m,h1,h2,h3⟩
  exact⟨o,m,h1,h2,h3.mono fun p hp=>Fm (by have:=aC p hp;omega)⟩
 refine⟨h.disk,h.dirs,h.dir,fun k hk=>hNm (h.ok.seenN k hk) (h.seen k hk),fun k hk=>hNm (h.ok.stlN k hk) (h.stl k hk),fun k hk=> ?_,fun n aT=> ?_, ?_, ?_,h.nodm,h.nodd,h.nodb,h.nodp,E4 h.ok hf⟩
 ·obtain⟨vals,h1,h2,h3⟩:=h.pend k hk
  refine⟨vals,h1,h2,fun i hi=> ?_⟩
  have hF:=h3 i hi
  have hm: ((S.dir k).pend.getD i l9)∈ (S.dir k).pend:=by
   rw[List.getD_eq_getElem?_getD,List.getElem?_eq_getElem oM];exact List.getElem_mem _
  have hc:=h.ok.pendN k hk _ hm
  show FnP X (G.fb++ [bf]) (vals.getD i undef) ((S.dir k).pend.getD i l9)
  generalize (S.dir k).pend.getD i l9=c at*
  unfold FnP at hF ⊢
  split at hF
  ·rename_i kh
   rw[Fm (by have:=hc kh;omega)]
   exact hF
  ·exact hF
  exact hF
 ·have qG:n<S.files.length+1:=by
   have: (eH S f).files.length=S.files.length+1:=by unfold eH;simp
   omega
  show Sx.look X ((G.fb++ [bf]).getD n 0)=some (dH ((S.files++ [f]).getD n cg))
  by_cases e:n=S.files.length
  ·subst e
   rw[vy _ _ hl,vy _ _ rfl];exact hb
  rw[zK _ _ oM,zK _ _ oM]
  exact h.file n oM
 ·show(G.fb++ [bf]).length=(S.files++ [f]).length
  rw[List.length_append,List.length_append,hl];rfl
 show(G.fb++ [bf]).Nodup
 refine List.nodup_append.2 ⟨h.nodf,by simp,fun a ha b dO=> ?_⟩
 rw[List.mem_singleton.1 dO]
 rintro rfl;exact hn ha
def R_:dl (cC prog 76) (an prog 76) []=some (.agg #[vs [],vi 0]):=by
 rw[show cC prog 76=some [(0,1),(1,1)] from id kR,show an prog 76=some (.agg #[vs [],vi 0]) from id kR];rfl
def axr_:an prog 74=some (.pointer none):=zrPf
def S_ (b:Nat) (a:Bool):ad (some (a,1)) (some (.cells (Value.pointer none).cells 74 (0,0))) 0 (vp b 0)=some (ptrO b):=
 dR [] [.pointer none] [vp b 0] [] a _ 74 rfl rfl rfl rfl rfl
def pw:=aN @av (aN @au @S_)
def ME (name:List UInt8) (w:World):Rets prog 216 #[vs name] w (XS w [] (fun v D=> ∃bp bn bf,v= .func (.func 224) #[] #[vp bp 0,vp bn 0]∧Sx.look D bp=some (ptrO bf)∧Sx.look D bn=some (dz name)∧Sx.look D bf=some (dH cg))):=by
 refine Rets.enterX func216 rfl (rs:= [.tmp 2]) results216 ntmps216 (fun p hp=>by cases hp) (by simp[keys]) ?_
 refine kf ?_
 refine ky @pw ?_
 refine Ow.box rfl rfl fun bn fW rk=> ?_
 simp only[dC,cy,dA,List.nil_append]
 refine ko @pw ?_
 refine ky @pw ?_
 refine Ow.build (.agg #[vs [],vi 0]) rfl R_ ?_
 refine ko @pw ?_
 refine Ow.box rfl rfl fun bf Je hwf=> ?_
 simp only[dC,cy,dA,aS]
 refine ko @pw ?_
 refine Ow.alloc rfl rfl axr_ fun bp zl IB=> ?_
 have h1:bn<bf:=ak Je (by simp[keys])
 have h2:bn<bp:=ak zl (by simp[keys])
 have h3:bf<bp:=ak zl (by simp[keys])
 refine Ow.permL (M:= [(bp, .cells (Value.pointer none).cells 74 (0,0)),(bf, .cells #[vs [],vi 0] 76 (0,0)),(bn, .cells (vs name).cells 9 (0,0))]) pM ?_
 refine ko @pw ?_
 refine ky @pw ?_
 refine⟨_,(ke @pw), ?_⟩
 refine⟨Ext.of_new ⟨IB,hwf,rk,trivial⟩,bp,bn,bf, ?_, ?_, ?_, ?_⟩
 ·simp only[cM,List.map_toArray,List.map_cons,List.map_nil,dC,cy,dA]
 ·simp[Sx.look]
 ·simp[Sx.look,show bp≠bn by omega,show bf≠bn by omega];rfl
 simp[Sx.look,show bp≠bf by omega];rfl
def W4_ (name:List UInt8) (w:World):Rets prog 100 #[vs name] w (XS w [] (fun v D=> ∃bn,v= .func (.func 133) #[] #[vp bn 0]∧Sx.look D bn=some (dz name))):=by
 refine Rets.enterX func100 rfl (rs:= [.tmp 2]) results100 ntmps100 (fun p hp=>by cases hp) (by simp[keys]) ?_
 refine kf ?_
 refine ky @pw ?_
 refine Ow.box rfl rfl fun bn fW rk=> ?_
 simp only[dC,cy,dA,List.nil_append]
 refine ko @pw ?_
 refine ky @pw ?_
 refine⟨_,(ke @pw), ?_⟩
 exact⟨Ext.of_new ⟨rk,trivial⟩,bn,by simp only[cM,List.map_toArray,List.map_cons,List.map_nil,dC,cy,dA],by simp[Sx.look];rfl⟩
def kE (S:DiskL) (dir name:List UInt8):DiskL×Nat:=
 if co S dir [name]≠0 then(S,co S dir [name]) else match atD S dir name with
  |some _=>(S,7)
  |none=>if(aH S).2≠0 then aH S else(gd (eH (aH S).1 cg) ((bO dir).getD 0) ⟨0,name,[],S.files.length⟩,0)
def fo (S:DiskL) (dir name:List UInt8):DiskL×Nat:=
 if co S dir [name]≠0 then(S,co S dir [name]) else match atD S dir name with
  |none=>(S,6)
  |some _=>if(aH S).2≠0 then aH S else(gd (aH S).1 ((bO dir).getD 0) ⟨2,name,[],0⟩,0)
def jg (S:DiskL) (dir name to:List UInt8):DiskL×Nat:=
 if co S dir [name,to]≠0 then(S,co S dir [name,to]) else match atD S dir name with
  |none=>(S,6)
  |some _=>if name=to then aH S else if(aH S).2≠0 then aH S else(gd (aH S).1 ((bO dir).getD 0) ⟨1,name,to,0⟩,0)
def QL (S:DiskL) (f:FileL):aH (eH S f)=(eH (aH S).1 f,(aH S).2):=by
 unfold aH
 by_cases h1:S.fused=true∧S.fuse=0
 ·rw[if_pos h1,if_pos (by exact h1)];rfl
 rw[if_neg h1,if_neg (by exact h1)]
 by_cases h2:S.fused=true
 ·rw[if_pos h2,if_pos (by exact h2)];rfl
 rw[if_neg h2,if_neg (by exact h2)]
def Y4 (b o:Nat):bF prog .neq 74 (vp b o) (.pointer none)=some (.bool true):=by
 simp[bF,eqX,eu,eW,underlying74,vp]
def Yg:bF prog .neq 74 (.pointer none) (.pointer none)=some (.bool false):=by
 simp[bF,eqX,eu,eW,underlying74]
def J8 {L D:aB} {B:Nat} (hA:fU L B) (hN:New B D) {b:Nat} {o:Obj} (h:Sx.look D b=some o):Sx.look (L++D) b=some o:=by
 rw[gO (fun hm=>by have:=ak hA hm;have:=hN.le b (bY h);omega)];exact h
def DkP.fb_key {X:aB} {G:DkG} {S:DiskL} (h:DkP X G S) {b:Nat} (hb:b∈G.fb):b∈keys X:=by
 obtain⟨n,hn,rfl⟩:=List.getElem_of_mem hb
 have:=h.file n (by rw[←h.len];exact hn)
 rw[List.getD_eq_getElem?_getD,List.getElem?_eq_getElem hn] at this
 exact bY this
def cW:=aN (aN (aN (aN @av @au) (aN @nU @AO)) (aN (aN @pO @pK) (aN @pL (aN @zA @zD)))) (aN (aN (aN @CD @ob) (aN @oQ @qx)) (aN (aN @qg @Y4) (aN @Yg (aN @Sx.tup2_0 @Sx.tup2_1))))
def NU (X:aB) (G:DkG) (S:DiskL) (dir name:List UInt8) (w:World) (hX: ∀p,p∈X→w.heap[p.1]? =some p.2) (hn: (keys X).Nodup) (hP:DkP X G S) (gH:name.length<1099511627776) (fc: ∀k,k<3→(S.dir k).pend.length<1000000):
  Rets prog 200 #[vp G.bd 0,vs dir,vs name] w (XS w X (fun v D=>v=vi ((kE S dir name).2:Nat)∧ ∃G',G'.bd=G.bd∧DkP D G' (kE S dir name).1)):=by
 refine Rets.enterX func200 rfl (rs:= [.tmp 6]) results200 ntmps200 hX hn ?_
 refine kf ?_
 refine ky @cW ?_
 refine Ow.buildSlice (e:=9) #[vs name] rfl rfl kR fun b1 aW aI=> ?_
 have ap:=hP.mono (X':=X++ [(b1,Obj.cells #[vs name] 9 (0,0))]) fun b o h=>az h
 have cE:=(Ext.refl w X).app (o:=Obj.cells #[vs name] 9 (0,0)) aI
 have fa: (b1,Obj.cells #[vs name] 9 (0,0))∈X++ [(b1,Obj.cells #[vs name] 9 (0,0))]:=by simp
 generalize X++ [(b1,Obj.cells #[vs name] 9 (0,0))]=L1 at*
 refine ko @cW ?_
 refine Ow.callC rfl rfl call89 (fun w' aA=>Rets.toX (vl w' G S dir (vsl b1 0 1 1) [name] (ap.world aA) (qh (aA.has _ _ fa)) (by simp) (by simpa using gH))) (fun B2 v2 D2 ay dE be bM=> ?_)
 obtain⟨rfl,bM⟩:=bM
 rw[List.append_nil]
 clear fa ay be
 unfold kE atD
 rcases bM with⟨he,rfl⟩ | ⟨he,k,hk,rfl⟩
 ·have e1:=kF he
  refine ko @cW ?_
  refine ky (aN @cW @e1) ?_
  refine⟨_,(ke @cW), ?_⟩
  rw[if_pos he]
  exact⟨cE,rfl,G,rfl,ap⟩
 have qD: ¬ (co S dir [name]≠0):=by rw[he];simp
 have aj:=(dT hk).1
 have eh:=aQ (w0:=w) (ap.dir k aj)
 obtain⟨os,ms,gq,gG,ij⟩:=ap.seen k aj
 have mM:=aQ (w0:=w) gq
 have e1: ((0:Int) !=0)=false:=rfl
 refine ko @cW ?_
 refine ky (aN @cW (aN @e1 @eh)) ?_
 refine Ow.mapGetG (encK:=vs) (encV:=bC) (k:=name) (z:=none) rfl rfl underlying77 ju zrPf rfl rfl mM gG ?_
 rw[ij.get (hP.ok.seen k aj).nodup]
 show Ow _ _ _ _ _ _ _ _
 have hq: (bO dir).bind (fun k=>aM (S.dir k).seen name)=aM (S.dir k).seen name:=by rw[hk];rfl
 cases hf:aM (S.dir k).seen name with
 |some n=>
  have hp: ∀q:Nat,bC (some q)=vp q 0:=fun _=>rfl
  refine ko (aN @cW @hp) ?_
  refine ky @cW ?_
  refine⟨_,(ke @cW), ?_⟩
  rw[if_neg qD,hq,hf]
  exact⟨cE,rfl,G,rfl,ap⟩
 |none=>
  have gr:bC none= .pointer none:=rfl
  refine ko (aN @cW @gr) ?_
  refine ky @cW ?_
  refine Ow.callC rfl rfl call216 (fun w' aA=>ME name w') (fun B3 v3 D3 fO mC fC eO=> ?_)
  obtain⟨bp,bn,bf,rfl,zl,fW,Je⟩:=eO
  have bE:=ap.mono (X':=L1++D3) fun b o h=>az h
  have hbp2:=J8 fO fC zl
  have yE:=J8 fO fC fW
  have hbf2:=J8 fO fC Je
  have hnf:bf∉G.fb:=fun hm=>by
   have h1:=ak fO (ap.fb_key hm)
   have h2:=fC.le bf (bY Je)
   omega
  have j4:=bE.addFile hbf2 hnf (f:=cg) ⟨by decide,by decide⟩
  have bZ:Ext w X (L1++D3):=⟨fun c hc=>by
   rw[ao] at hc
   rcases List.mem_append.1 hc with hc|hc
   ·exact cE.new c hc
   exact .inr (Nat.le_trans mC (fC.le c hc)),fun c hc=>by rw[ao];exact cz _ (cE.all c hc)⟩
  generalize L1++D3=L3 at*
  refine ko @cW ?_
  refine Ow.callX (X:=L3) (Y:= []) (List.append_nil _).symm rfl rfl call99 (fun w' aA aZ aT=>Ki L3 (addF G bf) (eH S cg) k ⟨0,name,[],S.files.length⟩ _ w' aZ aT j4 aj ⟨bp,bn,rfl,by show Sx.look L3 bp=some (ptrO ((G.fb++ [bf]).getD S.files.length 0));rw[vy _ _ hP.len];exact hbp2,yE⟩ (fun h=>by cases h) (fun _=>by show S.files.length< (S.files++ [cg]).length;simp) (fc k aj)) (fun v4 D4 bD ar=> ?_)
  rw[QL] at ar
  obtain⟨rfl,ar⟩:=ar
  simp only at ar
  have cj:=bZ.came0 bD
  rw[List.append_nil]
  refine ko @cW ?_
  refine ky @cW ?_
  refine⟨_,(ke @cW), ?_⟩
  rw[if_neg qD,hq,hf]
  simp only
  by_cases eU: (aH S).2=0
  ·rw[if_neg (by rw[eU];simp)] at ar
   rw[if_neg (by rw[eU];simp)]
   obtain⟨v5,sI⟩:=ar
   rw[hk]
   exact⟨cj,by rw[eU];rfl,setP (addF G bf) k v5,rfl,sI⟩
  rw[if_pos eU] at ar
  rw[if_pos eU]
  subst ar
  obtain⟨aW,aq,da⟩:=jA S
  exact⟨cj,rfl,G,rfl,bE.setDisk (aH S).1 aW aq (pP hP.ok)⟩
def K_ (X:aB) (G:DkG) (S:DiskL) (dir name:List UInt8) (w:World) (hX: ∀p,p∈X→w.heap[p.1]? =some p.2) (hn: (keys X).Nodup) (hP:DkP X G S) (gH:name.length<1099511627776) (fc: ∀k,k<3→(S.dir k).pend.length<1000000):
  Rets prog 56 #[vp G.bd 0,vs dir,vs name] w (XS w X (fun v D=>v=vi ((fo S dir name).2:Nat)∧ ∃G',G'.bd=G.bd∧DkP D G' (fo S dir name).1)):=by
 refine Rets.enterX func56 rfl (rs:= [.tmp 6]) results56 ntmps56 hX hn ?_
 refine kf ?_
 refine ky @cW ?_
 refine Ow.buildSlice (e:=9) #[vs name] rfl rfl kR fun b1 aW aI=> ?_
 have ap:=hP.mono (X':=X++ [(b1,Obj.cells #[vs name] 9 (0,0))]) fun b o h=>az h
 have cE:=(Ext.refl w X).app (o:=Obj.cells #[vs name] 9 (0,0)) aI
 have fa: (b1,Obj.cells #[vs name] 9 (0,0))∈X++ [(b1,Obj.cells #[vs name] 9 (0,0))]:=by simp
 generalize X++ [(b1,Obj.cells #[vs name] 9 (0,0))]=L1 at*
 refine ko @cW ?_
 refine Ow.callC rfl rfl call89 (fun w' aA=>Rets.toX (vl w' G S dir (vsl b1 0 1 1) [name] (ap.world aA) (qh (aA.has _ _ fa)) (by simp) (by simpa using gH))) (fun B2 v2 D2 ay dE be bM=> ?_)
 obtain⟨rfl,bM⟩:=bM
 rw[List.append_nil]
 clear fa ay be
 unfold fo atD
 rcases bM with⟨he,rfl⟩ | ⟨he,k,hk,rfl⟩
 ·have e1:=kF he
  refine ko @cW ?_
  refine ky (aN @cW @e1) ?_
  refine⟨_,(ke @cW), ?_⟩
  rw[if_pos he]
  exact⟨cE,rfl,G,rfl,ap⟩
 have qD: ¬ (co S dir [name]≠0):=by rw[he];simp
 have aj:=(dT hk).1
 have eh:=aQ (w0:=w) (ap.dir k aj)
 obtain⟨os,ms,gq,gG,ij⟩:=ap.seen k aj
 have mM:=aQ (w0:=w) gq
 have e1: ((0:Int) !=0)=false:=rfl
 refine ko @cW ?_
 refine ky (aN @cW (aN @e1 @eh)) ?_
 refine Ow.mapGetG (encK:=vs) (encV:=bC) (k:=name) (z:=none) rfl rfl underlying77 ju zrPf rfl rfl mM gG ?_
 rw[ij.get (hP.ok.seen k aj).nodup]
 show Ow _ _ _ _ _ _ _ _
 have hq: (bO dir).bind (fun k=>aM (S.dir k).seen name)=aM (S.dir k).seen name:=by rw[hk];rfl
 cases hf:aM (S.dir k).seen name with
 |none=>
  have gr:bC none= .pointer none:=rfl
  refine ko (aN @cW @gr) ?_
  refine ky @cW ?_
  refine⟨_,(ke @cW), ?_⟩
  rw[if_neg qD,hq,hf]
  exact⟨cE,rfl,G,rfl,ap⟩
 |some n=>
  have hp: ∀q:Nat,bC (some q)=vp q 0:=fun _=>rfl
  refine ko (aN @cW @hp) ?_
  refine ky @cW ?_
  refine Ow.callC rfl rfl call100 (fun w' aA=>W4_ name w') (fun B3 v3 D3 fO mC fC eO=> ?_)
  obtain⟨bn,rfl,fW⟩:=eO
  have bE:=ap.mono (X':=L1++D3) fun b o h=>az h
  have yE:=J8 fO fC fW
  have bZ:Ext w X (L1++D3):=⟨fun c hc=>by
   rw[ao] at hc
   rcases List.mem_append.1 hc with hc|hc
   ·exact cE.new c hc
   exact .inr (Nat.le_trans mC (fC.le c hc)),fun c hc=>by rw[ao];exact cz _ (cE.all c hc)⟩
  generalize L1++D3=L3 at*
  refine ko @cW ?_
  refine Ow.callX (X:=L3) (Y:= []) (List.append_nil _).symm rfl rfl call99 (fun w' aA aZ aT=>Ki L3 G S k ⟨2,name,[],0⟩ _ w' aZ aT bE aj ⟨bn,rfl,yE⟩ (fun h=>by cases h) (fun h=>by cases h) (fc k aj)) (fun v4 D4 bD ar=> ?_)
  obtain⟨rfl,ar⟩:=ar
  have cj:=bZ.came0 bD
  rw[List.append_nil]
  refine ko @cW ?_
  refine ky @cW ?_
  refine⟨_,(ke @cW), ?_⟩
  rw[if_neg qD,hq,hf]
  simp only
  by_cases eU: (aH S).2=0
  ·rw[if_neg (by rw[eU];simp)] at ar
   rw[if_neg (by rw[eU];simp)]
   obtain⟨v5,sI⟩:=ar
   rw[hk]
   exact⟨cj,by rw[eU];rfl,setP G k v5,rfl,sI⟩
  rw[if_pos eU] at ar
  rw[if_pos eU]
  subst ar
  obtain⟨aW,aq,da⟩:=jA S
  exact⟨cj,rfl,G,rfl,bE.setDisk (aH S).1 aW aq (pP hP.ok)⟩
def OE (X:aB) (G:DkG) (S:DiskL) (dir name to:List UInt8) (w:World) (hX: ∀p,p∈X→w.heap[p.1]? =some p.2) (hn: (keys X).Nodup) (hP:DkP X G S) (gH:name.length<1099511627776) (hto:to.length<1099511627776) (fc: ∀k,k<3→(S.dir k).pend.length<1000000):
  Rets prog 202 #[vp G.bd 0,vs dir,vs name,vs to] w (XS w X (fun v D=>v=vi ((jg S dir name to).2:Nat)∧ ∃G',G'.bd=G.bd∧DkP D G' (jg S dir name to).1)):=by
 refine Rets.enterX func202 rfl (rs:= [.tmp 8]) results202 ntmps202 hX hn ?_
 refine kf ?_
 refine ky @cW ?_
 refine Ow.box rfl rfl fun b6 nB lG=> ?_
 simp only[dC,cy,dA]
 refine ko @cW ?_
 refine Ow.box rfl rfl fun b7 zk rj=> ?_
 simp only[dC,cy,dA]
 refine Ow.permL (M:=X++ [(b6,dz name)]++ [(b7,dz to)]) (List.Perm.refl _) ?_
 have mG:=hP.mono (X':=X++ [(b6,dz name)]++ [(b7,dz to)]) fun b o h=>az (az h)
 have mD:=((Ext.refl w X).app (o:=dz name) lG).app (o:=dz to) rj
 have vH:Sx.look (X++ [(b6,dz name)]++ [(b7,dz to)]) b6=some (dz name):=az (rz nB)
 have vI:Sx.look (X++ [(b6,dz name)]++ [(b7,dz to)]) b7=some (dz to):=rz zk
 generalize X++ [(b6,dz name)]++ [(b7,dz to)]=L0 at*
 have yl:=aQ (w0:=w) vH
 have nw:=aQ (w0:=w) vI
 refine ko @cW ?_
 refine ky (aN @cW (aN @yl @nw)) ?_
 refine Ow.buildSlice (e:=9) #[vs name,vs to] rfl rfl kR fun b1 aW aI=> ?_
 have ap:=mG.mono (X':=L0++ [(b1,Obj.cells #[vs name,vs to] 9 (0,0))]) fun b o h=>az h
 have cE:=mD.app (o:=Obj.cells #[vs name,vs to] 9 (0,0)) aI
 have fa: (b1,Obj.cells #[vs name,vs to] 9 (0,0))∈L0++ [(b1,Obj.cells #[vs name,vs to] 9 (0,0))]:=by simp
 have vH:=az (M:= [(b1,Obj.cells #[vs name,vs to] 9 (0,0))]) vH
 have vI:=az (M:= [(b1,Obj.cells #[vs name,vs to] 9 (0,0))]) vI
 generalize L0++ [(b1,Obj.cells #[vs name,vs to] 9 (0,0))]=L1 at*
 have yl:=aQ (w0:=w) vH
 have nw:=aQ (w0:=w) vI
 have Hc: ∀s,s∈ [name,to]→s.length<1099511627776:=by
  intro s hs
  simp only[List.mem_cons,List.not_mem_nil,or_false] at hs
  rcases hs with rfl|rfl
  ·exact gH
  exact hto
 refine ko @cW ?_
 refine Ow.callC rfl rfl call89 (fun w' aA=>Rets.toX (vl w' G S dir (vsl b1 0 2 2) [name,to] (ap.world aA) (Yu (aA.has _ _ fa)) (by simp) Hc)) (fun B2 v2 D2 ay dE be bM=> ?_)
 obtain⟨rfl,bM⟩:=bM
 rw[List.append_nil]
 clear fa ay be Hc
 unfold jg atD
 rcases bM with⟨he,rfl⟩ | ⟨he,k,hk,rfl⟩
 ·have e1:=kF he
  refine ko @cW ?_
  refine ky (aN @cW @e1) ?_
  refine⟨_,(ke @cW), ?_⟩
  rw[if_pos he]
  exact⟨cE,rfl,G,rfl,ap⟩
 have qD: ¬ (co S dir [name,to]≠0):=by rw[he];simp
 have aj:=(dT hk).1
 have eh:=aQ (w0:=w) (ap.dir k aj)
 obtain⟨os,ms,gq,gG,ij⟩:=ap.seen k aj
 have mM:=aQ (w0:=w) gq
 have e1: ((0:Int) !=0)=false:=rfl
 have hq: (bO dir).bind (fun k=>aM (S.dir k).seen name)=aM (S.dir k).seen name:=by rw[hk];rfl
 refine ko @cW ?_
 refine ky (aN @cW @e1) ?_
 refine Cw.regionS [G.d k,b6] [0,1,2,3,4,5,6,7] [] kR kR kR ?_
 simp only[ai, ↓ah, ↓ab, ↓ag, ↓ae,ac]
 refine kq (aN @cW (aN @eh @yl)) ?_
 refine Ow.soft rfl rfl rfl ?_
 refine Ow.mapGetG (encK:=vs) (encV:=bC) (k:=name) (z:=none) rfl rfl underlying77 ju zrPf rfl rfl mM gG ?_
 with_reducible refine Ow.nil ?_
 refine⟨by intro b hb;simp only[List.mem_cons,List.not_mem_nil,or_false] at hb;(try subst hb);rfl, ?_⟩
 rw[ij.get (hP.ok.seen k aj).nodup]
 show Ow _ _ _ _ _ _ _ _
 cases hf:aM (S.dir k).seen name with
 |none=>
  have gr:bC none= .pointer none:=rfl
  refine kq (aN @cW @gr) ?_
  try with_reducible refine Ow.nil ?_
  refine ky @cW ?_
  refine⟨_,(ke @cW), ?_⟩
  rw[if_neg qD,hq,hf]
  exact⟨cE,rfl,G,rfl,ap⟩
 |some n=>
  have hp: ∀q:Nat,bC (some q)=vp q 0:=fun _=>rfl
  have uz:G.bd∈keys L1:=bY ap.disk
  obtain⟨aW,aq,da⟩:=jA S
  refine kq (aN @cW @hp) ?_
  try with_reducible refine Ow.nil ?_
  cases uI: (name==to) with
  |true=>
   have uJ:name=to:=eq_of_beq uI
   refine ky (aN @cW (aN @yl (aN @nw @uI))) ?_
   refine Ow.callM rfl rfl call96 uz (fun w' aA=>IM G.bd G.bm S w' hP.ok.fuse (aA.has _ _ (cQ ap.disk))) ?_
   have bE:=ap.setDisk (aH S).1 aW aq (pP hP.ok)
   have bZ:=cE.setB (b:=G.bd) (o:=bl G.bm (aH S).1)
   generalize setB L1 G.bd (bl G.bm (aH S).1)=L2 at*
   refine ko @cW ?_
   refine ky @cW ?_
   refine⟨_,(ke @cW), ?_⟩
   rw[if_neg qD,hq,hf]
   simp only
   rw[if_pos uJ]
   exact⟨bZ,rfl,G,rfl,bE⟩
  |false=>
   have uJ:name≠to:=fun e=>by rw[e] at uI;simp at uI
   refine ky (aN @cW (aN @yl (aN @nw @uI))) ?_
   simp only[List.map_toArray,List.map_cons,List.map_nil,dC,cy,dA]
   refine Ow.callX (X:=L1) (Y:= []) (List.append_nil _).symm rfl rfl call99 (fun w' aA aZ aT=>Ki L1 G S k ⟨1,name,to,0⟩ (.func (.func 218) #[] #[vp b6 0,vp b7 0]) w' aZ aT ap aj ⟨b6,b7,rfl,vH,vI⟩ (fun _=>⟨by rw[hf];simp,uJ⟩) (fun h=>by cases h) (fc k aj)) (fun v4 D4 bD ar=> ?_)
   obtain⟨rfl,ar⟩:=ar
   have cj:=cE.came0 bD
   rw[List.append_nil]
   refine ko @cW ?_
   refine ky @cW ?_
   refine⟨_,(ke @cW), ?_⟩
   rw[if_neg qD,hq,hf]
   simp only
   rw[if_neg uJ]
   by_cases eU: (aH S).2=0
   ·rw[if_neg (by rw[eU];simp)] at ar
    rw[if_neg (by rw[eU];simp)]
    obtain⟨v5,sI⟩:=ar
    rw[hk]
    exact⟨cj,by rw[eU];rfl,setP G k v5,rfl,sI⟩
   rw[if_pos eU] at ar
   rw[if_pos eU]
   subst ar
   exact⟨cj,rfl,G,rfl,ap.setDisk (aH S).1 aW aq (pP hP.ok)⟩
structure CpG where
 L:aB
 it:Obj
 o:Obj
 dn:List (List UInt8×Option Nat)
 lf:List (List UInt8×Option Nat)
theorem LL {α β:Type} [BEq α] [LawfulBEq α] {k:α} {v:β}: ∀ {m:List (α×β)},(∀p,p∈m→p.1≠k)→updG k v m=m++ [(k,v)]
 | [],_=>rfl
 |p::r,h=>by
  have h1: (k==p.1)=false:=beq_eq_false_iff_ne.2 fun e=>h p am e.symm
  unfold updG
  rw[if_neg (by rw[h1];simp),LL fun q hq=>h q (cN _ hq)];rfl
def pZ:=aN (aN (aN @av @au) (aN @Sx.tup2_0 @Sx.tup2_1)) (aN (aN @uj @Sx.tup3_0) (aN @Sx.tup3_1 @Sx.tup3_2))
def Rj (X:aB) (bt bs:Nat) (ot os:Obj) (m:List (List UInt8×Option Nat)) (w:World) (hX: ∀p,p∈X→w.heap[p.1]? =some p.2) (hn: (keys X).Nodup)
  (ht:Sx.look X bt=some ot) (lx:e_ vs bC ot ([]:List (List UInt8×Option Nat))) (hs:Sx.look X bs=some os) (gG:e_ vs bC os m) (aX:bt≠bs) (bA: (m.map Prod.fst).Nodup):
  Rets prog 69 #[vm bt,vm bs] w (XS w X (fun v D=>v=cM []∧(∀b o,b≠bt→Sx.look X b=some o→Sx.look D b=some o)∧ ∃o' m',Sx.look D bt=some o'∧e_ vs bC o' m'∧m'.Perm m)):=by
 refine Rets.enterX func69 rfl (rs:= []) results69 ntmps69 hX hn ?_
 refine kf ?_
 refine ky @pZ ?_
 refine Ow.rangeMapG (encK:=vs) (encV:=bC) rfl rfl underlying77 rfl (aQ hs) gG fun bi oi H4 je hI=> ?_
 have yB: ∀b o,Sx.look X b=some o→b≠bi:=fun b o hb e=>by
  have:=ak H4 (bY hb)
  omega
 refine ko @pZ ?_
 refine ky @pZ ?_
 refine Cw.loopG (G:=CpG) [8,9,10,11,12,4,5,13,14,15] (fun g=> []) (fun g=>g.L) (fun g=>Sx.look g.L bi=some g.it∧Sx.look g.L bt=some g.o∧e_ vs bC g.o g.dn∧(∀b o,b≠bt→Sx.look X b=some o→Sx.look g.L b=some o)∧Ext w X g.L∧ItG vs bC g.it bs os m g.dn g.lf) (fun g=>g.lf.length) ⟨X++ [(bi,oi)],oi,ot,[],m⟩ rfl rfl ?_ ?_
 ·exact⟨rz H4,az ht,lx,fun b o _ hb=>az hb,(Ext.refl w X).app je,hI⟩
 intro g j hg
 refine kv ?_
 clear hI
 obtain⟨L,it,o,dn,lf⟩:=g
 simp only at hg ⊢
 obtain⟨hli,aC,nv,gZ,hE,hI⟩:=hg
 have Jv:=gZ bs os (Ne.symm aX) hs
 have cY:bt≠bi:=yB _ _ ht
 have hsi:bs≠bi:=yB _ _ hs
 refine ky @pZ ?_
 refine Ow.nextMapG rfl rfl rfl hli (aQ Jv) hI (fun mJ=> ?_) (fun p it' lf' lw n2=> ?_)
 ·subst mJ
  have hp:=vg hI
  rw[List.append_nil] at hp
  refine ko @pZ ?_
  refine ky @pZ ?_
  refine⟨_,(ke @pZ), ?_⟩
  exact⟨hE,rfl,gZ,o,dn,aC,nv,hp⟩
 have h1:Sx.look (setB L bi it') bi=some it':=dp hli
 have h2:Sx.look (setB L bi it') bt=some o:=by rw[bR (Ne.symm cY)];exact aC
 have h3:Sx.look (setB L bi it') bs=some os:=by rw[bR (Ne.symm hsi)];exact Jv
 have h4: ∀b o,b≠bt→Sx.look X b=some o→Sx.look (setB L bi it') b=some o:=fun b o hb hx=>by rw[bR (Ne.symm (yB _ _ hx))];exact gZ b o hb hx
 have cE:=hE.setB (b:=bi) (o:=it')
 generalize setB L bi it'=L1 at*
 refine ko @pZ ?_
 refine ky @pZ ?_
 refine Ow.entryMapG (encK:=vs) (encV:=bC) rfl rfl rfl (aQ h1) (aQ h3) n2 ?_
 obtain⟨s,q⟩:=p
 have hp:=vg n2
 have Jn: ∀p,p∈dn→p.1≠s:=by
  have h5:=((hp.map Prod.fst).nodup_iff).2 bA
  rw[List.map_append,List.map_append,List.nodup_append] at h5
  have h6:=h5.1
  rw[List.nodup_append] at h6
  intro p uQ e
  exact h6.2.2 p.1 (List.mem_map_of_mem uQ) s (by simp) e
 refine ko @pZ ?_
 refine ky @pZ ?_
 refine Ow.mapUpdateG (encK:=vs) (encV:=bC) (k:=s) (v:=q) rfl rfl underlying77 ju rfl rfl rfl h2 nv (fun o2 nu=> ?_)
 rw[LL Jn] at nu
 refine ko @pZ ?_
 refine ky @pZ ?_
 exact Again.mk ⟨setB L1 bt o2,it',o2,dn++ [(s,q)],lf'⟩ (by show lf'.length<lf.length;omega) ⟨by show Sx.look (setB L1 bt o2) bi=_;rw[bR cY];exact h1,dp h2,nu,fun b o hb hx=>by show Sx.look (setB L1 bt o2) b=_;rw[bR (Ne.symm hb)];exact h4 b o hb hx,cE.setB,n2⟩ rfl rfl
def qr (G:DkG) (k s':Nat):DkG:={G with s:=fun j=>if j=k then s' else G.s j,p:=fun j=>if j=k then .slice none 0 0 else G.p j}
def DkP.calm {X L:aB} {G:DkG} {S:DiskL} (h:DkP X G S) {k:Nat} (hk:k<3) {s':Nat} (d:DirL) (zn:d.pend= [])
  (keep: ∀b o,Sx.look X b=some o→b≠G.t k→b≠G.d k→Sx.look L b=some o) (hs:NmM L G.fb s' d.seen) (ht:NmM L G.fb (G.t k) d.stl)
  (hd:Sx.look L (G.d k)=some (d7 s' (G.t k) (.slice none 0 0))) (dk:s'=G.s k∨s'∉keys X) (h1:SrtN d.seen) (h2:SrtN d.stl) (h3: ∀p,p∈d.seen→p.2<S.files.length) (h4: ∀p,p∈d.stl→p.2<S.files.length):
  DkP L (qr G k s') (dY S k d):=by
 obtain⟨otk,mtk,hotk,hmtk,-⟩:=h.stl k hk
 have uI: ∀b o,Sx.look X b=some o→tyO o≠none→b≠G.t k:=by
  rintro b o hb ht rfl
  rw[hotk] at hb;cases hb;exact ht (kG hmtk)
 have bA: ∀b o,Sx.look X b=some o→tyO o≠some 80→b≠G.d k:=by
  rintro b o hb ht rfl
  rw[h.dir k hk] at hb;cases hb;exact ht rfl
 have K: ∀b o,Sx.look X b=some o→tyO o≠none→tyO o≠some 80→Sx.look L b=some o:=fun b o hb h1 h2=>keep b o hb (uI b o hb h1) (bA b o hb h2)
 have KM: ∀b o,Sx.look X b=some o→tyO o=none→b≠G.t k→Sx.look L b=some o:=fun b o hb h1 h2=>keep b o hb h2 (bA b o hb (by rw[h1];intro e;cases e))
 have KF: ∀ {w c},FnP X G.fb w c→FnP L G.fb w c:=fun hw=>hw.keep fun b o hb hx=>K b o hb (by rcases hx with⟨s,rfl⟩ | ⟨a,rfl⟩<;>simp[tyO,dz,ptrO]) (by rcases hx with⟨s,rfl⟩ | ⟨a,rfl⟩<;>simp[tyO,dz,ptrO])
 have qI: ∀j,j<3→j≠k→s'≠G.s j:=fun j hj qE=>by
  rcases dk with e|e
  ·rw[e];exact(qS h.nodm hk hj).1 (Ne.symm qE)
  obtain⟨o,m,ho,-⟩:=h.seen j hj
  rintro rfl;exact e (bY ho)
 have eA: ∀j,j<3→s'≠G.t j:=fun j hj=>by
  rcases dk with e|e
  ·rw[e];exact(qS h.nodm hk hj).2.2
  obtain⟨o,m,ho,-⟩:=h.stl j hj
  rintro rfl;exact e (bY ho)
 have hs3:G.bm≠s':=by
  rcases dk with e|e
  ·rw[e];exact(h.nodb k hk).1
  obtain⟨o,ho,-⟩:=h.dirs
  rintro rfl;exact e (bY ho)
 refine⟨?_, ?_, ?_, ?_, ?_, ?_, ?_,h.len,h.nodf, ?_,h.nodd, ?_, ?_, ?_⟩
 ·exact K _ _ h.disk (by simp[tyO,bl]) (by simp[tyO,bl])
 ·obtain⟨o,h1,h2⟩:=h.dirs
  exact⟨o,KM _ _ h1 (kG h2) (h.nodb k hk).2,h2⟩
 ·intro j hj
  show Sx.look L (G.d j)=some (d7 (if j=k then s' else G.s j) (G.t j) (if j=k then .slice none 0 0 else G.p j))
  by_cases e:j=k
  ·subst e;rw[if_pos rfl,if_pos rfl];exact hd
  rw[if_neg e,if_neg e]
  exact keep _ _ (h.dir j hj) (uI _ _ (h.dir j hj) (by simp[tyO,d7])) (GE h.nodd hj hk e)
 ·intro j hj
  show NmM L G.fb (if j=k then s' else G.s j) (if j=k then d else S.dir j).seen
  by_cases e:j=k
  ·subst e;rw[if_pos rfl,if_pos rfl];exact hs
  rw[if_neg e,if_neg e]
  obtain⟨o,m,h1,h2,h3⟩:=h.seen j hj
  exact⟨o,m,KM _ _ h1 (kG h2) (qS h.nodm hj hk).2.2,h2,h3⟩
 ·intro j hj
  show NmM L G.fb (G.t j) (if j=k then d else S.dir j).stl
  by_cases e:j=k
  ·subst e;rw[if_pos rfl];exact ht
  rw[if_neg e]
  obtain⟨o,m,h1,h2,h3⟩:=h.stl j hj
  exact⟨o,m,KM _ _ h1 (kG h2) ((qS h.nodm hj hk).2.1 e),h2,h3⟩
 ·intro j hj
  by_cases e:j=k
  ·subst e
   refine⟨[], ?_, ?_,fun i hi=>absurd hi (Nat.not_lt_zero _)⟩
   ·show 0=(if j=j then d else S.dir j:DirL).pend.length
    rw[if_pos rfl,zn];rfl
   show Gr L _ 1 (if j=j then .slice none 0 0 else G.p j) 0 []
   rw[if_pos rfl];exact Gr.nl
  obtain⟨vj,h1,h2,h3⟩:=h.pend j hj
  refine⟨vj, ?_, ?_, ?_⟩
  ·show vj.length=(if j=k then _ else S.dir j:DirL).pend.length
   rw[if_neg e];exact h1
  ·show Gr L _ 1 (if j=k then .slice none 0 0 else G.p j) vj.length vj
   rw[if_neg e]
   refine h2.keep fun b o hb ho=> ?_
   obtain⟨arr,ha⟩:=jD h2 hb
   rw[ho] at ha;cases ha
   exact K _ _ ho (by simp[tyO]) (by simp[tyO])
  intro i hi
  show FnP L G.fb (vj.getD i undef) ((if j=k then _ else S.dir j:DirL).pend.getD i l9)
  rw[if_neg e]
  exact KF (h3 i hi)
 ·intro n hn
  exact K _ _ (h.file n hn) (by simp[tyO,dH]) (by simp[tyO,dH])
 ·have hn:=h.nodm
  have dQ:k=0∨k=1∨k=2:=by omega
  rcases dQ with rfl|rfl|rfl
  ·show [s',G.s 1,G.s 2,G.t 0,G.t 1,G.t 2].Nodup
   exact List.nodup_cons.2 ⟨by simp only[List.mem_cons,List.not_mem_nil,or_false,not_or];exact⟨qI 1 oM oM,qI 2 oM oM,eA 0 oM,eA 1 oM,eA 2 oM⟩,(List.nodup_cons.1 hn).2⟩
  ·show [G.s 0,s',G.s 2,G.t 0,G.t 1,G.t 2].Nodup
   refine(List.Perm.swap (G.s 0) s' _).nodup_iff.1 ?_
   exact List.nodup_cons.2 ⟨by simp only[List.mem_cons,List.not_mem_nil,or_false,not_or];exact⟨qI 0 oM oM,qI 2 oM oM,eA 0 oM,eA 1 oM,eA 2 oM⟩,(List.nodup_cons.1 ((List.Perm.swap (G.s 0) (G.s 1) _).nodup_iff.2 hn)).2⟩
  show [G.s 0,G.s 1,s',G.t 0,G.t 1,G.t 2].Nodup
  have hp: ∀x:Nat,(x:: [G.s 0,G.s 1,G.t 0,G.t 1,G.t 2]).Perm [G.s 0,G.s 1,x,G.t 0,G.t 1,G.t 2]:=fun x=>((List.perm_middle (l₁:= [G.s 0,G.s 1]) (a:=x) (l₂:= [G.t 0,G.t 1,G.t 2]))).symm
  refine(hp s').nodup_iff.1 ?_
  exact List.nodup_cons.2 ⟨by simp only[List.mem_cons,List.not_mem_nil,or_false,not_or];exact⟨qI 0 oM oM,qI 1 oM oM,eA 0 oM,eA 1 oM,eA 2 oM⟩,(List.nodup_cons.1 ((hp (G.s 2)).nodup_iff.2 hn)).2⟩
 ·intro j hj
  show G.bm≠ (if j=k then s' else G.s j)∧G.bm≠G.t j
  by_cases e:j=k
  ·rw[if_pos e];exact⟨hs3,(h.nodb j hj).2⟩
  rw[if_neg e];exact h.nodb j hj
 ·intro i j hi hj mI b hb
  show slB (if j=k then .slice none 0 0 else G.p j)≠some b
  have dO:slB (if i=k then .slice none 0 0 else G.p i)=some b:=hb
  by_cases ei:i=k
  ·rw[if_pos ei] at dO;cases dO
  rw[if_neg ei] at dO
  by_cases ej:j=k
  ·rw[if_pos ej];intro e;cases e
  rw[if_neg ej];exact h.nodp i j hi hj mI b dO
 exact AJ h.ok _ h1 h2 h3 h4 (fun c hc=>by rw[zn] at hc;cases hc)
def mr:=aN (aN (aN @av @au) (aN @nU @pO)) (aN (aN @pK @pL) (aN @Sx.tup2_0 @Sx.tup2_1))
def mh (S:DiskL) (k:Nat):DiskL:=dY S k ⟨(S.dir k).seen,(S.dir k).seen,[]⟩
def VG_ (X:aB) (G:DkG) (S:DiskL) (k:Nat) (w:World) (hX: ∀p,p∈X→w.heap[p.1]? =some p.2) (hn: (keys X).Nodup) (hP:DkP X G S) (hk:k<3):
  Rets prog 35 #[vp (G.d k) 0] w (XS w X (fun v D=>v=cM []∧DkP D (qr G k (G.s k)) (mh S k)∧ ∀b o,Sx.look X b=some o→b≠G.t k→b≠G.d k→Sx.look D b=some o)):=by
 obtain⟨ot,mt,sT,lx,uI⟩:=hP.stl k hk
 obtain⟨os,ms,gq,gG,dj⟩:=hP.seen k hk
 have jW:=hP.dir k hk
 have bK:G.s k≠G.t k:=(qS hP.nodm hk hk).2.2
 have gH: ∀ {b:Nat} {o:Obj} {m:List (List UInt8×Option Nat)},Sx.look X b=some o→e_ vs bC o m→G.d k≠b:=by
  rintro b o m hb hm rfl
  rw[jW] at hb;cases hb
  obtain⟨es,cl,h,-⟩:=hm;cases h
 have sM:=gH sT lx
 refine Rets.enterX func35 rfl (rs:= []) results35 ntmps35 hX hn ?_
 refine kf ?_
 ((try with_reducible refine Cw.go [] ?_);(try simp(disch:=first|exact dD|fail) only[↓Sx.S0,Sx.S1,fx,mr,Nat.reduceAdd,Nat.reducePow,Int.reducePow,Nat.reduceBEq, ↓reduceIte,UInt8.reduceToNat,UInt16.reduceToNat,UInt32.reduceToNat,UInt64.reduceToNat,Int.reduceToNat,(aQ (w0:=w) jW)]))
 refine Ow.mapClearG (encK:=vs) (encV:=bC) rfl rfl underlying77 rfl sT lx (fun o1 fa=> ?_)
 have hO:Only X (setB X (G.t k) o1) (G.t k) o1:=Only.set sT
 have cE:=(Ext.refl w X).setB (b:=G.t k) (o:=o1)
 generalize setB X (G.t k) o1=L1 at*
 have HF:Sx.look L1 (G.d k)=some (d7 (G.s k) (G.t k) (G.p k)):=(hO.rest _ sM).trans jW
 have Hh:Sx.look L1 (G.s k)=some os:=(hO.rest _ bK).trans gq
 have rY:=aQ (w0:=w) HF
 refine ko @mr ?_
 refine ky @mr ?_
 refine Cw.regionS [G.d k] [0,1,2,4,5,6,3,7,8] [] kR kR kR ?_
 simp only[ai, ↓ah, ↓ab, ↓ag, ↓ae,ac]
 refine kq (aN @mr @rY) ?_
 refine Ow.soft rfl rfl rfl ?_
 refine Ow.callX (X:=L1) (Y:= []) (List.append_nil _).symm rfl rfl call69 (fun w' aA aZ aT=>Rj L1 (G.t k) (G.s k) o1 os ms w' aZ aT hO.at_ fa Hh gG (Ne.symm bK) (dj.keys (hP.ok.seen k hk).nodup)) (fun v4 D4 bD ar=> ?_)
 obtain⟨rfl,vG,o2,m2,gp,nu,k9⟩:=ar
 have bZ:=cE.came0 bD
 rw[List.append_nil]
 have gj:=vG _ _ sM HF
 have nP:=aQ (w0:=w) gj
 with_reducible refine Ow.nil ?_
 refine⟨fun b hb=>by rw[List.mem_singleton] at hb;subst hb;rw[rY,nP], ?_⟩
 refine kq @mr ?_
 try with_reducible refine Ow.nil ?_
 have st:=fun x=>Kl (G.s k) (G.t k) (G.p k) (.slice none 0 0) x ⟨rfl,rfl⟩
 refine ky (aN @mr (aN @gj @st)) ?_
 refine⟨_,(ke @mr), ?_⟩
 have gZ: ∀b o,Sx.look X b=some o→b≠G.t k→b≠G.d k→Sx.look (setB D4 (G.d k) (d7 (G.s k) (G.t k) (.slice none 0 0))) b=some o:=fun b o hb h1 h2=>by
  rw[bR (Ne.symm h2)]
  exact vG _ _ h1 ((hO.rest _ h1).trans hb)
 refine⟨bZ.setB,rfl, ?_,gZ⟩
 have uP:=vG _ _ bK Hh
 refine hP.calm hk ⟨(S.dir k).seen,(S.dir k).seen,[]⟩ rfl gZ ⟨os,ms, ?_,gG,dj⟩ ⟨o2,m2, ?_,nu,k9.trans dj⟩ (dp gj) (.inl rfl) (hP.ok.seen k hk) (hP.ok.seen k hk) (hP.ok.seenN k hk) (hP.ok.seenN k hk)
 ·rw[bR (gH gq gG)];exact uP
 rw[bR sM];exact gp
def eZ (S:DiskL) (dir:List UInt8):DiskL×Nat:=
 if co S dir []≠0 then(S,co S dir []) else if(aH S).2≠0 then aH S else(mh (aH S).1 ((bO dir).getD 0),0)
def oC:=aN (aN (aN @av @au) (aN @nU @pO)) (aN (aN @pK @pL) (aN @Sx.tup2_0 @Sx.tup2_1))
def J8_ (X:aB) (G:DkG) (S:DiskL) (dir:List UInt8) (w:World) (hX: ∀p,p∈X→w.heap[p.1]? =some p.2) (hn: (keys X).Nodup) (hP:DkP X G S):
  Rets prog 54 #[vp G.bd 0,vs dir] w (XS w X (fun v D=>v=vi ((eZ S dir).2:Nat)∧ ∃G',G'.bd=G.bd∧DkP D G' (eZ S dir).1)):=by
 refine Rets.enterX func54 rfl (rs:= [.tmp 4]) results54 ntmps54 hX hn ?_
 refine kf ?_
 refine ky @oC ?_
 refine Ow.callC rfl rfl call89 (fun w' aA=>Rets.toX (vl w' G S dir (.slice none 0 0) [] (hP.world aA) (SlV.nil w') (by simp) (fun s hs=>by cases hs))) (fun B2 v2 D2 ay dE be bM=> ?_)
 obtain⟨rfl,bM⟩:=bM
 rw[List.append_nil]
 unfold eZ
 rcases bM with⟨he,rfl⟩ | ⟨he,k,hk,rfl⟩
 ·have e1:=kF he
  refine ko @oC ?_
  refine ky (aN @oC @e1) ?_
  refine⟨_,(ke @oC), ?_⟩
  rw[if_pos he]
  exact⟨Ext.refl w X,rfl,G,rfl,hP⟩
 have qD: ¬ (co S dir []≠0):=by rw[he];simp
 have aj:=(dT hk).1
 have e1: ((0:Int) !=0)=false:=rfl
 obtain⟨aW,aq,da⟩:=jA S
 refine ko @oC ?_
 refine ky (aN @oC @e1) ?_
 refine Ow.callM rfl rfl call96 (bY hP.disk) (fun w' aA=>IM G.bd G.bm S w' hP.ok.fuse (aA.has _ _ (cQ hP.disk))) ?_
 have bE:=hP.setDisk (aH S).1 aW aq (pP hP.ok)
 have bZ:=(Ext.refl w X).setB (b:=G.bd) (o:=bl G.bm (aH S).1)
 generalize setB X G.bd (bl G.bm (aH S).1)=L2 at*
 by_cases fW: (aH S).2=0
 ·have e2: (((aH S).2:Int) !=0)=false:=by rw[fW];rfl
  refine ko (aN @oC @e2) ?_
  refine ky @oC ?_
  refine Ow.callX (X:=L2) (Y:= []) (List.append_nil _).symm rfl rfl call35 (fun w' aA aZ aT=>VG_ L2 G (aH S).1 k w' aZ aT bE aj) (fun v4 D4 bD ar=> ?_)
  obtain⟨rfl,ar,-⟩:=ar
  have cj:=bZ.came0 bD
  rw[List.append_nil]
  refine ko @oC ?_
  refine ky @oC ?_
  refine⟨_,(ke @oC), ?_⟩
  rw[if_neg qD,if_neg (by rw[fW];simp),hk]
  exact⟨cj,rfl,qr G k (G.s k),rfl,ar⟩
 have e2:=kF fW
 refine ko (aN @oC @e2) ?_
 refine ky @oC ?_
 refine⟨_,(ke @oC), ?_⟩
 rw[if_neg qD,if_pos fW]
 exact⟨bZ,rfl,G,rfl,bE⟩
def lU (w:World):Prop:= ∃e fz,w.heap[0]? =some (.cells #[vs aD,vs lN,vs refD] e fz)
def dI (quota:Int):DiskL:=⟨fun _=>⟨[],[],[]⟩,[],quota,0,false,false⟩
def TH (b:Nat) (q:Int):dl (cC prog 72) (an prog 72) [(0,vm b),(1,vi q)]=some (.agg #[vm b,vi q,vi 0, .bool false, .bool false]):=by
 rw[show cC prog 72=some [(0,1),(1,1),(2,1),(3,1),(4,1)] from id kR,show an prog 72=some (.agg #[.map none,vi 0,vi 0, .bool false, .bool false]) from id kR];rfl
def Tm (a b:Nat):dl (cC prog 80) (an prog 80) [(0,vm a),(1,vm b)]=some (.agg #[vm a,vm b, .slice none 0 0]):=by
 rw[show cC prog 80=some [(0,1),(1,1),(2,1)] from id kR,show an prog 80=some (.agg #[.map none, .map none, .slice none 0 0]) from id kR];rfl
def KI (e:TypeId) (fz:Nat×Nat):aG (some (true,3)) (some (.cells #[vs aD,vs lN,vs refD] e fz)) 0=some (.agg #[vs aD,vs lN,vs refD]):=rx _ e fz 3 rfl
def JH {k:Nat} (hk:k<3):qV (.arr 3 (false,1)) (.agg #[vs aD,vs lN,vs refD]) (some (k:Int))=some (vs (cB k)):=by
 have:k=0∨k=1∨k=2:=by omega
 rcases this with rfl|rfl|rfl<;>rfl
def un (d:Nat→Nat):Nat→List (List UInt8×Option Nat)
 |0=> []
 |k+1=>un d k++ [(cB k,some (d k))]
theorem Wa_ {d d':Nat→Nat}: ∀ {k:Nat},(∀j,j<k→d' j=d j)→un d' k=un d k
 |0,_=>rfl
 |k+1,h=>by
  unfold un
  rw[Wa_ fun j hj=>h j oM,h k oM]
theorem EV {d:Nat→Nat} {j:Nat} (hj:j<3): ∀ {k:Nat},k≤j→ ∀p,p∈un d k→p.1≠cB j
 |0,_,_,hp=>by cases hp
 |k+1,hk,p,hp=>by
  rcases List.mem_append.1 hp with hp|hp
  ·exact EV hj oM p hp
  rw[List.mem_singleton.1 hp]
  intro e
  have h1:=qK (k:=k) oM
  have h2:=qK hj
  have e':cB k=cB j:=e
  rw[e',h2] at h1
  cases h1;omega
structure NwG where
 L:aB
 o:Obj
 k:Nat
 d:Nat→Nat
 s:Nat→Nat
 t:Nat→Nat
def mtM (L:aB) (b:Nat):Prop:= ∃o,Sx.look L b=some o∧e_ vs bC o ([]:List (List UInt8×Option Nat))
def oA:=aN (aN @av (aN @au @nU)) (aN @pO (aN @pK @pL))
def CW (quota:Int) (w:World) (hq: -9223372036854775808≤quota∧quota<9223372036854775808) (hG:lU w):
  Rets prog 30 #[vi quota] w (XS w [] (fun v D=> ∃G,v=vp G.bd 0∧DkP D G (dI quota))):=by
 obtain⟨e,fz,hg⟩:=hG
 refine Rets.enterX func30 rfl (rs:= [.tmp 2]) results30 ntmps30 (fun p hp=>by cases hp) (by simp[keys]) ?_
 refine kf ?_
 refine ky @oA ?_
 refine Ow.makeMapG (encK:=vs) (encV:=bC) rfl rfl (fun bm om yD hwm hM=> ?_)
 rw[List.nil_append]
 refine ko @oA ?_
 refine Ow.build (.agg #[vm bm,vi quota,vi 0, .bool false, .bool false]) rfl (TH bm quota) ?_
 refine ko @oA ?_
 refine Ow.box rfl rfl fun bd bP vV=> ?_
 simp only[dC,cy,dA,aS]
 have rQ:bm<bd:=ak bP (by simp[keys])
 refine Ow.permL (M:= [(bm,om)]++ [(bd,bl bm (dI quota))]) (List.Perm.refl _) ?_
 have h0:Sx.look ([(bm,om)]++ [(bd,bl bm (dI quota))]) bm=some om:=by simp[Sx.look]
 have h1:Sx.look ([(bm,om)]++ [(bd,bl bm (dI quota))]) bd=some (bl bm (dI quota)):=rz bP
 have hN:New w.heap.size ([(bm,om)]++ [(bd,bl bm (dI quota))]):=⟨hwm,vV,trivial⟩
 generalize [(bm,om)]++ [(bd,bl bm (dI quota))]=L0 at*
 have hg0:=(Array.getElem?_eq_some_iff.1 hg).1
 have hrg:aU w L0 0=some (.cells #[vs aD,vs lN,vs refD] e fz):=by rw[jn (hN.not hg0)];exact hg
 refine ko @oA ?_
 refine ky (aN @oA (aN @hrg @KI)) ?_
 refine Cw.loopG (G:=NwG) [12,13,5,14,15,16,17,18,19,20,21,22,23,11] (fun g=> [(11,vi g.k)]) (fun g=>g.L) (fun g=>g.k≤3∧Sx.look g.L bm=some g.o∧e_ vs bC g.o (un g.d g.k)∧Sx.look g.L bd=some (bl bm (dI quota))∧New w.heap.size g.L∧ ∀j,j<g.k→Sx.look g.L (g.d j)=some (d7 (g.s j) (g.t j) (.slice none 0 0))∧mtM g.L (g.s j)∧mtM g.L (g.t j)∧g.s j<g.t j∧g.t j<g.d j∧bd<g.s j∧ ∀i,i<j→g.d i<g.s j) (fun g=>3 - g.k) ⟨L0,om,0,fun _=>0,fun _=>0,fun _=>0⟩ rfl rfl ?_ ?_
 ·exact⟨aV _,h0,hM,h1,hN,fun j hj=>absurd hj (Nat.not_lt_zero _)⟩
 intro g j hg
 refine kv ?_
 clear h0 hM h1 hN hrg
 obtain⟨L,o,k,d,s,t⟩:=g
 simp only at hg ⊢
 obtain⟨hk,eE,hM,vJ,hN,gh⟩:=hg
 by_cases aC:k<3
 ·have d1:decide ((k:Int)<3)=true:=aK oM
  have ixk:=JH aC
  have rdd:=aQ (w0:=w) vJ
  refine ky (aN @oA (aN @d1 (aN @ixk @rdd))) ?_
  refine Ow.makeMapG (encK:=vs) (encV:=bC) rfl rfl (fun bs os kb hws hMs=> ?_)
  refine ko @oA ?_
  refine Ow.makeMapG (encK:=vs) (encV:=bC) rfl rfl (fun bt ot o_ hwt hMt=> ?_)
  refine ko @oA ?_
  refine Ow.build (.agg #[vm bs,vm bt, .slice none 0 0]) rfl (Tm bs bt) ?_
  refine ko @oA ?_
  refine Ow.box rfl rfl fun br nn mO=> ?_
  simp only[dC,cy,dA,aS]
  refine Ow.permL (M:=L++ [(bs,os)]++ [(bt,ot)]++ [(br,d7 bs bt (.slice none 0 0))]) (List.Perm.refl _) ?_
  have up: ∀b x,Sx.look L b=some x→Sx.look (L++ [(bs,os)]++ [(bt,ot)]++ [(br,d7 bs bt (.slice none 0 0))]) b=some x:=fun b x h=>az (az (az h))
  have ls:Sx.look (L++ [(bs,os)]++ [(bt,ot)]++ [(br,d7 bs bt (.slice none 0 0))]) bs=some os:=az (az (rz kb))
  have lt:Sx.look (L++ [(bs,os)]++ [(bt,ot)]++ [(br,d7 bs bt (.slice none 0 0))]) bt=some ot:=az (rz o_)
  have lr:Sx.look (L++ [(bs,os)]++ [(bt,ot)]++ [(br,d7 bs bt (.slice none 0 0))]) br=some (d7 bs bt (.slice none 0 0)):=rz nn
  have cR:New w.heap.size (L++ [(bs,os)]++ [(bt,ot)]++ [(br,d7 bs bt (.slice none 0 0))]):=((hN.app (show New w.heap.size [(bs,os)] from⟨hws,trivial⟩)).app (show New w.heap.size [(bt,ot)] from⟨hwt,trivial⟩)).app (show New w.heap.size [(br,d7 bs bt (.slice none 0 0))] from⟨mO,trivial⟩)
  have c1:bs<bt:=ak o_ (by rw[ao];simp[keys])
  have c2:bt<br:=ak nn (by rw[ao];simp[keys])
  have c3:bd<bs:=ak kb (bY vJ)
  have c4: ∀j,j<k→d j<bs:=fun j hj=>ak kb (bY (gh j hj).1)
  have c5:bm<bs:=ak kb (bY eE)
  generalize L++ [(bs,os)]++ [(bt,ot)]++ [(br,d7 bs bt (.slice none 0 0))]=L1 at*
  refine ko @oA ?_
  refine Ow.mapUpdateG (encK:=vs) (encV:=bC) (k:=cB k) (v:=some br) rfl rfl underlying70 ju rfl rfl rfl (up _ _ eE) hM (fun o2 nu=> ?_)
  rw[LL (EV aC (bq _))] at nu
  have ne: ∀b x,b≠bm→Sx.look L1 b=some x→Sx.look (setB L1 bm o2) b=some x:=fun b x h1 h2=>by rw[bR (Ne.symm h1)];exact h2
  refine ko @oA ?_
  refine ky @oA ?_
  refine Again.mk ⟨setB L1 bm o2,o2,k+1,fun j=>if j=k then br else d j,fun j=>if j=k then bs else s j,fun j=>if j=k then bt else t j⟩ (by show 3 - (k+1)<3 - k;omega) ⟨aC,dp (up _ _ eE), ?_,ne _ _ oM (up _ _ vJ),New.of_le fun q hq=>cR.le q (by rwa [l5] at hq),fun j hj=> ?_⟩ rfl rfl
  ·show e_ vs bC o2 (un (fun j=>if j=k then br else d j) (k+1))
   unfold un
   rw[Wa_ (d:=d) fun j hj=>if_neg oM,if_pos rfl]
   exact nu
  show Sx.look (setB L1 bm o2) (if j=k then br else d j)=some (d7 (if j=k then bs else s j) (if j=k then bt else t j) (.slice none 0 0))∧mtM (setB L1 bm o2) (if j=k then bs else s j)∧mtM (setB L1 bm o2) (if j=k then bt else t j)∧(if j=k then bs else s j)< (if j=k then bt else t j)∧(if j=k then bt else t j)< (if j=k then br else d j)∧bd< (if j=k then bs else s j)∧ ∀i,i<j→(if i=k then br else d i)< (if j=k then bs else s j)
  by_cases e:j=k
  ·subst e
   simp only[if_pos]
   refine⟨ne _ _ oM lr,⟨os,ne _ _ oM ls,hMs⟩,⟨ot,ne _ _ oM lt,hMt⟩,c1,c2,c3,fun i hi=> ?_⟩
   rw[if_neg oM];exact c4 i hi
  simp only[if_neg e]
  have fY:j<k:=by have:j<k+1:=hj;omega
  obtain⟨q1,⟨oo,q2,q3⟩,⟨oo2,q4,q5⟩,q6,q7,q8,q9⟩:=gh j fY
  refine⟨ne _ _ oM (up _ _ q1),⟨oo,ne _ _ oM (up _ _ q2),q3⟩,⟨oo2,ne _ _ oM (up _ _ q4),q5⟩,q6,q7,q8,fun i hi=> ?_⟩
  rw[if_neg oM];exact q9 i hi
 obtain rfl:k=3:=by omega
 have d1:decide (((3:Nat):Int)<3)=false:=rfl
 refine ky (aN @oA @d1) ?_
 refine⟨_,(ke @oA), ?_⟩
 obtain⟨a1,a2,a3,a4,a5,a6,a7⟩:=gh 0 oM
 obtain⟨b1,b2,b3,b4,b5,b6,b7⟩:=gh 1 oM
 obtain⟨c1,c2,c3,c4,c5,c6,c7⟩:=gh 2 oM
 have b8:=b7 0 oM
 have c8:=c7 1 oM
 refine⟨Ext.of_new hN,⟨bd,bm,d,s,t,fun _=> .slice none 0 0,[]⟩,rfl,vJ,⟨o,eE,hM⟩,fun k hk=>(gh k hk).1,fun k hk=> ?_,fun k hk=> ?_,fun k hk=>⟨[],rfl,Gr.nl,fun i hi=>absurd hi (Nat.not_lt_zero _)⟩,fun n hn=>absurd hn (Nat.not_lt_zero _),rfl,List.nodup_nil, ?_, ?_,fun k hk=> ?_,fun i j hi hj mI b hb=>(by cases hb), ?_⟩
 ·obtain⟨x,y,z⟩:=(gh k hk).2.1
  exact⟨x,[],y,z,List.Perm.nil⟩
 ·obtain⟨x,y,z⟩:=(gh k hk).2.2.1
  exact⟨x,[],y,z,List.Perm.nil⟩
 ·show [s 0,s 1,s 2,t 0,t 1,t 2].Nodup
  simp only[List.nodup_cons,List.mem_cons,List.not_mem_nil,not_or,or_false,List.nodup_nil,and_true,not_false_eq_true]
  refine⟨⟨?_, ?_, ?_, ?_, ?_⟩,⟨?_, ?_, ?_, ?_⟩,⟨?_, ?_, ?_⟩,⟨?_, ?_⟩, ?_⟩<;>omega
 ·show [d 0,d 1,d 2].Nodup
  simp only[List.nodup_cons,List.mem_cons,List.not_mem_nil,not_or,or_false,List.nodup_nil,and_true,not_false_eq_true]
  refine⟨⟨?_, ?_⟩, ?_⟩<;>omega
 ·have:=(gh k hk).2.2.2
  show bm≠s k∧bm≠t k
  omega
 exact⟨fun _ _=>List.Pairwise.nil,fun _ _=>List.Pairwise.nil,fun _ _ p hp=>(by cases hp),fun _ _ p hp=>(by cases hp),fun _ _ c hc=>(by cases hc),fun f hf=>(by cases hf),⟨show(-9223372036854775808:Int)≤0 by decide,show(0:Int)<9223372036854775808 by decide,fun _=>show(0:Int)≤0 by decide⟩,hq⟩
structure FiL where
 dir:List UInt8
 name:List UInt8
 data:List UInt8
def fiC (r:FiL):List Value:= [vs r.dir]++ ([vs r.name]++ ([vs r.data]))
def fi0:FiL:=⟨[],[],[]⟩
def oJ (r:FiL): (fiC r).length=3:=by simp[fiC]
def Av (r:FiL):Value.cells (.agg (fiC r).toArray)=(fiC r).toArray:=aS _
def wx (r:FiL): (fiC r).all Value.oneCell'=true:=by
 unfold fiC
 simp only[List.all_append,List.all_cons,List.all_nil,qW,Bool.and_true,Bool.true_and]
 rfl
def zrFi:an prog 68=some (.agg (fiC fi0).toArray):=id kR
def tq:aR prog 68=some (true,3):=id kR
def xP (r:FiL):fiC r=([]:List Value)++ (([vs r.dir])++ ([vs r.name]++ ([vs r.data]))):=by
 unfold fiC;simp only[List.append_assoc,List.nil_append,List.append_nil]
def Zv (r:FiL):Sx.partV (false,1) (fiC r).toArray 0=some (vs r.dir):=by
 rw[xP];exact wb _ _ _ (by simp)
def Vy (r:FiL) (n:Nat) (E:TypeId) (fz:Nat×Nat):aG (some (false,n)) (some (.cells (fiC r).toArray E fz)) 0=some (vs r.dir):=by
 rw[xP];exact iR _ _ _ n E fz (by simp)
def XC {w:World} {v:Value} {l:List FiL} {b off:Nat} {arr:Array Value} {E:TypeId} {fz:Nat×Nat} (h:RowS 3 fiC fi0 w v l b off arr E fz) {k:Nat} (hk:k<l.length) (n:Nat):aG (some (false,n)) (some (.cells arr E fz)) (off+k*3+0)=some (vs (l.getD k fi0).dir):=by
 rw[RowS.cell h hk oM];generalize l.getD k fi0=r;rw[xP];exact vb _ _ _ (by simp)
def xK (r:FiL):fiC r=(([vs r.dir]))++ (([vs r.name])++ ([vs r.data])):=by
 unfold fiC;simp only[List.append_assoc,List.nil_append,List.append_nil]
def h_ (r:FiL):Sx.partV (false,1) (fiC r).toArray 1=some (vs r.name):=by
 rw[xK];exact wb _ _ _ (by simp)
def U' (r:FiL) (n:Nat) (E:TypeId) (fz:Nat×Nat):aG (some (false,n)) (some (.cells (fiC r).toArray E fz)) 1=some (vs r.name):=by
 rw[xK];exact iR _ _ _ n E fz (by simp)
def FB {w:World} {v:Value} {l:List FiL} {b off:Nat} {arr:Array Value} {E:TypeId} {fz:Nat×Nat} (h:RowS 3 fiC fi0 w v l b off arr E fz) {k:Nat} (hk:k<l.length) (n:Nat):aG (some (false,n)) (some (.cells arr E fz)) (off+k*3+1)=some (vs (l.getD k fi0).name):=by
 rw[RowS.cell h hk oM];generalize l.getD k fi0=r;rw[xK];exact vb _ _ _ (by simp)
def xW (r:FiL):fiC r=(([vs r.dir])++ ([vs r.name]))++ (([vs r.data])++ (([]:List Value))):=by
 unfold fiC;simp only[List.append_assoc,List.nil_append,List.append_nil]
def Zb (r:FiL):Sx.partV (false,1) (fiC r).toArray 2=some (vs r.data):=by
 rw[xW];exact wb _ _ _ (by simp)
def Vn (r:FiL) (n:Nat) (E:TypeId) (fz:Nat×Nat):aG (some (false,n)) (some (.cells (fiC r).toArray E fz)) 2=some (vs r.data):=by
 rw[xW];exact iR _ _ _ n E fz (by simp)
def x3 {w:World} {v:Value} {l:List FiL} {b off:Nat} {arr:Array Value} {E:TypeId} {fz:Nat×Nat} (h:RowS 3 fiC fi0 w v l b off arr E fz) {k:Nat} (hk:k<l.length) (n:Nat):aG (some (false,n)) (some (.cells arr E fz)) (off+k*3+2)=some (vs (l.getD k fi0).data):=by
 rw[RowS.cell h hk oM];generalize l.getD k fi0=r;rw[xW];exact vb _ _ _ (by simp)
def E_ (r:FiL) (E:TypeId) (fz:Nat×Nat):aG (some (true,3)) (some (.cells (fiC r).toArray E fz)) 0=some (.agg (fiC r).toArray):=rx _ E fz 3 (by rw[List.size_toArray,oJ])
def V0 (old:Array Value) (r:FiL) (a:Bool) (E:TypeId) (h:old.size=3):ad (some (a,3)) (some (.cells old E (0,0))) 0 (.agg (fiC r).toArray)=some (.cells (fiC r).toArray E (0,0)):=vq _ a old E (oJ r) (wx r) h
def Tr (r r':FiL) (a:Bool) (E:TypeId):ad (some (a,3)) (some (.cells (fiC r').toArray E (0,0))) 0 (.agg (fiC r).toArray)=some (.cells (fiC r).toArray E (0,0)):=V0 _ r a E (by rw[List.size_toArray,oJ])
def Fs {w:World} {v:Value} {l:List FiL} {b off:Nat} {arr:Array Value} {E:TypeId} {fz:Nat×Nat} (h:RowS 3 fiC fi0 w v l b off arr E fz) {k:Nat} (hk:k<l.length):aG (some (true,3)) (some (.cells arr E fz)) (off+k*3)=some (.agg (fiC (l.getD k fi0)).toArray):=RowS.load h oJ oM hk
def XF:Tryz.prog.stoodInHeld 68=false:=by kernel_rfl
def XE:Tryz.prog.eqGuardType Tryz.prog.depth 68=false:=by kernel_rfl
def axt_ (r r':FiL):eqD prog 8 68 (.agg (fiC r).toArray) (.agg (fiC r').toArray)=some ((r.dir==r'.dir)&& (r.name==r'.name)&& (r.data==r'.data)):=by
 have hs: ∀ (a b:List UInt8),eqD prog 7 9 (vs a) (vs b)=some (a==b):=by
  intro a b;unfold eqD;rw[underlying9];simp only[vs,oV]
 have ags:aR prog 9=some (false,1):=id kR
 unfold eqD
 rw[underlying68]
 simp only
 rw[XF]
 simp only[Bool.false_eq_true, ↓reduceIte,AI,sx,ags,Zv,h_,Zb,hs]
 cases(r.dir==r'.dir)<;>cases(r.name==r'.name)<;>cases(r.data==r'.data)<;>simp
def neFi (r r':FiL):bF prog .neq 68 (.agg (fiC r).toArray) (.agg (fiC r').toArray)=some (.bool (!((r.dir==r'.dir)&& (r.name==r'.name)&& (r.data==r'.data)))):=by
 unfold bF eqX;rw[XE];simp[eu,axt_]
def Dq (r:FiL):dl (cC prog 68) (an prog 68) [(0,vs r.dir),(1,vs r.name),(2,vs r.data)]=some (.agg (fiC r).toArray):=by
 have hp:cC prog 68=some [(0,1),(1,1),(2,1)]:=id kR
 rw[hp,zrFi]
 have e0: (fiC fi0).toArray=(([]:List Value)++ (([vs fi0.dir])++ ([vs fi0.name]++ ([vs fi0.data])))).toArray:=by congr 1<;>simp only[fiC,List.append_assoc,List.nil_append,List.append_nil]
 have q0:eb (([]:List Value)++ (([vs fi0.dir])++ ([vs fi0.name]++ ([vs fi0.data])))).toArray 0 ([vs r.dir])=(([]:List Value)++ (([vs r.dir])++ ([vs fi0.name]++ ([vs fi0.data])))).toArray:=Ad _ _ _ _ (by simp) (rfl)
 have s0: (([]:List Value)++ (([vs fi0.dir])++ ([vs fi0.name]++ ([vs fi0.data])))).toArray.size=3:=by simp
 have z0: (Value.cells (vs r.dir)).toList= [vs r.dir]:=by rfl
 have y0: (Value.cells (vs r.dir)).size=1:=by rw[←Array.length_toList,z0];simp
 have e1: (([]:List Value)++ (([vs r.dir])++ ([vs fi0.name]++ ([vs fi0.data])))).toArray=((([vs r.dir]))++ (([vs fi0.name])++ ([vs fi0.data]))).toArray:=by congr 1<;>simp only[fiC,List.append_assoc,List.nil_append,List.append_nil]
 have q1:eb ((([vs r.dir]))++ (([vs fi0.name])++ ([vs fi0.data]))).toArray 1 ([vs r.name])=((([vs r.dir]))++ (([vs r.name])++ ([vs fi0.data]))).toArray:=Ad _ _ _ _ (by simp) (rfl)
 have s1: ((([vs r.dir]))++ (([vs fi0.name])++ ([vs fi0.data]))).toArray.size=3:=by simp
 have z1: (Value.cells (vs r.name)).toList= [vs r.name]:=by rfl
 have y1: (Value.cells (vs r.name)).size=1:=by rw[←Array.length_toList,z1];simp
 have e2: ((([vs r.dir]))++ (([vs r.name])++ ([vs fi0.data]))).toArray=((([vs r.dir])++ ([vs r.name]))++ (([vs fi0.data])++ (([]:List Value)))).toArray:=by congr 1<;>simp only[fiC,List.append_assoc,List.nil_append,List.append_nil]
 have q2:eb ((([vs r.dir])++ ([vs r.name]))++ (([vs fi0.data])++ (([]:List Value)))).toArray 2 ([vs r.data])=((([vs r.dir])++ ([vs r.name]))++ (([vs r.data])++ (([]:List Value)))).toArray:=Ad _ _ _ _ (by simp) (rfl)
 have s2: ((([vs r.dir])++ ([vs r.name]))++ (([vs fi0.data])++ (([]:List Value)))).toArray.size=3:=by simp
 have z2: (Value.cells (vs r.data)).toList= [vs r.data]:=by rfl
 have y2: (Value.cells (vs r.data)).size=1:=by rw[←Array.length_toList,z2];simp
 have e3: ((([vs r.dir])++ ([vs r.name]))++ (([vs r.data])++ (([]:List Value)))).toArray=(fiC r).toArray:=by congr 1<;>simp only[fiC,List.append_assoc,List.nil_append,List.append_nil]
 simp only[dl]
 rw[e0]
 unfold Sx.fillV
 simp only[List.getElem?_cons_zero,List.getElem?_cons_succ,z0,y0]
 rw[if_pos ⟨trivial,by rw[s0];decide⟩,q0]
 rw[e1]
 unfold Sx.fillV
 simp only[List.getElem?_cons_zero,List.getElem?_cons_succ,z1,y1]
 rw[if_pos ⟨trivial,by rw[s1];decide⟩,q1]
 rw[e2]
 unfold Sx.fillV
 simp only[List.getElem?_cons_zero,List.getElem?_cons_succ,z2,y2]
 rw[if_pos ⟨trivial,by rw[s2];decide⟩,q2]
 rw[e3];rfl
abbrev FiSl (w:World) (v:Value) (l:List FiL):Prop:=SlV 3 fiC fi0 w v l
def DkP.seen1 {X L:aB} {G:DkG} {S:DiskL} (h:DkP X G S) {k:Nat} (hk:k<3) {l':NmL} (keep: ∀b o,Sx.look X b=some o→b≠G.s k→Sx.look L b=some o) (hs:NmM L G.fb (G.s k) l') (h1:SrtN l') (h3: ∀p,p∈l'→p.2<S.files.length):
  DkP L G (dY S k ⟨l',(S.dir k).stl,(S.dir k).pend⟩):=by
 obtain⟨osk,msk,rU,rS,-⟩:=h.seen k hk
 have dj: ∀b o,Sx.look X b=some o→tyO o≠none→b≠G.s k:=by
  rintro b o hb ht rfl
  rw[rU] at hb;cases hb;exact ht (kG rS)
 have K: ∀b o,Sx.look X b=some o→tyO o≠none→Sx.look L b=some o:=fun b o hb h1=>keep b o hb (dj b o hb h1)
 have es: ∀j,(dY S k ⟨l',(S.dir k).stl,(S.dir k).pend⟩).dir j=if j=k then⟨l',(S.dir k).stl,(S.dir k).pend⟩ else S.dir j:=fun _=>rfl
 have e2: ∀j,((dY S k ⟨l',(S.dir k).stl,(S.dir k).pend⟩).dir j).stl=(S.dir j).stl:=fun j=>by
  rw[es];by_cases e:j=k
  ·subst e;rw[if_pos rfl]
  rw[if_neg e]
 have e3: ∀j,((dY S k ⟨l',(S.dir k).stl,(S.dir k).pend⟩).dir j).pend=(S.dir j).pend:=fun j=>by
  rw[es];by_cases e:j=k
  ·subst e;rw[if_pos rfl]
  rw[if_neg e]
 refine⟨K _ _ h.disk (by simp[tyO,bl]), ?_,fun j hj=>K _ _ (h.dir j hj) (by simp[tyO,d7]),fun j hj=> ?_,fun j hj=> ?_,fun j hj=> ?_,fun n hn=>K _ _ (h.file n hn) (by simp[tyO,dH]),h.len,h.nodf,h.nodm,h.nodd,h.nodb,h.nodp,AJ h.ok _ h1 (h.ok.stl k hk) h3 (h.ok.stlN k hk) (h.ok.pendN k hk)⟩
 ·obtain⟨o,h1,h2⟩:=h.dirs
  exact⟨o,keep _ _ h1 (h.nodb k hk).1,h2⟩
 ·rw[es]
  by_cases e:j=k
  ·subst e;rw[if_pos rfl];exact hs
  rw[if_neg e]
  obtain⟨o,m,h1,h2,h3⟩:=h.seen j hj
  exact⟨o,m,keep _ _ h1 ((qS h.nodm hj hk).1 e),h2,h3⟩
 ·rw[e2]
  obtain⟨o,m,h1,h2,h3⟩:=h.stl j hj
  exact⟨o,m,keep _ _ h1 (Ne.symm (qS h.nodm hk hj).2.2),h2,h3⟩
 rw[e3]
 obtain⟨vals,h1,h2,h3⟩:=h.pend j hj
 refine⟨vals,h1,h2.keep fun b o hb ho=> ?_,fun i hi=>(h3 i hi).keep fun b o ho hx=>K b o ho ?_⟩
 ·obtain⟨arr,ha⟩:=jD h2 hb
  rw[ho] at ha;cases ha
  exact K _ _ ho (by simp[tyO])
 rcases hx with⟨s,rfl⟩ | ⟨a,rfl⟩<;>simp[tyO,dz,ptrO]
def cP (S:DiskL) (f:FiL):DiskL:=match bO f.dir with
 |some k=>if bX f.name=true∧f.data.length≤1048576 then dY (eH S ⟨f.data,f.data.length⟩) k ⟨f5 (S.dir k).seen (f.name,S.files.length),(S.dir k).stl,(S.dir k).pend⟩ else S
 |none=>S
def setV (S:DiskL) (vis:List Nat):DiskL:={S with dir:=fun k=>if k∈vis then⟨(S.dir k).seen,(S.dir k).seen,[]⟩ else S.dir k}
def Uo (S:DiskL):setV S []=S:=by
 unfold setV
 simp
def PF (S:DiskL) (vis:List Nat) (k:Nat):mh (setV S vis) k=setV S (vis++ [k]):=by
 unfold mh dY setV
 simp only
 congr 1
 funext j
 by_cases e:j=k
 ·subst e
  rw[if_pos rfl,if_pos (dJ _ (List.mem_singleton.2 rfl))]
  by_cases h:j∈vis
  ·rw[if_pos h]
  rw[if_neg h]
 rw[if_neg e]
 by_cases h:j∈vis
 ·rw[if_pos h,if_pos (cz _ h)]
 rw[if_neg h,if_neg (fun hm=>by
  rcases List.mem_append.1 hm with hm|hm
  ·exact h hm
  exact e (List.mem_singleton.1 hm))]
def Rh (S:DiskL) {a b:List Nat} (h: ∀k,k∈a↔k∈b):setV S a=setV S b:=by
 unfold setV
 congr 1
 funext j
 by_cases e:j∈a
 ·rw[if_pos e,if_pos ((h j).1 e)]
 rw[if_neg e,if_neg (fun e2=>e ((h j).2 e2))]
def ofD (quota:Int) (l:List FiL):DiskL:=setV (l.foldl cP (dI quota)) [0,1,2]
def Yi (b o:Nat):bF prog .neq 69 (vp b o) (.pointer none)=some (.bool true):=by
 simp[bF,eqX,eu,eW,underlying69,vp]
def Xf:bF prog .neq 69 (.pointer none) (.pointer none)=some (.bool false):=by
 simp[bF,eqX,eu,eW,underlying69]
def Qh (s:List UInt8) (n:Nat):dl (cC prog 76) (an prog 76) [(0,vs s),(1,vi (n:Int))]=some (.agg #[vs s,vi (n:Int)]):=by
 rw[show cC prog 76=some [(0,1),(1,1)] from id kR,show an prog 76=some (.agg #[vs [],vi 0]) from id kR];rfl
def o7 {X:aB} {c:Nat} {x:Obj} (h:fU X c) {b:Nat} {o:Obj} (hb:Sx.look X b=some o):Sx.look ((c,x)::X) b=some o:=by
 have:=ak h (bY hb)
 simp only[Sx.look]
 rw[if_neg oM];exact hb
structure OfKG where
 i:Nat
 G:DkG
 X:aB
structure OvKG where
 vis:List Nat
 dn:List (List UInt8×Option Nat)
 lf:List (List UInt8×Option Nat)
 it:Obj
 G:DkG
 X:aB
def FiB (l:List FiL):Prop:= ∀f,f∈l→f.name.length<1099511627776∧f.data.length<1099511627776
def eX:=aN (aN (aN (aN @av @au) (aN @nU (aN @pO @pK))) (aN (aN @pL @Yi) (aN @Xf (aN @Sx.tup2_0 @Sx.tup2_1)))) (aN (aN (aN @Av @E_) (aN @Vy (aN @U' @Vn))) (aN (aN @Tr @uj) (aN @Sx.tup3_0 (aN @Sx.tup3_1 @Sx.tup3_2))))
def U8 (quota:Int) (v:Value) (l:List FiL) (w:World) (hq: -9223372036854775808≤quota∧quota<9223372036854775808) (hG:lU w) (hv:FiSl w v l) (hl:l.length<1000000) (hb:FiB l):
  Rets prog 7 #[vi quota,v] w (XS w [] (fun v D=> ∃G,v=vp G.bd 0∧DkP D G (ofD quota l))):=by
 have ln:=hv.len
 obtain⟨rb,off,arr,E,fz,hr⟩:=hv.row
 refine Rets.enterX func7 rfl (rs:= [.tmp 4]) results7 ntmps7 (fun p hp=>by cases hp) (by simp[keys]) ?_
 refine kf ?_
 refine ky @eX ?_
 refine Ow.callC rfl rfl call30 (fun w' aA=>CW quota w' hq (by obtain⟨e,f,hg⟩:=hG;exact⟨e,f,by rw[aA.old _ (Array.getElem?_eq_some_iff.1 hg).1 (by simp[keys])];exact hg⟩)) (fun B2 v2 D2 ay dE be bM=> ?_)
 obtain⟨G0,rfl,mG⟩:=bM
 rw[List.nil_append]
 have nj:New w.heap.size D2:=be.mono dE
 refine ko @eX ?_
 refine ky (aN @eX @ln) ?_
 refine Cw.loopG (G:=OfKG) [16,17,18,7,19,20,21,22,23,24,25,8,26,27,28,29,30,31,32,33,34,35,36,37,38,39,40,41,42,43,44,45,46,47,48,49,50,51,52,15] (fun g=> [(15,vi g.i)]) (fun g=>g.X) (fun g=>g.i≤l.length∧DkP g.X g.G ((l.take g.i).foldl cP (dI quota))∧g.G.bd=G0.bd∧New w.heap.size g.X) (fun g=>l.length - g.i) ⟨0,G0,D2⟩ rfl rfl ?_ ?_
 ·exact⟨aV _,mG,rfl,nj⟩
 intro g j hg
 refine kv ?_
 clear mG nj
 obtain⟨i,G,X⟩:=g
 simp only at hg ⊢
 obtain⟨hi,hP,bP,hN⟩:=hg
 rw[←bP]
 by_cases aC:i<l.length
 ·have d1:decide ((i:Int)< (l.length:Int))=true:=aK oM
  have nR:=hr.lt oM
  have ixl:=hr.idx true i aC
  have ldl:=hr.load oJ oM aC
  have rdl:aU w X rb=some (.cells arr E fz):=by rw[jn (hN.not nR)];exact hr.has oM
  have j6: (l.take (i+1)).foldl cP (dI quota)=cP ((l.take i).foldl cP (dI quota)) (l.getD i fi0):=by
   rw[StP.take_snoc (z:=fi0) aC,List.foldl_append];rfl
  have zp:=hb (l.getD i fi0) (by rw[List.getD_eq_getElem?_getD,List.getElem?_eq_getElem aC];exact List.getElem_mem _)
  generalize l.getD i fi0=r at*
  generalize (l.take i).foldl cP (dI quota)=S at*
  refine ky (aN @eX (aN @d1 (aN @ixl (aN @rdl @ldl)))) ?_
  refine Ow.alloc rfl rfl zrFi fun b7 zk rj=> ?_
  simp only[aS,List.nil_append,List.cons_append]
  refine Ow.permL (M:=(b7, .cells (fiC fi0).toArray 68 (0,0))::X) pM ?_
  refine ko @eX ?_
  have ap:DkP ((b7, .cells (fiC r).toArray 68 (0,0))::X) G S:=hP.mono fun b o h=>o7 zk h
  have vI:Sx.look ((b7,Obj.cells (fiC r).toArray 68 (0,0))::X) b7=some (.cells (fiC r).toArray 68 (0,0)):=by simp[Sx.look]
  have cR:New w.heap.size ((b7,Obj.cells (fiC r).toArray 68 (0,0))::X):=⟨rj,hN⟩
  generalize (b7,Obj.cells (fiC r).toArray 68 (0,0))::X=L1 at*
  have nw:=aQ (w0:=w) vI
  have kA:=aQ (w0:=w) ap.disk
  obtain⟨om,lF,hM⟩:=ap.dirs
  refine ky @eX ?_
  refine Cw.regionS [G.bd,b7] [0,1,2,4,3,5,6,7] [] kR kR kR ?_
  simp only[ai, ↓ah, ↓ab, ↓ag, ↓ae,ac]
  refine kq (aN @eX (aN @kA @nw)) ?_
  refine Ow.soft rfl rfl rfl ?_
  refine Ow.mapGetG (encK:=vs) (encV:=bC) (k:=r.dir) (z:=none) rfl rfl underlying70 ju zrPd rfl rfl (aQ lF) hM ?_
  with_reducible refine Ow.nil ?_
  refine⟨by intro b hb;simp only[List.mem_cons,List.not_mem_nil,or_false] at hb;(try subst hb);rfl, ?_⟩
  rw[Ao]
  cases vV:bO r.dir with
  |none=>
   have gr:bC none= .pointer none:=rfl
   refine kq (aN @eX @gr) ?_
   try with_reducible refine Ow.nil ?_
   refine ky @eX ?_
   exact Again.mk ⟨i+1,G,L1⟩ (by show l.length - (i+1)<l.length - i;omega) ⟨aC,by show DkP L1 G ((l.take (i+1)).foldl cP (dI quota));rw[j6];unfold cP;rw[vV];exact ap,rfl,cR⟩ rfl rfl
  |some k=>
   have hp: ∀q:Nat,bC (some q)=vp q 0:=fun _=>rfl
   have aj:=(dT vV).1
   refine kq (aN @eX @hp) ?_
   try with_reducible refine Ow.nil ?_
   refine ky (aN @eX @nw) ?_
   refine Ow.callFV rfl call34 (fun w' aA=>KR_ r.name w' zp.1) ?_
   have qH: ¬ (bX r.name=true∧r.data.length≤1048576)→cP S r=S:=fun h=>by unfold cP;rw[vV];simp only;rw[if_neg h]
   cases fG:bX r.name with
   |false=>
    refine ko @eX ?_
    refine ky @eX ?_
    exact Again.mk ⟨i+1,G,L1⟩ (by show l.length - (i+1)<l.length - i;omega) ⟨aC,by show DkP L1 G ((l.take (i+1)).foldl cP (dI quota));rw[j6,qH (fun h=>by rw[fG] at h;cases h.1)];exact ap,rfl,cR⟩ rfl rfl
   |true=>
    by_cases jW:r.data.length≤1048576
    ·have d2:decide ((r.data.length:Int)≤1048576)=true:=aK oM
     have ce:=aQ (w0:=w) (ap.dir k aj)
     obtain⟨os,ms,gq,gG,ij⟩:=ap.seen k aj
     refine ko (aN @eX (aN @nw @d2)) ?_
     refine ky @eX ?_
     refine Cw.regionS [G.d k,b7] [0,1,2,4,6,8,3,5,7,9,10,11,12,13] [13] kR kR kR ?_
     simp only[ai, ↓ah, ↓ab, ↓ag, ↓ae,ac]
     refine kq (aN @eX (aN @ce @nw)) ?_
     refine Ow.build (.agg #[vs r.data,vi (r.data.length:Int)]) rfl (Qh r.data r.data.length) ?_
     refine kq @eX ?_
     refine Ow.soft rfl rfl rfl ?_
     refine Ow.box rfl rfl fun b8 g5 jc=> ?_
     simp only[dC,cy,dA,aS]
     have bE:=(ap.mono (X':=L1++ [(b8,dH ⟨r.data,r.data.length⟩)]) fun b o h=>az h).addFile (rz g5) (fun hm=>by have:=ak g5 (ap.fb_key hm);omega) ⟨jW,bq _⟩
     have be:New w.heap.size (L1++ [(b8,dH ⟨r.data,r.data.length⟩)]):=cR.app (show New w.heap.size [(b8,dH ⟨r.data,r.data.length⟩)] from⟨jc,trivial⟩)
     refine Ow.permL (M:=L1++ [(b8,dH ⟨r.data,r.data.length⟩)]) (List.Perm.refl _) ?_
     have hu1:=aQ (w0:=w) (az (M:= [(b8,dH ⟨r.data,r.data.length⟩)]) (ap.dir k aj))
     have K5:=aQ (w0:=w) (az (M:= [(b8,dH ⟨r.data,r.data.length⟩)]) vI)
     generalize L1++ [(b8,dH ⟨r.data,r.data.length⟩)]=L2 at*
     with_reducible refine Ow.nil ?_
     refine⟨fun b hb=>by
      simp only[List.mem_cons,List.not_mem_nil,or_false] at hb
      rcases hb with rfl|rfl
      ·rw[hu1,ce]
      rw[K5,nw], ?_⟩
     obtain⟨os2,ms2,uP,hms2,hnp2⟩:=bE.seen k aj
     refine kq @eX ?_
     refine Ow.mapUpdateG (encK:=vs) (encV:=bC) (k:=r.name) (v:=some b8) rfl rfl underlying77 ju rfl rfl rfl uP hms2 (fun o3 hm3=> ?_)
     have He:=hnp2.put (bE.ok.seen k aj).nodup r.name S.files.length
     have gF: (addF G b8).fb.getD S.files.length 0=b8:=vy _ _ hP.len
     rw[gF] at He
     have j4:=bE.seen1 (L:=setB L2 (G.s k) o3) aj (l':=f5 (S.dir k).seen (r.name,S.files.length)) (fun b o hb h1=>(bR (Ne.symm h1)).trans hb) ⟨o3,_,dp uP,hm3,He⟩ (AV _ (bE.ok.seen k aj)) (Iz (c:=⟨0,r.name,[],S.files.length⟩) (bE.ok.seenN k aj) (fun h=>by cases h) (fun _=>by show S.files.length< (S.files++ [_]).length;simp))
     have fC:New w.heap.size (setB L2 (G.s k) o3):=New.of_le fun q hq=>be.le q (by rwa [l5] at hq)
     refine ko @eX ?_
     refine ky @eX ?_
     exact Again.mk ⟨i+1,addF G b8,setB L2 (G.s k) o3⟩ (by show l.length - (i+1)<l.length - i;omega) ⟨aC,by show DkP (setB L2 (G.s k) o3) (addF G b8) ((l.take (i+1)).foldl cP (dI quota));rw[j6];unfold cP;rw[vV];simp only;rw[if_pos ⟨fG,jW⟩];exact j4,rfl,fC⟩ rfl rfl
    have d2:decide ((r.data.length:Int)≤1048576)=false:=aO oM
    refine ko (aN @eX (aN @nw @d2)) ?_
    refine ky @eX ?_
    exact Again.mk ⟨i+1,G,L1⟩ (by show l.length - (i+1)<l.length - i;omega) ⟨aC,by show DkP L1 G ((l.take (i+1)).foldl cP (dI quota));rw[j6,qH (fun h=>jW h.2)];exact ap,rfl,cR⟩ rfl rfl
 obtain rfl:i=l.length:=by omega
 have d1:decide ((l.length:Int)< (l.length:Int))=false:=aO oM
 rw[List.take_length] at hP
 unfold ofD
 generalize l.foldl cP (dI quota)=S at*
 have kA:=aQ (w0:=w) hP.disk
 obtain⟨om,lF,hM⟩:=hP.dirs
 refine ky (aN @eX (aN @d1 @kA)) ?_
 refine Ow.rangeMapG (encK:=vs) (encV:=bC) rfl rfl underlying70 rfl (aQ lF) hM fun bi oi H4 je hI=> ?_
 refine Ow.permL (M:=(bi,oi)::X) pM ?_
 have uE:bi∉keys X:=fun hm=>by have:=ak H4 hm;omega
 refine ko @eX ?_
 refine ky @eX ?_
 refine Cw.loopG (G:=OvKG) [58,59,60,61,10,62,63] (fun g=> []) (fun g=>(bi,g.it)::g.X) (fun g=>ItG vs bC g.it G.bm om (pf G) g.dn g.lf∧DkP g.X g.G (setV S g.vis)∧g.dn.map Prod.fst=g.vis.map cB∧(∀k,k∈g.vis→k<3)∧bi∉keys g.X∧g.G.d=G.d∧g.G.bm=G.bm∧g.G.bd=G.bd∧Sx.look g.X G.bm=some om∧New w.heap.size g.X) (fun g=>g.lf.length) ⟨[],[],pf G,oi,G,X⟩ rfl rfl ?_ ?_
 ·exact⟨hI,by rw[Uo];exact hP,rfl,fun k hk=>(by cases hk),uE,rfl,rfl,rfl,lF,hN⟩
 intro g j hg
 refine kv ?_
 clear hI hP hN uE kA
 obtain⟨vis,dn,lf,it,G1,X1⟩:=g
 simp only at hg ⊢
 obtain⟨hI,hP,hvs,I4,uE,yO,hgm,hgb,uO,hN⟩:=hg
 have hoX: ∀x b o,Sx.look X1 b=some o→Sx.look ((bi,x)::X1) b=some o:=fun x b o hb=>by
  simp only[Sx.look]
  rw[if_neg (fun e=>uE (by have e':b=bi:=oM;rw[←e'];exact bY hb))]
  exact hb
 refine ky @eX ?_
 refine Ow.nextMapG rfl rfl rfl (kH _ _ _) (aQ (hoX _ _ _ uO)) hI (fun mJ=> ?_) (fun p it' lf' lw n2=> ?_)
 ·subst mJ
  have hp:=vg hI
  rw[List.append_nil] at hp
  refine ko @eX ?_
  refine ky @eX ?_
  refine⟨_,(ke @eX), ?_⟩
  refine⟨Ext.of_new ⟨je,hN⟩,G1,by rw[hgb];rfl, ?_⟩
  rw[show setV S [0,1,2]=setV S vis from Rh S fun k=>⟨fun hk=> ?_,fun hk=> ?_⟩]
  ·exact hP.mono fun b o hb=>hoX _ _ _ hb
  ·have aj:k<3:=by simp only[List.mem_cons,List.not_mem_nil,or_false] at hk;omega
   have hm:cB k∈dn.map Prod.fst:=by
    refine List.mem_map.2 ⟨(cB k,some (G.d k)),hp.mem_iff.2 ?_,rfl⟩
    have:k=0∨k=1∨k=2:=by omega
    rcases this with rfl|rfl|rfl<;>simp[pf,cB]
   rw[hvs] at hm
   obtain⟨j,hj,e⟩:=List.mem_map.1 hm
   have h1:=qK (I4 j hj)
   rw[e,qK aj] at h1
   cases h1;exact hj
  have:=I4 k hk
  simp only[List.mem_cons,List.not_mem_nil,or_false];omega
 refine kn ?_
 refine ko @eX ?_
 refine ky @eX ?_
 refine Ow.entryMapG (encK:=vs) (encV:=bC) rfl rfl rfl (o5 _ _ _ _) (aQ (hoX _ _ _ uO)) n2 ?_
 have hp:=vg n2
 obtain⟨k,aj,rfl⟩:=CH (hp.mem_iff.1 (cz _ (dJ _ am)))
 have hpp: ∀q:Nat,bC (some q)=vp q 0:=fun _=>rfl
 refine ko (aN @eX @hpp) ?_
 refine ky @eX ?_
 refine Ow.permL (M:=X1++ [(bi,it')]) pM ?_
 refine Ow.callX (X:=X1) (Y:= [(bi,it')]) rfl rfl rfl call35 (fun w' aA aZ aT=>by rw[show vp (G.d k) 0=vp (G1.d k) 0 by rw[yO]];exact VG_ X1 G1 (setV S vis) k w' aZ aT hP aj) (fun v4 D4 bD ar=> ?_)
 obtain⟨rfl,gE,gZ⟩:=ar
 rw[PF] at gE
 have hbm2:=hP.dirs
 have hom4:Sx.look D4 G.bm=some om:=gZ _ _ uO (by rw[←hgm];exact(hP.nodb k aj).2) (fun e=>by
  have h1:=hP.dir k aj
  rw[←e,uO] at h1
  cases h1
  obtain⟨es,cl,h,-⟩:=hM;cases h)
 have hbD:bi∉keys D4:=fun hm=>by
  rcases bD.new bi hm with h| ⟨h,-⟩
  ·exact uE h
  have:=ak h (b:=bi) (by rw[ao];simp[keys]);omega
 have c_:New w.heap.size D4:=pI bD hN
 refine Ow.permL (M:=(bi,it')::D4) pM ?_
 refine ko @eX ?_
 refine ky @eX ?_
 exact Again.mk ⟨vis++ [k],dn++ [(cB k,some (G.d k))],lf',it',qr G1 k (G1.s k),D4⟩ (by show lf'.length<lf.length;omega) ⟨n2,gE,by show(dn++ [_]).map Prod.fst=(vis++ [k]).map cB;rw[List.map_append,List.map_append,hvs];rfl,fun j hj=>by
  rcases List.mem_append.1 hj with hj|hj
  ·exact I4 j hj
  rw[List.mem_singleton.1 hj];exact aj,hbD,yO,hgm,hgb,hom4,c_⟩ rfl rfl
end Go.Proofs
end
section
namespace Go.Proofs
open Go Go.Sx Go.StP Go.Shelf
def keysL_ren:Go.Shelf.Ren:=⟨fun|7=>102|10=>136|n=>n,fun|23=>77|26=>9|3=>74|28=>174|0=>0|27=>173|33=>73|4=>4|n=>n,fun|n=>n⟩
def keysL:Go.Proofs.SlLaysZ.n7 prog keysL_ren:={
 mixed:=by kernel_rfl
 f7:=⟨Tryz.f102.name,by decide,Tryz.func102.trans (congrArg some kR)⟩
 f10:=⟨Tryz.f136.name,by decide,Tryz.func136.trans (congrArg some kR)⟩
 t0:=underlying0
 a0:=isAgg0
 z0:=sizeOf0
 v0:=zeroValue0
 t4:=underlying4
 a4:=isAgg4
 z4:=sizeOf4
 v4:=zeroValue4
 t23:=underlying77
 a23:=isAgg77
 z23:=sizeOf77
 v23:=zeroValue77
 t26:=underlying9
 a26:=isAgg9
 z26:=sizeOf9
 v26:=zeroValue9
 t27:=underlying173
 a27:=isAgg173
 z27:=sizeOf173
 v27:=zeroValue173
 t28:=underlying174
 a28:=isAgg174
 z28:=sizeOf174
 v28:=zeroValue174
 t33:=underlying73
 a33:=isAgg73
 z33:=sizeOf73
 v33:=zeroValue73}
def sortedL_ren:Go.Shelf.Ren:=⟨fun|6=>101|8=>134|9=>135|11=>158|13=>160|12=>159|23=>190|24=>191|14=>181|15=>182|16=>183|17=>184|18=>185|19=>186|20=>187|21=>188|22=>189|25=>205|26=>206|27=>207|28=>208|29=>209|30=>210|31=>219|n=>n,fun|26=>9|28=>174|24=>119|0=>0|3=>3|37=>153|48=>150|50=>183|4=>4|40=>258|39=>257|45=>262|5=>5|9=>9|51=>277|55=>281|57=>293|58=>287|33=>73|n=>n,fun|n=>n⟩
def sortedL:Go.Proofs.SlLaysZ.n6 prog sortedL_ren:={
 mixed:=by kernel_rfl
 f6:=⟨Tryz.f101.name,by decide,Tryz.func101.trans (congrArg some kR)⟩
 f8:=⟨Tryz.f134.name,by decide,Tryz.func134.trans (congrArg some kR)⟩
 f11:=⟨Tryz.f158.name,by decide,Tryz.func158.trans (congrArg some kR)⟩
 t0:=underlying0
 a0:=isAgg0
 z0:=sizeOf0
 v0:=zeroValue0
 t24:=underlying119
 a24:=isAgg119
 z24:=sizeOf119
 v24:=zeroValue119
 t26:=underlying9
 a26:=isAgg9
 z26:=sizeOf9
 v26:=zeroValue9
 t28:=underlying174
 a28:=isAgg174
 z28:=sizeOf174
 v28:=zeroValue174
 i26:=by kernel_rfl}
def sortL_ren:Go.Shelf.Ren:=⟨fun|6=>135|8=>160|9=>159|19=>190|20=>191|21=>181|22=>182|23=>183|24=>184|25=>185|26=>186|27=>187|28=>188|29=>189|36=>205|31=>206|32=>207|37=>208|38=>209|39=>210|41=>219|n=>n,fun|27=>119|29=>9|3=>3|32=>153|26=>119|0=>0|44=>150|46=>183|4=>4|36=>258|35=>257|41=>262|5=>5|9=>9|53=>277|57=>281|63=>293|64=>287|n=>n,fun|n=>n⟩
def sortL:Go.Proofs.SlLaysM.n6 prog sortL_ren:={
 mixed:=by kernel_rfl
 f6:=⟨Tryz.f135.name,by decide,Tryz.func135.trans (congrArg some kR)⟩
 f8:=Tryz.func160.trans (congrArg some kR)
 f9:=⟨Tryz.f159.name,by decide,Tryz.func159.trans (congrArg some kR)⟩
 f19:=Tryz.func190.trans (congrArg some kR)
 f20:=Tryz.func191.trans (congrArg some kR)
 f21:=⟨Tryz.f181.name,by decide,Tryz.func181.trans (congrArg some kR)⟩
 f22:=⟨Tryz.f182.name,by decide,Tryz.func182.trans (congrArg some kR)⟩
 f23:=⟨Tryz.f183.name,by decide,Tryz.func183.trans (congrArg some kR)⟩
 f24:=⟨Tryz.f184.name,by decide,Tryz.func184.trans (congrArg some kR)⟩
 f25:=⟨Tryz.f185.name,by decide,Tryz.func185.trans (congrArg some kR)⟩
 f26:=⟨Tryz.f186.name,by decide,Tryz.func186.trans (congrArg some kR)⟩
 f27:=⟨Tryz.f187.name,by decide,Tryz.func187.trans (congrArg some kR)⟩
 f28:=⟨Tryz.f188.name,by decide,Tryz.func188.trans (congrArg some kR)⟩
 f29:=⟨Tryz.f189.name,by decide,Tryz.func189.trans (congrArg some kR)⟩
 f31:=Tryz.func206.trans (congrArg some kR)
 f32:=Tryz.func207.trans (congrArg some kR)
 f36:=⟨Tryz.f205.name,by decide,Tryz.func205.trans (congrArg some kR)⟩
 f37:=⟨Tryz.f208.name,by decide,Tryz.func208.trans (congrArg some kR)⟩
 f38:=⟨Tryz.f209.name,by decide,Tryz.func209.trans (congrArg some kR)⟩
 f39:=⟨Tryz.f210.name,by decide,Tryz.func210.trans (congrArg some kR)⟩
 f41:=⟨Tryz.f219.name,by decide,Tryz.func219.trans (congrArg some kR)⟩
 t0:=underlying0
 a0:=isAgg0
 z0:=sizeOf0
 v0:=zeroValue0
 t3:=underlying3
 a3:=isAgg3
 z3:=sizeOf3
 v3:=zeroValue3
 t4:=underlying4
 a4:=isAgg4
 z4:=sizeOf4
 v4:=zeroValue4
 t5:=underlying5
 a5:=isAgg5
 z5:=sizeOf5
 v5:=zeroValue5
 t9:=underlying9
 a9:=isAgg9
 z9:=sizeOf9
 v9:=zeroValue9
 t26:=underlying119
 a26:=isAgg119
 z26:=sizeOf119
 v26:=zeroValue119
 t27:=underlying119
 a27:=isAgg119
 z27:=sizeOf119
 v27:=zeroValue119
 t29:=underlying9
 a29:=isAgg9
 z29:=sizeOf9
 v29:=zeroValue9
 t32:=underlying153
 a32:=isAgg153
 z32:=sizeOf153
 v32:=zeroValue153
 t35:=underlying257
 a35:=isAgg257
 z35:=sizeOf257
 v35:=zeroValue257
 t36:=underlying258
 a36:=isAgg258
 z36:=sizeOf258
 v36:=zeroValue258
 t41:=underlying262
 a41:=isAgg262
 z41:=sizeOf262
 v41:=zeroValue262
 t44:=underlying150
 a44:=isAgg150
 z44:=sizeOf150
 v44:=zeroValue150
 t46:=underlying183
 a46:=isAgg183
 z46:=sizeOf183
 v46:=zeroValue183
 t53:=underlying277
 a53:=isAgg277
 z53:=sizeOf277
 v53:=zeroValue277
 t57:=underlying281
 a57:=isAgg281
 z57:=sizeOf281
 v57:=zeroValue281
 t63:=underlying293
 a63:=isAgg293
 z63:=sizeOf293
 v63:=zeroValue293
 t64:=underlying287
 a64:=isAgg287
 z64:=sizeOf287
 v64:=zeroValue287}
open Go.RowKit Go.Maps Go.Sort
def ZL (m:Nat):AnyZ.SortsIn prog sortedL_ren Fence.wide m:=
 ⟨fun blk off cap ss W hH hblk g_=>callsIn_wide.2 (AnyM.slices_Sort_string sortL blk off cap ss W hH hblk g_),
 fun p cap W=>callsIn_wide.2 (AnyM.slices_Sort_string_none sortL p cap W)⟩
def Rb {a b:List UInt8} (h:ltB a b=true):leB a b=true:=by
 rw[oS,decide_eq_true_eq] at h
 simp only[leB,decide_eq_true_eq]
 exact List.le_of_lt h
def T9 {l:NmL} (h:SrtN l) {ss:List (List UInt8)} (hp:ss.Perm (l.map Prod.fst)):ss.mergeSort (fun x y=>decide (x≤y))=l.map Prod.fst:=by
 show ss.mergeSort leB=_
 rw[mergeSort_of_perm hp]
 refine List.mergeSort_of_pairwise ?_
 exact List.pairwise_map.2 (h.imp fun h=>Rb h)
def Z2 {W:World} {base n:Nat} {T:TypeId} {v:Value} {xs:List Value} (h:W.ownsRow base T 1 v n xs): ∃D:aB,(∀p,p∈D→W.heap[p.1]? =some p.2∧base≤p.1)∧(keys D).Nodup∧Gr D T 1 v n xs:=by
 obtain⟨hl,h⟩:=h
 rcases h with⟨rfl,rfl⟩ | ⟨g,cap,cur,rfl,hb,hg,hc,hm,hs,ht⟩
 ·obtain rfl:xs= []:=List.eq_nil_of_length_eq_zero (by simpa using hl)
  exact⟨[],fun p hp=>(by cases hp),List.nodup_nil,Gr.nl⟩
 refine⟨[(g, .cells cur T (0,0))], ?_,by simp[keys], ?_⟩
 ·intro p hp
  simp only[List.mem_singleton] at hp
  subst hp
  exact⟨hg,hb⟩
 by_cases h0:0<cap
 ·refine .inl (Buf.at_ (rest:=cur.toList.drop (n*1)) ?_ hl ?_ hc h0)
  ·rw[←ht,List.take_append_drop]
   simp[Sx.look]
  rw[List.length_drop,Array.length_toList,hs];omega
 obtain rfl:cap=0:=by omega
 obtain rfl:n=0:=by omega
 refine .inr ⟨rfl,List.eq_nil_of_length_eq_zero (by simpa using hl),g,rfl, ?_⟩
 have:cur= #[]:=Array.eq_empty_of_size_eq_zero (by simpa using hs)
 simp[Sx.look,this]
def RN (_:Value):Option (DataW Unit×List MemPlace):=some (.nil,[])
def Wx {w:World} {b:Nat} {o:Obj} {m:List (List UInt8×Option Nat)} (ho:w.heap[b]? =some o) (hM:e_ vs bC o m) (hn: (m.map Prod.fst).Nodup) (hk: ∀p,p∈m→p.1.length≤1000000) (hs:m.length≤1000000):
  ∃D0:DataW Unit,w.ownsMap prog 9 RN b m.length D0∧Maps.size D0≤1000000∧(strKeys D0).Perm (m.map Prod.fst):=by
 obtain⟨es,clock,rfl,he,hb⟩:=hM
 have aP:es.size=m.length:=by have:=congrArg List.length he;simpa using this
 have yV:es.toList.map (·.key)=m.map fun p=>vs p.1:=by
  have:=congrArg (List.map Prod.fst) he
  simpa [iu,Function.comp_def] using this
 have ce: ∀x,x∈es.toList→ ∃s:List UInt8,x.key=vs s∧s.length≤1000000:=by
  intro x hx
  have:x.key∈m.map fun p=>vs p.1:=by rw[←yV];exact List.mem_map.2 ⟨x,hx,rfl⟩
  obtain⟨p,hp,e⟩:=List.mem_map.1 this
  exact⟨p.1,e.symm,hk p hp⟩
 have pB: ∀x,x∈es.toList→ ∀s:List UInt8,x.key=vs s→s.length≤1000000→WideElems.rd prog 9 RN x=some (.string s, .nil):=by
  intro x hx s hs hl
  have hL:s.length≤maxLen:=Nat.le_trans hl (by decide)
  have hL2: (ByteArray.mk s.toArray).size≤maxLen:=hL
  simp[WideElems.rd,keyOf,underlying9,mapKey,hs,RN,vs,hL2]
 have iX:=List.pairwise_append.1 hb
 refine⟨_,⟨es,clock,ho,⟨?_,⟨?_, ?_, ?_⟩, ?_⟩,by omega,rfl⟩, ?_, ?_⟩
 ·rw[aP];exact Nat.le_trans hs (by decide)
 ·intro x hx
  exact iX.2.2 x.born (List.mem_map.2 ⟨x,hx,rfl⟩) clock (by simp)
 ·exact iX.1.imp fun h=>Nat.ne_of_lt h
 ·rw[yV]
  have: (m.map Prod.fst).map vs=m.map fun p=>vs p.1:=by simp[Function.comp_def]
  rw[←this]
  refine List.pairwise_map.2 (hn.imp fun h e=>h ?_)
  simpa [vs] using e
 ·intro x hx
  obtain⟨s,e,hl⟩:=ce x hx
  exact⟨_,pB x hx s e hl⟩
 ·rw[Maps.size_eq,(WideShapes.sorted_perm _).length_eq,List.length_map,Array.length_toList,aP];exact hs
 show(List.map (fun p:Lit×DataW Unit=>strOf p.1) _).Perm _
 refine((WideShapes.sorted_perm _).map _).trans (List.Perm.of_eq ?_)
 rw[List.map_map]
 refine List.map_congr_left ?_|>.trans (?_:es.toList.map (fun x=>match x.key with| .string s=>s.data.toList|_=> [])=_)
 ·intro x hx
  obtain⟨s,e,hl⟩:=ce x hx
  simp only[Function.comp]
  rw[WideElems.rg_of (pB x hx s e hl),e]
  rfl
 have:es.toList.map (fun x=>match x.key with| .string s=>s.data.toList|_=> [])=(es.toList.map (·.key)).map (fun k=>match k with| .string s=>s.data.toList|_=> []):=by rw[List.map_map];rfl
 rw[this,yV,List.map_map]
 rfl
def Ng (X:aB) (G:DkG) (S:DiskL) (k c:Nat) (w:World) (hP:DkP X G S) (hX: ∀b o,Sx.look X b=some o→w.heap[b]? =some o) (hk:k<3) (hs: (S.dir k).seen.length≤1000000) (hl: ∀p,p∈ (S.dir k).seen→p.1.length≤1000000)
  (hc:w.heap[c]? =some (.cells #[vm (G.s k)] 77 (0,0))):
  Rets prog 101 #[.func (.func 136) #[] #[vp c 0]] w (XS w [] (fun v D=>GrI D 9 1 v (S.dir k).seen.length ((S.dir k).seen.map fun p=>vs p.1))):=by
 obtain⟨o,m,h1,h2,h3⟩:=hP.seen k hk
 have ho:=hX _ _ h1
 have aP:m.length=(S.dir k).seen.length:=by have:=h3.length_eq;simpa using this
 have hmk: ∀p,p∈m→p.1.length≤1000000:=by
  intro p hp
  have:=h3.mem_iff.1 hp
  obtain⟨q,hq,e⟩:=List.mem_map.1 this
  rw[←e];exact hl q hq
 obtain⟨D0,hown,g_,Hj⟩:=Wx ho h2 (h3.keys (hP.ok.seen k hk).nodup) hmk oM
 have lj:=(Array.getElem?_eq_some_iff.1 hc).1
 have hseq:SeqGives Fence.wide 2 prog 136 #[.pointer (some ⟨c,0,none⟩)] encStr (fun ss=>ss.Perm (strKeys D0)) (Maps.size D0) w:=
  AnyZ.keys_gives (ρ:=keysL_ren) {keysL with} Fence.wide _ trivial rfl oM c (G.s k) m.length D0 _ lj (by simp[World.cell?,hc,vm]) hown
 have h:=AnyZ.sorted_in sortedL Fence.wide 5 trivial trivial trivial trivial rfl oM (ZL _) (enters_of func135 kR rfl) 136 #[.pointer (some ⟨c,0,none⟩)] trivial (enters_of func136 kR rfl) _ (Maps.size D0) (Nat.le_trans g_ (by decide)) oM w hseq
 refine Calls.mono (callsIn_wide.1 h) ?_
 rintro e w' ⟨v,ss,rfl,hS,hrow,-,hb⟩
 obtain⟨D,hD,hDn,hG⟩:=Z2 hrow
 have hss:ss.mergeSort (fun x y=>decide (x≤y))=(S.dir k).seen.map Prod.fst:=by
  refine T9 (hP.ok.seen k hk) ((hS.trans Hj).trans ?_)
  have:=h3.map Prod.fst
  refine this.trans (List.Perm.of_eq ?_)
  rw[List.map_map];rfl
 have bh:ss.length=(S.dir k).seen.length:=by
  have:=congrArg List.length hss
  simpa using this
 refine⟨v,D,rfl,⟨fun b o hm=>(hD _ hm).1,hDn,fun b dO _=>hb.block b dO,hb.size,hb.tape,hb.os,hb.output⟩,⟨fun b dO=> ?_,fun b dO=>(by cases dO)⟩,⟨D,fun _ h=>h, ?_⟩⟩
 ·obtain⟨p,hp,rfl⟩:=List.mem_map.1 dO
  exact .inr (hD p hp).2
 rw[hss,bh] at hG
 have: ((S.dir k).seen.map Prod.fst).map encStr=(S.dir k).seen.map fun p=>vs p.1:=by rw[List.map_map];rfl
 rw[this] at hG
 exact hG
end Go.Proofs
end
section
open Go Go.Proofs Go.Sx Go.StP
namespace Go.Proofs
def Pq (b:Nat) (w:World):
  Rets prog 102 #[vm b] w (XS w [] (fun v' D=> ∃b1,v'= .func (.func 136) #[] #[vp b1 0]∧D= [(b1, .cells #[vm b] 77 (0,0))])):=by
 refine Rets.enter func102 rfl (rs:= [.tmp 2]) results102 ntmps102 ?_
 refine kf ?_
 refine ky @Nat.add_zero ?_
 refine Ow.box rfl rfl fun b1 aW aI=> ?_
 simp only[dC,cy,vm,List.nil_append]
 refine ko @Nat.add_zero ?_
 refine⟨_,(ke @Nat.add_zero), ?_⟩
 exact⟨⟨fun c hc=>(by simp only[keys,List.map_cons,List.map_nil,List.mem_singleton] at hc;exact .inr (hc▸aI)),fun c hc=>(by cases hc)⟩,b1,by simp[cM,ev,ec],rfl⟩
def DkB (S:DiskL):Prop:= ∀k,k<3→(S.dir k).seen.length≤1000000∧ ∀p,p∈ (S.dir k).seen→p.1.length≤1000000
def jE (S:DiskL) (dir:List UInt8):List (List UInt8):=if co S dir []≠0 then [] else(S.dir ((bO dir).getD 0)).seen.map Prod.fst
def sr:=aN (aN (aN @av @au) (aN @nU @pO)) (aN (aN @pK @pL) (aN @Sx.tup2_0 (aN @Sx.tup2_1 @uj)))
def Km (w:World) (G:DkG) (S:DiskL) (dir:List UInt8) (hD:DkW w G S) (hB:DkB S):
  Rets prog 57 #[vp G.bd 0,vs dir] w (XS w [] (fun v D=>GrI D 9 1 v (jE S dir).length ((jE S dir).map vs))):=by
 have Gd:=hD
 obtain⟨X,hX,hP⟩:=hD
 refine Rets.enter func57 rfl (rs:= [.tmp 4]) results57 ntmps57 ?_
 refine kf ?_
 refine ky @sr ?_
 have cR:New w.heap.size ([]:aB):=trivial
 refine Ow.callC rfl rfl call89 (fun w' aA=>Rets.toX (vl w' G S dir (.slice none 0 0) [] (Gd.old aA cR) (SlV.nil w') (by simp) (fun s hs=>by cases hs))) (fun B2 v2 D2 ay dE be bM=> ?_)
 obtain⟨rfl,bM⟩:=bM
 rw[List.append_nil]
 unfold jE
 rcases bM with⟨he,rfl⟩ | ⟨he,k,hk,rfl⟩
 ·rw[if_pos he]
  have e1:=kF he
  refine ko @sr ?_
  refine ky (aN @sr @e1) ?_
  refine⟨_,(ke @sr), ?_⟩
  exact⟨Ext.refl w [],Gr.nl.i fun _ h=>h⟩
 rw[if_neg (by rw[he];simp),hk]
 have aj:=(dT hk).1
 have eh:=hX _ _ (hP.dir k aj)
 have e1: ((0:Int) !=0)=false:=rfl
 refine ko @sr ?_
 refine ky (aN @sr (aN @e1 @eh)) ?_
 refine Ow.callC rfl rfl call102 (fun w' aA=>Pq (G.s k) w') (fun B3 v3 D3 fO mC fC eO=> ?_)
 obtain⟨b1,rfl,rfl⟩:=eO
 rw[List.nil_append]
 have iW:=fC.mono mC
 refine ko @sr ?_
 refine Ow.callC rfl rfl call101 (fun w' aA=>Ng X G S k b1 w' hP (fun b o h=>(aA.old b (Array.getElem?_eq_some_iff.1 (hX b o h)).1 (iW.not (Array.getElem?_eq_some_iff.1 (hX b o h)).1)).trans (hX b o h)) aj (hB k aj).1 (hB k aj).2 (aA.has _ _ am)) (fun B4 v4 D4 gQ ng c_ ar=> ?_)
 refine ko @sr ?_
 refine⟨_,(ke @sr), ?_⟩
 refine⟨Ext.of_new (iW.app (c_.mono ng)), ?_⟩
 rw[List.length_map,List.map_map]
 exact ar.mono fun p hp=>cN _ hp
def iq (S:DiskL) (k:Nat):List FiL:=(if S.off=true then [] else(S.dir k).seen).map fun p=>⟨cB k,p.1,(S.files.getD p.2 cg).data⟩
def iN (S:DiskL):Nat→List FiL
 |0=> []
 |k+1=>iN S k++iq S k
def qT (S:DiskL):List FiL:=iN S 3
def BB {S:DiskL} {k:Nat} (hk:k<3):jE S (cB k)=(if S.off=true then [] else(S.dir k).seen).map Prod.fst:=by
 unfold jE co
 rw[qK hk]
 cases S.off<;>simp
def IW (l:List (List UInt8)): (l.map strC).flatten=l.map vs:=by
 induction l with
 |nil=>rfl
 |cons x l ih=>simp[strC,ih]
def Ky {S:DiskL} (hB:DkB S) {k:Nat} (hk:k<3): (iq S k).length≤1000000:=by
 unfold iq
 rw[List.length_map]
 split
 ·simp
 exact(hB k hk).1
theorem Io {S:DiskL} (hB:DkB S): ∀k,k≤3→(iN S k).length≤k*1000000
 |0,_=>aV _
 |k+1,hk=>by
  have h1:=Io hB k oM
  have h2:=Ky hB (k:=k) oM
  show(iN S k++iq S k).length≤_
  rw[List.length_append];omega
structure FlG where
 k:Nat
 v:Value
 D1:aB
 DG:aB
structure FjG where
 j:Nat
 v:Value
 D1:aB
 DG:aB
def oH:=aN (aN (aN @av (aN @au @nU)) (aN @pO (aN @pK @pL))) (aN (aN @zA (aN @zD @Sx.tup2_0)) (aN @Sx.tup2_1 (aN @uj @Av)))
def PU (w:World) (G:DkG) (S:DiskL) (hD:DkW w G S) (hGl:lU w) (hB:DkB S):
  Rets prog 28 #[vp G.bd 0] w (XS w [] (fun v D=>GrI D 68 3 v (qT S).length ((qT S).map fiC).flatten)):=by
 have Gd:=hD
 obtain⟨X,hX,hP⟩:=hD
 obtain⟨eg,fzg,zr⟩:=hGl
 have hd:=hX _ _ hP.disk
 obtain⟨om,lF,hM⟩:=hP.dirs
 have yD:=hX _ _ lF
 have old: ∀b o,w.heap[b]? =some o→ ∀Y,New w.heap.size Y→aU w Y b=some o:=fun b o hb Y hY=>by
  rw[jn (hY.not (Array.getElem?_eq_some_iff.1 hb).1)];exact hb
 refine Rets.enterX func28 rfl (rs:= [.tmp 2]) results28 ntmps28 (fun p hp=>by cases hp) (by simp[keys]) ?_
 refine kf ?_
 refine ky (aN @oH (aN @zr @KI)) ?_
 refine Cw.permL (M:= []++ []) (List.Perm.refl _) ?_
 refine Cw.loopG (G:=FlG) [10,11,5,12,13,14,15,16,17,18,19,7,20,21,22,23,24,25,26,27,28,29,30,31,32,33,34,35,36,37,38,39,3,40,41,9] (fun g=> [(3,g.v),(9,vi g.k)]) (fun g=>g.D1++g.DG) (fun g=>g.k≤3∧New w.heap.size g.D1∧New w.heap.size g.DG∧Gr g.D1 68 3 g.v (iN S g.k).length ((iN S g.k).map fiC).flatten) (fun g=>3 - g.k) ⟨0, .slice none 0 0,[],[]⟩ rfl rfl ?_ ?_
 ·exact⟨aV _,trivial,trivial,Gr.nl⟩
 intro g j hg
 refine kv ?_
 obtain⟨k,v,D1,DG⟩:=g
 simp only at hg ⊢
 obtain⟨hk,cR,be,cI⟩:=hg
 by_cases aC:k<3
 ·have d1:decide ((k:Int)<3)=true:=aK oM
  have ixk:=JH aC
  have eV:=Io hB k hk
  have jW:=Ky hB aC
  refine kz [10] (aN @oH (aN @d1 @ixk)) ?_
  refine Ow.callC rfl rfl call57 (fun w' aA=>Km w' G S (cB k) (Gd.old aA (cR.app be)) hB) (fun B3 v3 D3 fO mC fC eO=> ?_)
  rw[BB aC,←IW] at eO
  obtain⟨sn,dk⟩: ∃sn,(if S.off=true then [] else(S.dir k).seen)=sn:=⟨_,rfl⟩
  have yJ:iq S k=sn.map fun p=>⟨cB k,p.1,(S.files.getD p.2 cg).data⟩:=by unfold iq;rw[dk]
  have hsm: ∀p,p∈sn→p∈ (S.dir k).seen:=by
   intro p hp
   rw[←dk] at hp
   split at hp
   ·cases hp
   exact hp
  rw[dk] at eO
  rw[yJ,List.length_map] at jW
  have iW:New w.heap.size D3:=fC.mono mC
  have ln3:=ru eO
  rw[List.length_map] at ln3
  refine ko (aN @oH @ln3) ?_
  refine Cw.world fun w1 aI=> ?_
  obtain⟨rb,off,arr,E,fz,pA,bQ⟩:=eO.rowL (z:= []) (by rw[List.length_map]) ((aI.perm (M:=D3++ (D1++DG)) List.perm_append_comm).part) I'
  have hlk': ∀ (G:aB),0<sn.length→aU w (D3++G) rb=some (.cells arr E fz):=by
   intro G h0
   exact aQ (az (bQ (by rw[List.length_map];exact h0)))
  clear aI bQ
  refine Cw.permL (M:=D3++ (D1++DG)) List.perm_append_comm ?_
  refine Cw.loopG (G:=FjG) [17,18,19,7,20,21,22,23,24,25,26,27,28,29,30,31,32,33,34,35,36,37,38,39,3,40,16] (fun g=> [(3,g.v),(16,vi g.j)]) (fun g=>D3++ (g.D1++g.DG)) (fun g=>g.j≤sn.length∧New w.heap.size g.D1∧New w.heap.size g.DG∧Gr g.D1 68 3 g.v ((iN S k).length+g.j) ((iN S k++ (iq S k).take g.j).map fiC).flatten) (fun g=>sn.length - g.j) ⟨0,v,D1,DG⟩ rfl rfl ?_ ?_
  ·exact⟨aV _,cR,be,by simpa using cI⟩
  intro g j hg
  refine kv ?_
  clear cI cR be
  obtain⟨j,v,D1,DG⟩:=g
  simp only at hg ⊢
  obtain⟨hj,cR,be,cI⟩:=hg
  by_cases hjt:j<sn.length
  ·have d2:decide ((j:Int)< (sn.length:Int))=true:=aK oM
   have vF:j< (sn.map Prod.fst).length:=by rw[List.length_map];exact hjt
   have ix3:=pA.idx false j vF
   have ld3:=fun n=>Ac pA vF n
   have rd3:=hlk' (D1++DG) oM
   have hp:sn[j]'hjt∈ (S.dir k).seen:=hsm _ (List.getElem_mem _)
   have hse: (sn.map Prod.fst).getD j []=(sn[j]'hjt).1:=by simp[List.getD_eq_getElem?_getD,hjt]
   have j6: (iq S k).take (j+1)=(iq S k).take j++ [⟨cB k,(sn[j]'hjt).1,(S.files.getD (sn[j]'hjt).2 cg).data⟩]:=by
    rw[yJ,List.take_add_one]
    simp[hjt]
   rw[hse] at ld3
   generalize sn[j]'hjt=p at*
   obtain⟨x,n⟩:=p
   simp only at hp j6 ld3
   have fG:aM (S.dir k).seen x=some n:=zW (hP.ok.seen k aC).nodup hp
   have cT:n<S.files.length:=hP.ok.seenN k aC _ hp
   have Gp:New w.heap.size (D3++ (D1++DG)):=iW.app (cR.app be)
   have rdd:=old _ _ hd _ Gp
   have rdm:=old _ _ yD _ Gp
   have rdr:=old _ _ (hX _ _ (hP.dir k aC)) _ Gp
   obtain⟨os,ms,gq,gG,ij⟩:=hP.seen k aC
   have rds:=old _ _ (hX _ _ gq) _ Gp
   have rdf:=old _ _ (hX _ _ (hP.file n cT)) _ Gp
   refine ky (aN @oH (aN @d2 (aN @ix3 (aN @ld3 (aN @rd3 @rdd))))) ?_
   refine kq (aN @oH @rdd) ?_
   refine Ow.mapGetG (encK:=vs) (encV:=bC) (k:=cB k) (z:=none) rfl rfl underlying70 ju zrPd rfl rfl rdm hM ?_
   rw[Ao,qK aC]
   show Ow _ _ _ _ _ _ _ _
   have ly:bC (some (G.d k))=vp (G.d k) 0:=rfl
   refine ko (aN @oH (aN @ly @rdr)) ?_
   refine Ow.mapGetG (encK:=vs) (encV:=bC) (k:=x) (z:=none) rfl rfl underlying77 ju zrPf rfl rfl rds gG ?_
   rw[ij.get (hP.ok.seen k aC).nodup,fG]
   show Ow _ _ _ _ _ _ _ _
   have hpf:bC (some (G.fb.getD n 0))=vp (G.fb.getD n 0) 0:=rfl
   refine ko (aN @oH (aN @hpf @rdf)) ?_
   refine Ow.build (.agg (fiC ⟨cB k,x,(S.files.getD n cg).data⟩).toArray) rfl (Dq ⟨cB k,x,(S.files.getD n cg).data⟩) ?_
   refine ko @oH ?_
   refine Ow.buildSlice (e:=68) (fiC ⟨cB k,x,(S.files.getD n cg).data⟩).toArray rfl rfl (gX underlying22 tq zrFi (by decide) (oJ _)) fun ba lh im=> ?_
   refine Ow.permL (M:=D1++ (D3++ (DG++ [(ba, .cells (fiC ⟨cB k,x,(S.files.getD n cg).data⟩).toArray 68 (0,0))]))) pM ?_
   refine Ow.appendXG (e:=68) (k:=1) (new:=fiC ⟨cB k,x,(S.files.getD n cg).data⟩) (X:=D1) v rfl rfl rfl rfl underlying22 tq kR zrFi (by rw[Av,List.size_toArray,oJ]) underlying22 (by intro k h;cases h) cI (fun w' aA=>AppX.one1 (aA.has ba (.cells (fiC ⟨cB k,x,(S.files.getD n cg).data⟩).toArray 68 (0,0)) (by simp)) (oJ _) (wx _)) oM (fun B4 v4 D4 gQ ng mF rL ig rP=> ?_)
   have c_:New w.heap.size D4:=New.of_le fun q hq=>by
    rcases ig q hq with h|h
    ·exact cR.le q h
    omega
   refine Ow.permL (M:=D3++ (D4++ (DG++ [(ba, .cells (fiC ⟨cB k,x,(S.files.getD n cg).data⟩).toArray 68 (0,0))]))) pM ?_
   refine ko @oH ?_
   refine ky @oH ?_
   refine Again.mk ⟨j+1,v4,D4,DG++ [(ba, .cells (fiC ⟨cB k,x,(S.files.getD n cg).data⟩).toArray 68 (0,0))]⟩ (by show sn.length - (j+1)<sn.length - j;omega) ⟨hjt,c_,be.app ⟨im,trivial⟩, ?_⟩ rfl rfl
   show Gr D4 68 3 v4 ((iN S k).length+j+1) ((iN S k++ (iq S k).take (j+1)).map fiC).flatten
   rw[j6]
   simpa only[List.map_append,List.map_cons,List.map_nil,List.flatten_append,List.flatten_cons,List.flatten_nil,List.append_nil,List.append_assoc] using mF
  obtain rfl:j=sn.length:=by omega
  have d2:decide ((sn.length:Int)< (sn.length:Int))=false:=aO oM
  have gj: (iq S k).length=sn.length:=by rw[yJ,List.length_map]
  rw[←gj,List.take_length] at cI
  refine kz [10] (aN @oH @d2) ?_
  refine Cw.permL (M:=D1++ (D3++DG)) pM ?_
  refine ky @oH ?_
  refine Again.mk ⟨k+1,v,D1,D3++DG⟩ (by show 3 - (k+1)<3 - k;omega) ⟨aC,cR,iW.app be, ?_⟩ rfl rfl
  show Gr D1 68 3 v (iN S k++iq S k).length ((iN S k++iq S k).map fiC).flatten
  rw[List.length_append];exact cI
 obtain rfl:k=3:=by omega
 have d1:decide (((3:Nat):Int)<3)=false:=rfl
 refine ky (aN @oH @d1) ?_
 refine⟨_,(ke @oH), ?_⟩
 exact⟨Ext.of_new (cR.app be),cI.i fun p hp=>cz _ hp⟩
def hZ (b:Nat):bF prog .eql 77 (vm b) (.map none)=some (.bool false):=by
 simp[bF,eqX,eu,eW,underlying77,vm]
def PI (b:Nat) (o:Obj) (m:List (List UInt8×Option Nat)) (w:World) (ho:w.heap[b]? =some o) (hm:e_ vs bC o m):
  Rets prog 62 #[vm b] w (XS w [] (fun v D=> ∃c o',v=vm c∧D= [(c,o')]∧e_ vs bC o' m)):=by
 refine Rets.enterX func62 rfl (rs:= [.tmp 2]) results62 ntmps62 (fun p hp=>by cases hp) (by simp[keys]) ?_
 refine kf ?_
 have e1:=hZ b
 refine ky @e1 ?_
 refine Ow.ifaceMap rfl underlying77 rfl ?_
 refine Ow.cloneMap (encK:=vs) (encV:=bC) rfl rfl (fun a w=>run_callFunc_extern func105 kR kR kR (e:=Extern.MapsClone.clone) kR #[a] w) rfl (by rw[jn (by simp[keys])];exact ho) hm fun c o' hc jd ii=> ?_
 refine Ow.assertMap rfl underlying77 rfl ?_
 refine ko @Nat.add_zero ?_
 refine⟨_,(ke @Nat.add_zero), ?_⟩
 exact⟨(Ext.refl w []).app jd,c,o',rfl,rfl,ii⟩
def u16C (x:UInt16):List Value:= [v16 x]
def VC (x:UInt16): (u16C x).length=1:=rfl
abbrev xl (w:World) (v:Value) (l:List UInt16):Prop:=SlV 1 u16C 0 w v l
def PkS (w:World) (v:Value) (l:List UInt16):Prop:=xl w v l∨(l= []∧ ∃a c,v= .slice (some a) 0 c)
theorem PkS.len {w:World} {v:Value} {l:List UInt16} (h:PkS w v l) (x:Bool×Nat):gY (.sl x) v=some (vi l.length):=by
 rcases h with h| ⟨rfl,a,c,rfl⟩
 ·exact SlV.len h x
 rfl
def PkS.cell {w:World} {v:Value} {l:List UInt16} (h:PkS w v l):Value.oneCell' v=true∧v.cells= #[v]:=by
 rcases h with⟨b,off,c,arr,E,fz,hr,hc,⟨rfl,-,-⟩ | ⟨rfl,-,-⟩⟩ | ⟨rfl,a,c,rfl⟩
 ·exact⟨rfl,rfl⟩
 ·exact⟨rfl,rfl⟩
 exact⟨rfl,rfl⟩
theorem PkS.old {w w':World} {L:aB} {v:Value} {l:List UInt16} (h:PkS w v l) (hw:Hp w L w') (hb:l≠ []→ ∀b,slB v=some b→b∉keys L):PkS w' v l:=by
 by_cases hl:l= []
 ·subst hl
  rcases h with⟨b,off,c,arr,E,fz,hr,hc,⟨rfl,-,-⟩ | ⟨rfl,-,-⟩⟩ |h
  ·exact .inl (SlV.nil w')
  ·exact .inr ⟨rfl,_,_,rfl⟩
  exact .inr h
 exact .inl ((h.resolve_right fun e=>hl e.1).old hw fun b h1 _=>hb hl b h1)
def PkB (w:World) (X:aB) (l:List UInt16) (v:Value):Prop:=l≠ []→ ∀b,slB v=some b→b<w.heap.size∧b∉keys X
def wu {w:World} {v:Value} {l:List UInt16} {b off:Nat} {arr:Array Value} {E:TypeId} {fz:Nat×Nat} (h:RowS 1 u16C 0 w v l b off arr E fz) {k:Nat} (hk:k<l.length) (n:Nat):
  aG (some (false,n)) (some (.cells arr E fz)) (off+k)=some (v16 (l.getD k 0)):=by
 have:=h.cell (j:=0) (n:=n) hk oM
 rwa [Nat.mul_one,Nat.add_zero] at this
def jG (l:List UInt16) (n:Nat):Nat:=match l with
 | []=>0
 |x::_=>x.toNat% (n+1)
def dS (v:Value):Obj:= .cells #[v] 34 (0,0)
def E7 (v:Value) (n:Nat):aG (some (false,n)) (some (dS v)) 0=some v:=(rfl)
def TV (v x:Value) (a:Bool) (hx:Value.oneCell' x=true∧x.cells= #[x]):ad (some (a,1)) (some (dS v)) 0 x=some (dS x):=
 dR [] [v] [x] [] a _ 34 rfl rfl hx.2 rfl (by simp[hx.1])
def XZ {m:Nat} {α:Type} {enc:α→List Value} {z:α} {w:World} {v:Value} {l:List α} (h:SlV m enc z w v l):Value.oneCell' v=true∧v.cells= #[v]:=by
 obtain⟨b,off,c,arr,E,fz,hr,hc,⟨rfl,-,-⟩ | ⟨rfl,-,-⟩⟩:=h
 ·exact⟨rfl,rfl⟩
 exact⟨rfl,rfl⟩
def ta:=aN @av (aN @au @E7)
def Bu (n:Nat) (b:Nat) (v:Value) (l:List UInt16) (w:World) (hn:n<4611686018427387904) (hv:PkS w v l) (hl:l.length<1000000) (p7:l≠ []→slB v≠some b) (ho:w.heap[b]? =some (dS v)):
  Rets prog 61 #[vi n,vp b 0] w (fun r D=> ∃o,D= [(b,o)]∧r=vi (jG l n:Nat)∧ ∃v',o=dS v'∧(l= []→v'=v)∧(l≠ []→gb (.sl (false,1)) v (some (some 1)) none=some v')):=by
 refine Rets.enterM func61 rfl (rs:= [.tmp 3]) results61 ntmps61 ho ?_
 refine kf ?_
 have ln:=hv.len
 cases l with
 |nil=>
  refine ky (aN @ta @ln) ?_
  refine⟨_,_,_,(ke @ta),rfl,trivial, ?_⟩
  exact⟨rfl,v,rfl,fun _=>rfl,fun h=>absurd rfl h⟩
 |cons x l=>
  have hv:xl w v (x::l):=hv.resolve_right fun e=>by cases e.1
  obtain⟨v1,h1,h2,-⟩:=hv.dropE (k:=1) (by simp) false
  have du:=XZ h2
  have st:=fun a=>TV v v1 a du
  obtain⟨rb,off,c,arr,E,fz,hr,hc,⟨q1,q2,q3⟩ | ⟨rfl,hb,-⟩⟩:=hv
  ·exact absurd q2 (by simp)
  have aX:rb≠b:=fun e=>p7 (by simp) (by rw[e];rfl)
  have ix:=hr.idx false 0 (by simp)
  have ld:=fun n=>wu hr (k:=0) (by simp) n
  have e0: ((((x::l).length:Nat):Int)==0)=false:=beq_eq_false_iff_ne.2 (by simp;omega)
  have rd:aU w [(b,dS (vsl rb off (x::l).length c))] rb=some (.cells arr E fz):=by rw[jn (by simpa [keys] using aX)];exact hb
  rw[Nat.zero_mul,Nat.add_zero] at ix
  rw[show((1:Nat):Int)=1 from rfl] at h1
  simp only[Nat.add_zero] at ld
  refine ky (aN @ta (aN @ln (aN @e0 (aN @ix (aN @ld (aN @rd (aN @h1 @st))))))) ?_
  refine⟨_,_,_,(ke @ta),rfl,trivial, ?_⟩
  refine⟨?_,v1,rfl,fun h=>absurd h (by simp),fun _=>h1⟩
  show vi _=vi _
  congr 1
def DkP.stl1 {X L:aB} {G:DkG} {S:DiskL} (h:DkP X G S) {k:Nat} (hk:k<3) {l':NmL} (keep: ∀b o,Sx.look X b=some o→b≠G.t k→Sx.look L b=some o) (hs:NmM L G.fb (G.t k) l') (h1:SrtN l') (h3: ∀p,p∈l'→p.2<S.files.length):
  DkP L G (dY S k ⟨(S.dir k).seen,l',(S.dir k).pend⟩):=by
 obtain⟨osk,msk,rU,rS,-⟩:=h.stl k hk
 have dj: ∀b o,Sx.look X b=some o→tyO o≠none→b≠G.t k:=by
  rintro b o hb ht rfl
  rw[rU] at hb;cases hb;exact ht (kG rS)
 have K: ∀b o,Sx.look X b=some o→tyO o≠none→Sx.look L b=some o:=fun b o hb h1=>keep b o hb (dj b o hb h1)
 have es: ∀j,(dY S k ⟨(S.dir k).seen,l',(S.dir k).pend⟩).dir j=if j=k then⟨(S.dir k).seen,l',(S.dir k).pend⟩ else S.dir j:=fun _=>rfl
 have e2: ∀j,((dY S k ⟨(S.dir k).seen,l',(S.dir k).pend⟩).dir j).seen=(S.dir j).seen:=fun j=>by
  rw[es];by_cases e:j=k
  ·subst e;rw[if_pos rfl]
  rw[if_neg e]
 have e3: ∀j,((dY S k ⟨(S.dir k).seen,l',(S.dir k).pend⟩).dir j).pend=(S.dir j).pend:=fun j=>by
  rw[es];by_cases e:j=k
  ·subst e;rw[if_pos rfl]
  rw[if_neg e]
 refine⟨K _ _ h.disk (by simp[tyO,bl]), ?_,fun j hj=>K _ _ (h.dir j hj) (by simp[tyO,d7]),fun j hj=> ?_,fun j hj=> ?_,fun j hj=> ?_,fun n hn=>K _ _ (h.file n hn) (by simp[tyO,dH]),h.len,h.nodf,h.nodm,h.nodd,h.nodb,h.nodp,AJ h.ok _ (h.ok.seen k hk) h1 (h.ok.seenN k hk) h3 (h.ok.pendN k hk)⟩
 ·obtain⟨o,h1,h2⟩:=h.dirs
  exact⟨o,keep _ _ h1 (h.nodb k hk).2,h2⟩
 ·rw[e2]
  obtain⟨o,m,h1,h2,h3⟩:=h.seen j hj
  exact⟨o,m,keep _ _ h1 (qS h.nodm hj hk).2.2,h2,h3⟩
 ·rw[es]
  by_cases e:j=k
  ·subst e;rw[if_pos rfl];exact hs
  rw[if_neg e]
  obtain⟨o,m,h1,h2,h3⟩:=h.stl j hj
  exact⟨o,m,keep _ _ h1 ((qS h.nodm hj hk).2.1 e),h2,h3⟩
 rw[e3]
 obtain⟨vals,h1,h2,h3⟩:=h.pend j hj
 refine⟨vals,h1,h2.keep fun b o hb ho=> ?_,fun i hi=>(h3 i hi).keep fun b o ho hx=>K b o ho ?_⟩
 ·obtain⟨arr,ha⟩:=jD h2 hb
  rw[ho] at ha;cases ha
  exact K _ _ ho (by simp[tyO])
 rcases hx with⟨s,rfl⟩ | ⟨a,rfl⟩<;>simp[tyO,dz,ptrO]
def iz (S:DiskL) (k:Nat) (d:DirL): (dY S k d).dir k=d:=by
 unfold dY;simp
def jM (S:DiskL) {k j:Nat} (d:DirL) (h:j≠k): (dY S k d).dir j=S.dir j:=by
 unfold dY;simp[h]
def Be (S:DiskL) (k:Nat) (d d':DirL):dY (dY S k d) k d'=dY S k d':=by
 unfold dY
 simp only
 congr 1
 funext j
 by_cases e:j=k
 ·rw[if_pos e,if_pos e]
 rw[if_neg e,if_neg e,if_neg e]
def GL (d:DirL):Prop:= ∀i,i<d.pend.length→okC ((d.pend.take i).foldl ci d.stl) (d.pend.getD i l9)
def eQ (S:DiskL) (k i:Nat):NmL:=((S.dir k).pend.take i).foldl ci (S.dir k).stl
def w6 (q:DiskL×List UInt16) (k:Nat):DiskL×List UInt16:=
 (dY q.1 k ⟨eQ q.1 k (jG q.2 (q.1.dir k).pend.length),eQ q.1 k (jG q.2 (q.1.dir k).pend.length),[]⟩,q.2.drop 1)
def dX (q:DiskL×List UInt16):Nat→DiskL×List UInt16
 |0=>q
 |k+1=>w6 (dX q k) k
def Ar (l:List UInt16) (n:Nat):jG l n≤n:=by
 unfold jG
 split
 ·exact aV _
 have:=Nat.mod_lt ‹UInt16›.toNat (show 0<n+1 by omega)
 omega
def BC {S:DiskL} {k i:Nat} (h:i< (S.dir k).pend.length):eQ S k (i+1)=ci (eQ S k i) ((S.dir k).pend.getD i l9):=by
 unfold eQ
 rw[StP.take_snoc (z:=l9) h,List.foldl_append];rfl
def DkP.away {X:aB} {G:DkG} {S:DiskL} (h:DkP X G S) {b:Nat} {v:Value} (hb:Sx.look X b=some (dS v)) (x:Obj):DkP (setB X b x) G S where
 disk:=iD hb h.disk (by simp[tyO,bl,dS])
 dirs:=by obtain⟨o,h1,h2⟩:=h.dirs;exact⟨o,iD hb h1 (by rw[kG h2];intro e;cases e),h2⟩
 dir k dQ:=iD hb (h.dir k dQ) (by simp[tyO,d7,dS])
 seen k dQ:=by
  obtain⟨o,m,h1,h2,h3⟩:=h.seen k dQ
  exact⟨o,m,iD hb h1 (by rw[kG h2];intro e;cases e),h2,h3⟩
 stl k dQ:=by
  obtain⟨o,m,h1,h2,h3⟩:=h.stl k dQ
  exact⟨o,m,iD hb h1 (by rw[kG h2];intro e;cases e),h2,h3⟩
 pend k dQ:=by
  obtain⟨vals,h1,h2,h3⟩:=h.pend k dQ
  refine⟨vals,h1,h2.keep fun b o dO ho=> ?_,fun i hi=>(h3 i hi).keep fun b o ho hx=>iD hb ho ?_⟩
  ·obtain⟨arr,ha⟩:=jD h2 dO
   rw[ho] at ha;cases ha
   exact iD hb ho (by simp[tyO,dS])
  rcases hx with⟨s,rfl⟩ | ⟨a,rfl⟩<;>simp[tyO,dS,dz,ptrO]
 file n hn:=iD hb (h.file n hn) (by simp[tyO,dH,dS])
 len:=h.len
 nodf:=h.nodf
 nodm:=h.nodm
 nodd:=h.nodd
 nodb:=h.nodb
 nodp:=h.nodp
 ok:=h.ok
def DP {w:World} {v v':Value} {q:List UInt16} (hv:PkS w v q) (h1:q= []→v'=v) (h2:q≠ []→gb (.sl (false,1)) v (some (some 1)) none=some v'):PkS w v' (q.drop 1)∧ ∀ {X:aB},PkB w X q v→PkB w X (q.drop 1) v':=by
 cases q with
 |nil=>rw[h1 rfl];exact⟨hv,fun h=>h⟩
 |cons x l=>
  have hv:xl w v (x::l):=hv.resolve_right fun e=>by cases e.1
  obtain⟨v2,e1,e2,e3⟩:=hv.dropE (k:=1) (by simp) false
  have:=h2 (by simp)
  rw[show((1:Nat):Int)=1 from rfl,this] at e1
  cases e1
  exact⟨.inl e2,fun h _ b hb=>h (by simp) b (e3 b hb)⟩
def Xq {w w1:World} {L:aB} {T:TypeId} {v:Value} {vals:List Value} (h:Gr L T 1 v vals.length vals) (hw:Hp w L w1) {n:Nat} (hn:n≤vals.length):
  ∃vc rb off arr E fz,gb (.sl (false,1)) v none (some (some (n:Int)))=some vc∧RowS 1 (fun v:Value=> [v]) undef w1 vc (vals.take n) rb off arr E fz∧(0<n→Sx.look L rb=some (.cells arr E fz)):=by
 have eV:vals=(vals.map fun v:Value=> [v]).flatten:=by
  clear h hn
  induction vals with
  |nil=>rfl
  |cons x l ih=>simp[←ih]
 have bh:SlV 1 (fun v:Value=> [v]) undef w1 v vals:=h.slV hw rfl eV (fun _=>rfl)
 obtain⟨vc,h1,h2,h3⟩:=bh.take hn false
 obtain⟨b,off,c,arr,E,fz,hr,hc,⟨q1,q2,q3⟩ | ⟨q1,hb,hs⟩⟩:=h2
 ·refine⟨vc,b,off,arr,E,fz,h1,hr,fun h0=> ?_⟩
  have:=congrArg List.length q2
  rw[List.length_take,List.length_nil,Nat.min_eq_left hn] at this
  omega
 refine⟨vc,b,off,arr,E,fz,h1,hr,fun h0=> ?_⟩
 have hk:=h.key (h3 b (by rw[q1];rfl))
 obtain⟨o,ho⟩:=J1 hk
 have:=hw.has _ _ (cQ ho)
 rw[hb] at this
 rw[ho,this]
def Xg {w:World} {v:Value} {l:List Value} {b off:Nat} {arr:Array Value} {E:TypeId} {fz:Nat×Nat} (h:RowS 1 (fun v:Value=> [v]) undef w v l b off arr E fz) {k:Nat} (hk:k<l.length) (n:Nat):
  aG (some (false,n)) (some (.cells arr E fz)) (off+k)=some (l.getD k undef):=by
 have:=h.cell (j:=0) (n:=n) hk oM
 rwa [Nat.mul_one,Nat.add_zero] at this
def Rp (a b y:Nat) (v:Value) (x:Bool):ad (some (x,1)) (some (d7 a b v)) 0 (vm y)=some (d7 y b v):=dR [] [vm a] [vm y] [vm b,v] x _ 80 rfl rfl rfl rfl rfl
def OZ (S:DiskL) (k:Nat):dY S k (S.dir k)=S:=by
 unfold dY
 cases S
 simp only
 congr 1
 funext j
 by_cases e:j=k
 ·subst e;simp
 simp[e]
def eI (q:DiskL×List UInt16) (p:List UInt8×Nat):DiskL×List UInt16:=
 (eG q.1 p.2 ⟨(aE q.1 p.2).data.take ((aE q.1 p.2).stl+jG q.2 ((aE q.1 p.2).data.length - (aE q.1 p.2).stl)),((aE q.1 p.2).data.take ((aE q.1 p.2).stl+jG q.2 ((aE q.1 p.2).data.length - (aE q.1 p.2).stl))).length⟩,q.2.drop 1)
def ew (q:DiskL×List UInt16):Nat→DiskL×List UInt16
 |0=>q
 |k+1=>(q.1.dir k).seen.foldl eI (ew q k)
def fK (S:DiskL):DiskL:={S with off:=false,fused:=false}
def eL (S:DiskL) (pl:List UInt16):DiskL:=(ew (fK (dX (S,pl) 3).1,(dX (S,pl) 3).2) 3).1
def BT (q:DiskL×List UInt16) (l:NmL): (l.foldl eI q).1.dir=q.1.dir:=by
 induction l generalizing q with
 |nil=>rfl
 |cons p l ih=>rw[List.foldl_cons,ih];rfl
theorem y_ (q:DiskL×List UInt16): ∀k,(ew q k).1.dir=q.1.dir
 |0=>rfl
 |k+1=>by
  show(List.foldl eI (ew q k) _).1.dir=_
  rw[BT,y_ q k]
def Qf (q:DiskL×List UInt16) (l:NmL): (l.foldl eI q).1.off=q.1.off:=by
 induction l generalizing q with
 |nil=>rfl
 |cons p l ih=>rw[List.foldl_cons,ih];rfl
theorem Lw (q:DiskL×List UInt16): ∀k,(ew q k).1.off=q.1.off
 |0=>rfl
 |k+1=>by
  show(List.foldl eI (ew q k) _).1.off=_
  rw[Qf,Lw q k]
structure C3G where
 k:Nat
 L:aB
 v:Value
structure C4G where
 j:Nat
 L:aB
 v:Value
structure C1G where
 k:Nat
 G:DkG
 L:aB
 v:Value
structure C2G where
 j:Nat
 L:aB
theorem It (q:DiskL×List UInt16): ∀ {k j:Nat},k≤j→(dX q k).1.dir j=q.1.dir j
 |0,_,_=>rfl
 |k+1,j,h=>by
  show(dY _ k _).dir j=_
  rw[jM _ _ oM]
  exact It q oM
def fm:=aN (aN (aN @av @au) (aN @nU (aN @pO @pK))) (aN (aN @pL @zA) (aN @zD (aN @E7 @tw)))
def Vz_ (X:aB) (G0:DkG) (S:DiskL) (v0:Value) (pl:List UInt16) (w:World) (hX: ∀p,p∈X→w.heap[p.1]? =some p.2) (hn: (keys X).Nodup) (mG:DkP X G0 S) (hGl:lU w) (yR:0∉keys X) (hB:DkB (dX (S,pl) 3).1)
  (uU:PkS w v0 pl) (z_:PkB w X pl v0) (fc:pl.length<1000000) (sU: ∀k,k<3→GL (S.dir k)∧(S.dir k).pend.length<1000000):
  Rets prog 24 #[vp G0.bd 0,v0] w (XS w X (fun _v D=> ∃G',G'.bd=G0.bd∧DkP D G' (eL S pl))):=by
 obtain⟨eg,fzg,zr⟩:=hGl
 refine Rets.enterX func24 rfl (rs:= []) results24 ntmps24 hX hn ?_
 refine kf ?_
 refine kz [3] @fm ?_
 refine Ow.box rfl rfl fun bk uz A4=> ?_
 simp only[dC,cy,dA,uU.cell.2]
 refine Ow.permL (M:=X++ [(bk,dS v0)]) (List.Perm.refl _) ?_
 refine ko @fm ?_
 refine kz [3] @fm ?_
 simp only[List.map_toArray,List.map_cons,List.map_nil,dC,cy,dA]
 have rdg: ∀L,Ext w X L→aU w L 0=some (.cells #[vs aD,vs lN,vs refD] eg fzg):=fun L hE=>hE.old zr yR
 have mD:Ext w X (X++ [(bk,dS v0)]):=(Ext.refl w X).app A4
 have vP:=rdg _ mD
 have sP:Sx.look (X++ [(bk,dS v0)]) bk=some (dS v0):=rz uz
 have ap:DkP (X++ [(bk,dS v0)]) G0 S:=mG.mono fun b o h=>az h
 generalize X++ [(bk,dS v0)]=L0 at*
 refine kz [5,8,12,16] (aN @fm (aN @vP @KI)) ?_
 refine Cw.loopG (G:=C1G) [20,21,6,22,23,24,25,26,27,7,28,29,30,31,32,33,34,35,36,37,38,39,40,41,42,43,44,9,45,46,47,48,49,50,51,52,53,54,55,56,57,58,59,60,61,62,63,19] (fun g=> [(19,vi g.k)]) (fun g=>g.L) (fun g=>g.k≤3∧DkP g.L g.G (dX (S,pl) g.k).1∧g.G.bd=G0.bd∧Sx.look g.L bk=some (dS g.v)∧PkS w g.v (dX (S,pl) g.k).2∧PkB w X (dX (S,pl) g.k).2 g.v∧Ext w X g.L∧(dX (S,pl) g.k).2.length<1000000) (fun g=>3 - g.k) ⟨0,G0,L0,v0⟩ rfl rfl ?_ ?_
 ·exact⟨aV _,ap,rfl,sP,uU,z_,mD,fc⟩
 intro g j hg
 refine kv ?_
 clear vP sP ap mD
 obtain⟨k,G,L,v⟩:=g
 simp only at hg ⊢
 obtain⟨hk,hP,bP,bQ,hv,I6,hE,Hl⟩:=hg
 rw[←bP]
 by_cases aC:k<3
 ·have d1:decide ((k:Int)<3)=true:=aK oM
  have ixk:=JH aC
  obtain⟨om,lF,hM⟩:=hP.dirs
  have ce:=aQ (w0:=w) hP.disk
  have hrr:=aQ (w0:=w) (hP.dir k aC)
  have ly:bC (some (G.d k))=vp (G.d k) 0:=rfl
  have qC:=It (S,pl) (bq k)
  simp only at qC
  obtain⟨vals,I7,cI,hF⟩:=hP.pend k aC
  rw[qC] at I7 hF
  have hpn1:=(sU k aC).2
  have lnp:=cI.len (false,1)
  refine ky (aN @fm (aN @d1 (aN @ixk @ce))) ?_
  refine Ow.mapGetG (encK:=vs) (encV:=bC) (k:=cB k) (z:=none) rfl rfl underlying70 ju zrPd rfl rfl (aQ lF) hM ?_
  rw[Ao,qK aC]
  show Ow _ _ _ _ _ _ _ _
  refine ko (aN @fm @ly) ?_
  refine ky @fm ?_
  refine Cw.regionS [G.d k] [0,1,2,4,5,6,7,13,3,8,9,10,11,12] [] kR kR kR ?_
  simp only[ai, ↓ah, ↓ab, ↓ag, ↓ae,ac]
  refine kq (aN @fm (aN @hrr @lnp)) ?_
  refine Ow.soft rfl rfl rfl ?_
  refine Ow.callFnXC (b:=vi vals.length) (ars:= #[vi vals.length,vp bk 0]) rfl (X:=L) (Y:= []) (List.append_nil _).symm rfl rfl rfl rfl call61 (fun w' aA aZ aT=>Rets.chunk aZ aT (bY bQ) (Bu vals.length bk v (dX (S,pl) k).2 w' oM (hv.old aA fun hq b hb=>hE.not (I6 hq b hb).1 (I6 hq b hb).2) Hl (fun hq e=>by have:=(I6 hq bk e).1;omega) (aZ _ (cQ bQ)))) (fun r D hC hS=> ?_)
  obtain⟨o,rfl,rfl,v',rfl,uV,A3⟩:=hS
  rw[List.append_nil]
  obtain⟨hvn,yt⟩:=DP hv uV A3
  have ap:=hP.away bQ (dS v')
  have cE:=hE.came0 hC
  have cS: ∀b o,Sx.look L b=some o→tyO o≠some 34→Sx.look (setB L bk (dS v')) b=some o:=fun b o hb ht=>iD bQ hb ht
  have nL:Sx.look (setB L bk (dS v')) bk=some (dS v'):=dp bQ
  have hrr1:=aQ (w0:=w) (ap.dir k aC)
  have hGr1:Gr (setB L bk (dS v')) 125 1 (G.p k) vals.length vals:=cI.keep fun b o hb ho=>by
   obtain⟨arr,ha⟩:=jD cI hb
   rw[ho] at ha;cases ha
   exact cS _ _ ho (by simp[tyO])
  have hF1: ∀i,i<vals.length→FnP (setB L bk (dS v')) G.fb (vals.getD i undef) ((S.dir k).pend.getD i l9):=fun i hi=>(hF i hi).keep fun b o ho hx=>cS _ _ ho (by rcases hx with⟨s,rfl⟩ | ⟨a,rfl⟩<;>simp[tyO,dz,ptrO])
  have yi:=Ar (dX (S,pl) k).2 vals.length
  have zm:dX (S,pl) (k+1)=w6 (dX (S,pl) k) k:=rfl
  unfold w6 at zm
  rw[qC,←I7] at zm
  generalize jG (dX (S,pl) k).2 vals.length=n at*
  have yC:bk≠G.d k:=fun e=>by
   have zo:=ap.dir k aC
   rw[←e,nL] at zo
   simp[d7,dS] at zo
  generalize setB L bk (dS v')=L1 at*
  refine Ow.world fun w1 aI=> ?_
  obtain⟨vc,rb,off,arr,E,fz,bh,hrw,hlr⟩:=Xq hGr1 aI yi
  clear aI
  have lnc:=hrw.len (false,1)
  rw[List.length_take,Nat.min_eq_left yi] at lnc
  with_reducible refine Ow.nil ?_
  refine⟨fun b hb=>by rw[List.mem_singleton] at hb;subst hb;rw[hrr,hrr1], ?_⟩
  refine kq (aN @fm (aN @bh @lnc)) ?_
  have Hw:dY (dX (S,pl) k).1 k ⟨((dX (S,pl) k).1.dir k).seen,eQ (dX (S,pl) k).1 k 0,((dX (S,pl) k).1.dir k).pend⟩=(dX (S,pl) k).1:=OZ _ _
  have gF: ∀j,eQ (dX (S,pl) k).1 k j=eQ S k j:=fun j=>by unfold eQ;rw[qC]
  have rX: (dX (S,pl) (k+1)).2=(dX (S,pl) k).2.drop 1:=rfl
  generalize dX (S,pl) k=q at*
  obtain⟨Sk,pk⟩:=q
  simp only at*
  refine Cw.loopG (G:=C2G) [42,43,44,9,45,46,47,48,49,50,51,41] (fun g=> [(41,vi g.j)]) (fun g=>g.L) (fun g=>g.j≤n∧DkP g.L G (dY Sk k ⟨(Sk.dir k).seen,eQ Sk k g.j,(Sk.dir k).pend⟩)∧Sx.look g.L bk=some (dS v')∧Ext w X g.L∧(∀b o,Sx.look L1 b=some o→b≠G.t k→Sx.look g.L b=some o)) (fun g=>n - g.j) ⟨0,L1⟩ rfl rfl ?_ ?_
  ·exact⟨aV _,by rw[Hw];exact ap,nL,cE,fun _ _ h _=>h⟩
  intro g j hg
  refine kv ?_
  obtain⟨j,L2⟩:=g
  simp only at hg ⊢
  obtain⟨hj,bE,dv,bZ,vG⟩:=hg
  by_cases hjt:j<n
  ·have d2:decide ((j:Int)< (n:Int))=true:=aK oM
   have vF:j< (vals.take n).length:=by rw[List.length_take,Nat.min_eq_left yi];exact hjt
   have ix3:=hrw.idx false j vF
   rw[Nat.mul_one] at ix3
   have ld3:=fun n=>Xg hrw vF n
   have hvj: (vals.take n).getD j undef=vals.getD j undef:=by
    rw[List.getD_eq_getElem?_getD,List.getD_eq_getElem?_getD,List.getElem?_take_of_lt hjt]
   rw[hvj] at ld3
   have hpj:j< (S.dir k).pend.length:=by omega
   have I2: ∀ {b:Nat} {o:Obj},Sx.look L1 b=some o→tyO o≠none→b≠G.t k:=by
    intro b o hb ht e
    obtain⟨ot,mt,sT,lx,-⟩:=ap.stl k aC
    rw[e,sT] at hb;cases hb
    exact ht (kG lx)
   have hFj:FnP L2 G.fb (vals.getD j undef) ((S.dir k).pend.getD j l9):=(hF1 j oM).keep fun b o ho hx=>vG b o ho (I2 ho (by rcases hx with⟨s,rfl⟩ | ⟨a,rfl⟩<;>simp[tyO,dz,ptrO]))
   have be:=bE.stl k aC
   have eA:=bE.ok.stl k aC
   have gp:=bE.ok.stlN k aC
   have k9:=bE.ok.pendN k aC
   rw[iz] at be eA gp k9
   have bU:okC (eQ Sk k j) ((S.dir k).pend.getD j l9):=by rw[gF];exact(sU k aC).1 j hpj
   obtain⟨fk,cap,K6,gl,j_⟩:=LU hFj be eA bU
   rw[K6] at ld3
   have hlr2:=vG rb _ (hlr oM) (I2 (hlr oM) (by simp[tyO]))
   have rd3:=aQ (w0:=w) hlr2
   have yo:=aQ (w0:=w) (bE.dir k aC)
   have hbk2:=I2 nL (by simp[tyO,dS])
   refine ky (aN @fm (aN @d2 (aN @ix3 (aN @ld3 (aN @rd3 @yo))))) ?_
   refine Ow.callFnXC (b:=vm (G.t k)) (cap:=cap) (ars:= #[vm (G.t k)]++cap) rfl (X:=L2) (Y:= []) (List.append_nil _).symm rfl rfl rfl rfl gl (fun w' aA aZ aT=>j_ w' aZ aT) (fun r D hC hS=> ?_)
   rw[List.append_nil]
   obtain⟨rfl,o',hO,fC⟩:=hS
   have lY:=bZ.came0 hC
   have j4:=bE.stl1 aC (l':=ci (eQ Sk k j) ((S.dir k).pend.getD j l9)) (fun b o hb aX=>(hO.rest b aX).trans hb) fC (wr _ eA) (Iz gp bU fun h0=>k9 _ (by show _∈ (Sk.dir k).pend;rw[qC,List.getD_eq_getElem?_getD,List.getElem?_eq_getElem hpj];exact List.getElem_mem _) h0)
   rw[iz,Be] at j4
   have cF:eQ Sk k (j+1)=ci (eQ Sk k j) ((S.dir k).pend.getD j l9):=by rw[BC (by rw[qC];exact hpj),qC]
   refine ko @fm ?_
   refine ky @fm ?_
   exact Again.mk ⟨j+1,D⟩ (by show n - (j+1)<n - j;omega) ⟨hjt,by rw[cF];exact j4,(hO.rest bk hbk2).trans dv,lY,fun b o hb aX=>(hO.rest b aX).trans (vG b o hb aX)⟩ rfl rfl
  obtain rfl:j=n:=by omega
  have d2:decide ((j:Int)< (j:Int))=false:=aO oM
  have be:=bE.stl k aC
  have eA:=bE.ok.stl k aC
  have gp:=bE.ok.stlN k aC
  rw[iz] at be eA gp
  obtain⟨ot,mt,sT,lx,ij⟩:=be
  have gj:=bE.dir k aC
  have yo:=aQ (w0:=w) gj
  refine kz [13] (aN @fm (aN @d2 @yo)) ?_
  refine Ow.callC rfl rfl call62 (fun w' aA=>PI (G.t k) ot mt w' (aA.has _ _ (cQ sT)) lx) (fun B4 v4 D4 gQ ng c_ ar=> ?_)
  obtain⟨c,o4,rfl,rfl,hm4⟩:=ar
  have qA:fU L2 c:=io fun b hb=>by
   have h1:=ak gQ hb
   have h2:=c_.le c (by simp[keys])
   omega
  have uF:c∉keys L2:=fun hm=>by have:=ak qA hm;omega
  have k7:Sx.look (L2++ [(c,o4)]) (G.d k)=some (d7 (G.s k) (G.t k) (G.p k)):=az gj
  have hlc3:Sx.look (L2++ [(c,o4)]) c=some o4:=rz qA
  have hkp3: ∀b o,Sx.look L2 b=some o→Sx.look (L2++ [(c,o4)]) b=some o:=fun b o h=>az h
  have lY:=bZ.app (o:=o4) (b:=c) (by have:=c_.le c (by simp[keys]);omega)
  generalize L2++ [(c,o4)]=L3 at*
  have pA:=aQ (w0:=w) k7
  have st0:=fun x=>Rp (G.s k) (G.t k) c (G.p k) x
  have rA:c≠G.d k:=fun e=>uF (by rw[e];exact bY gj)
  have rM:Sx.look (setB L3 (G.d k) (d7 c (G.t k) (G.p k))) (G.d k)=some (d7 c (G.t k) (G.p k)):=dp k7
  have hlc4:Sx.look (setB L3 (G.d k) (d7 c (G.t k) (G.p k))) c=some o4:=by rw[bR (Ne.symm rA)];exact hlc3
  have yW: ∀b o,Sx.look L2 b=some o→b≠G.d k→Sx.look (setB L3 (G.d k) (d7 c (G.t k) (G.p k))) b=some o:=fun b o h aX=>by rw[bR (Ne.symm aX)];exact hkp3 b o h
  have cj:=lY.setB (b:=G.d k) (o:=d7 c (G.t k) (G.p k))
  refine ko (aN @fm (aN @k7 (aN @st0 @lz))) ?_
  generalize setB L3 (G.d k) (d7 c (G.t k) (G.p k))=L4 at*
  have J':=aQ (w0:=w) rM
  have st2:=fun x=>Kl c (G.t k) (G.p k) (.slice none 0 0) x ⟨rfl,rfl⟩
  refine ky (aN @fm (aN @rM (aN @J' (aN @st2 @lz)))) ?_
  have hkp5: ∀b o,Sx.look L2 b=some o→b≠G.t k→b≠G.d k→Sx.look (setB L4 (G.d k) (d7 c (G.t k) (.slice none 0 0))) b=some o:=fun b o h _ aX=>by rw[bR (Ne.symm aX)];exact yW b o h aX
  have rQ: ∀ {b:Nat} {o:Obj} {m:List (List UInt8×Option Nat)},Sx.look L2 b=some o→e_ vs bC o m→b≠G.d k:=by
   intro b o m hb hm e
   rw[e,gj] at hb;cases hb
   obtain⟨es,cl,h,-⟩:=hm;cases h
  have sI:=bE.calm aC (s':=c) ⟨eQ Sk k j,eQ Sk k j,[]⟩ rfl hkp5 ⟨o4,mt,by rw[bR (Ne.symm rA)];exact hlc4,hm4,ij⟩ ⟨ot,mt,by rw[bR (Ne.symm (rQ sT lx))];exact yW _ _ sT (rQ sT lx),lx,ij⟩ (dp rM) (.inr uF) eA eA gp gp
  rw[Be] at sI
  have hbkd2:bk≠G.d k:=fun e=>yC e
  exact Again.mk ⟨k+1,qr G k c,setB L4 (G.d k) (d7 c (G.t k) (.slice none 0 0)),v'⟩ (by show 3 - (k+1)<3 - k;omega) ⟨aC,by rw[zm];exact sI,rfl,by rw[bR (Ne.symm yC)];exact yW _ _ dv yC,by rw[zm];exact hvn,by rw[zm];exact yt I6,cj.setB,by rw[zm];show(pk.drop 1).length<1000000;rw[List.length_drop];omega⟩ rfl rfl
 obtain rfl:k=3:=by omega
 have d1:decide (((3:Nat):Int)<3)=false:=rfl
 unfold eL
 generalize dX (S,pl) 3=q at*
 obtain⟨S3,p3⟩:=q
 simp only at*
 have kr:DkOk {S3 with off:=false}:=⟨hP.ok.seen,hP.ok.stl,hP.ok.seenN,hP.ok.stlN,hP.ok.pendN,hP.ok.file,hP.ok.fuse,hP.ok.max⟩
 have ap:=hP.setDisk {S3 with off:=false} rfl rfl kr
 have uM:DkOk (fK S3):=⟨hP.ok.seen,hP.ok.stl,hP.ok.seenN,hP.ok.stlN,hP.ok.pendN,hP.ok.file,⟨hP.ok.fuse.1,hP.ok.fuse.2.1,fun h=>by cases h⟩,hP.ok.max⟩
 have bE:=ap.setDisk (fK S3) rfl rfl uM
 have vP:=aQ (w0:=w) hP.disk
 have fq:=hP.disk
 have gp:=ap.disk
 have st4:=fun x=>Bx G.bm S3 false x
 have st3:=fun x=>Bl G.bm {S3 with off:=false} false x
 have hrg:=rdg
 have H5:bk≠G.bd:=fun e=>by
  have zo:=hP.disk
  rw[←e,bQ] at zo
  simp[bl,dS] at zo
 have dv:Sx.look (setB (setB L G.bd (bl G.bm {S3 with off:=false})) G.bd (bl G.bm (fK S3))) bk=some (dS v):=by
  rw[bR (Ne.symm H5),bR (Ne.symm H5)];exact bQ
 have bZ:=(hE.setB (b:=G.bd) (o:=bl G.bm {S3 with off:=false})).setB (b:=G.bd) (o:=bl G.bm (fK S3))
 have nP:=rdg _ bZ
 have hr5:aU w (setB (setB L G.bd (bl G.bm {S3 with off:=false})) G.bd (bl G.bm {S3 with off:=false,fused:=false})) 0=_:=nP
 have fZ:Sx.look (setB (setB L G.bd (bl G.bm {S3 with off:=false})) G.bd (bl G.bm {S3 with off:=false,fused:=false})) bk=some (dS v):=dv
 have hE5:Ext w X (setB (setB L G.bd (bl G.bm {S3 with off:=false})) G.bd (bl G.bm {S3 with off:=false,fused:=false})):=bZ
 have sI:DkP (setB (setB L G.bd (bl G.bm {S3 with off:=false})) G.bd (bl G.bm {S3 with off:=false,fused:=false})) G (fK S3):=bE
 clear nP dv bZ bE
 refine kz [17] (aN @fm (aN @d1 (aN @fq (aN @gp (aN @st4 (aN @st3 (aN @lz (aN @hr5 @KI)))))))) ?_
 generalize hL5:setB (setB L G.bd (bl G.bm {S3 with off:=false})) G.bd (bl G.bm {S3 with off:=false,fused:=false})=L5 at*
 have Jo: (fK S3).dir=S3.dir:=rfl
 have how: (fK S3).off=false:=rfl
 generalize fK S3=S5 at*
 refine Cw.loopG (G:=C3G) [72,73,11,74,75,76,77,78,79,80,81,13,82,83,84,85,86,87,88,89,90,91,92,14,93,94,95,96,97,98,99,100,101,102,103,104,105,106,107,108,109,110,111,112,113,114,115,116,117,118,119,120,121,122,123,124,125,126,127,71] (fun g=> [(71,vi g.k)]) (fun g=>g.L) (fun g=>g.k≤3∧DkP g.L G (ew (S5,p3) g.k).1∧Sx.look g.L bk=some (dS g.v)∧PkS w g.v (ew (S5,p3) g.k).2∧PkB w X (ew (S5,p3) g.k).2 g.v∧Ext w X g.L∧(ew (S5,p3) g.k).2.length<1000000) (fun g=>3 - g.k) ⟨0,L5,v⟩ rfl rfl ?_ ?_
 ·exact⟨aV _,sI,fZ,hv,I6,hE5,Hl⟩
 intro g j hg
 refine kv ?_
 obtain⟨k,L6,v6⟩:=g
 simp only at hg ⊢
 obtain⟨ns,n8,yX,hv6,hvb6,mE,hpl6⟩:=hg
 by_cases kj:k<3
 ·have d6:decide ((k:Int)<3)=true:=aK oM
  have ixk:=JH kj
  have sL:=y_ (S5,p3) k
  have ho6:=Lw (S5,p3) k
  simp only at sL ho6
  have ni:DkB (ew (S5,p3) k).1:=by
   intro i hi
   rw[sL,Jo];exact hB i hi
  have yH:ew (S5,p3) (k+1)=((S5.dir k).seen).foldl eI (ew (S5,p3) k):=rfl
  refine kz [26] (aN @fm (aN @d6 @ixk)) ?_
  refine Ow.callC rfl rfl call57 (fun w' aA=>Km w' G (ew (S5,p3) k).1 (cB k) (n8.world aA) ni) (fun B7 v7 D7 hA7 u6 n4 ow=> ?_)
  rw[BB kj,sL,ho6,how,if_neg (by simp),←IW] at ow
  obtain⟨sn,dk⟩: ∃sn,(S5.dir k).seen=sn:=⟨_,rfl⟩
  rw[dk] at yH ow
  have ln7:=ru ow
  rw[List.length_map] at ln7
  refine ko (aN @fm @ln7) ?_
  refine Cw.world fun w1 aI=> ?_
  obtain⟨rb,off,arr,E,fz,nw,yY⟩:=ow.rowL (z:= []) (by rw[List.length_map]) ((aI.perm (M:=D7++L6) List.perm_append_comm).part) I'
  clear aI
  have J_:=n8.ok.seen k kj
  have Hy:=(ni k kj).1
  rw[sL,dk] at J_ Hy
  have sV: ∀c,c∈keys L6→0<sn.length→rb≠c:=fun c hc h0 e=>by
   have h1:=ak hA7 hc
   have h2:=n4.le rb (bY (yY (by rw[List.length_map];exact h0)))
   omega
  have hlr7:0<sn.length→Sx.look (L6++D7) rb=some (.cells arr E fz):=fun h0=>by
   rw[gO (fun hm=>sV rb hm h0 rfl)]
   exact yY (by rw[List.length_map];exact h0)
  have hP7:DkP (L6++D7) G (ew (S5,p3) k).1:=n8.mono fun b o h=>az h
  have HU:Sx.look (L6++D7) bk=some (dS v6):=az yX
  have hE7:Ext w X (L6++D7):=⟨fun c hc=>by
   rw[ao] at hc
   rcases List.mem_append.1 hc with h|h
   ·exact mE.new c h
   exact .inr (Nat.le_trans u6 (n4.le c h)),fun c hc=>by rw[ao];exact cz _ (mE.all c hc)⟩
  have gl: ∀n,n< (ew (S5,p3) k).1.files.length→G.fb.getD n 0∈keys L6:=fun n hn=>bY (n8.file n hn)
  have hbk6:=bY yX
  clear yY ow
  generalize L6++D7=L7 at*
  refine Cw.loopG (G:=C4G) [79,80,81,13,82,83,84,85,86,87,88,89,90,91,92,14,93,94,95,96,97,98,99,100,101,102,103,104,105,106,107,108,109,110,111,112,113,114,115,116,117,118,119,120,121,122,123,124,125,126,78] (fun g=> [(78,vi g.j)]) (fun g=>g.L) (fun g=>g.j≤sn.length∧DkP g.L G ((sn.take g.j).foldl eI (ew (S5,p3) k)).1∧Sx.look g.L bk=some (dS g.v)∧PkS w g.v ((sn.take g.j).foldl eI (ew (S5,p3) k)).2∧PkB w X ((sn.take g.j).foldl eI (ew (S5,p3) k)).2 g.v∧Ext w X g.L∧((sn.take g.j).foldl eI (ew (S5,p3) k)).2.length<1000000∧(0<sn.length→Sx.look g.L rb=some (.cells arr E fz))) (fun g=>sn.length - g.j) ⟨0,L7,v6⟩ rfl rfl ?_ ?_
  ·exact⟨aV _,hP7,HU,hv6,hvb6,hE7,hpl6,hlr7⟩
  intro g j hg
  refine kv ?_
  obtain⟨j,L8,v8⟩:=g
  simp only at hg ⊢
  obtain⟨hj,n9,nM,I5,pE,sG,uS,hlr8⟩:=hg
  by_cases hjt:j<sn.length
  ·have d2:decide ((j:Int)< (sn.length:Int))=true:=aK oM
   have vF:j< (sn.map Prod.fst).length:=by rw[List.length_map];exact hjt
   have ix3:=nw.idx false j vF
   rw[Nat.mul_one] at ix3
   have ld3:=fun n=>Ac nw vF n
   have HX:=hlr8 oM
   have rd3:=aQ (w0:=w) HX
   have hp:sn[j]'hjt∈sn:=List.getElem_mem _
   have hse: (sn.map Prod.fst).getD j []=(sn[j]'hjt).1:=by simp[List.getD_eq_getElem?_getD,hjt]
   have j6:sn.take (j+1)=sn.take j++ [sn[j]'hjt]:=by
    rw[List.take_add_one];simp[hjt]
   rw[hse] at ld3
   generalize sn[j]'hjt=p at*
   obtain⟨x,n⟩:=p
   have hd8: ((sn.take j).foldl eI (ew (S5,p3) k)).1.dir=S5.dir:=by rw[BT,y_]
   have rH: ((sn.take (j+1)).foldl eI (ew (S5,p3) k))=eI ((sn.take j).foldl eI (ew (S5,p3) k)) (x,n):=by rw[j6,List.foldl_append];rfl
   generalize (sn.take j).foldl eI (ew (S5,p3) k)=q8 at*
   obtain⟨S8,p8⟩:=q8
   simp only at n9 I5 uS hd8 ld3
   have qJ: (S8.dir k).seen=sn:=by rw[hd8];exact dk
   obtain⟨om,lF,hM⟩:=n9.dirs
   obtain⟨os,ms,gq,gG,ij⟩:=n9.seen k kj
   rw[qJ] at ij
   have fG:aM sn x=some n:=zW J_.nodup hp
   have cT:n<S8.files.length:=n9.ok.seenN k kj _ (by rw[qJ];exact hp)
   have rdd:=aQ (w0:=w) n9.disk
   have rdr:=aQ (w0:=w) (n9.dir k kj)
   have mJ:=n9.file n cT
   have rdf:=aQ (w0:=w) mJ
   have ly:bC (some (G.d k))=vp (G.d k) 0:=rfl
   have hpf:bC (some (G.fb.getD n 0))=vp (G.fb.getD n 0) 0:=rfl
   refine ky (aN @fm (aN @d2 (aN @ix3 (aN @ld3 (aN @rd3 @rdd))))) ?_
   refine kq (aN @fm @rdd) ?_
   refine Ow.mapGetG (encK:=vs) (encV:=bC) (k:=cB k) (z:=none) rfl rfl underlying70 ju zrPd rfl rfl (aQ lF) hM ?_
   rw[Ao,qK kj]
   show Ow _ _ _ _ _ _ _ _
   refine ko (aN @fm (aN @ly @rdr)) ?_
   refine Ow.mapGetG (encK:=vs) (encV:=bC) (k:=x) (z:=none) rfl rfl underlying77 ju zrPf rfl rfl (aQ gq) gG ?_
   rw[ij.get J_.nodup,fG]
   show Ow _ _ _ _ _ _ _ _
   refine ko (aN @fm @hpf) ?_
   have jX:=sf n9.ok cT
   have Hu:aU w L8 (G.fb.getD n 0)=some (dH (aE S8 n)):=rdf
   have mH:S8.files.getD n cg=aE S8 n:=rfl
   rw[mH] at mJ
   clear rdf
   have Ji:eI (S8,p8) (x,n)=(eG S8 n ⟨(aE S8 n).data.take ((aE S8 n).stl+jG p8 ((aE S8 n).data.length - (aE S8 n).stl)),((aE S8 n).data.take ((aE S8 n).stl+jG p8 ((aE S8 n).data.length - (aE S8 n).stl))).length⟩,p8.drop 1):=rfl
   rw[Ji] at rH
   have hple8:=Ar p8 ((aE S8 n).data.length - (aE S8 n).stl)
   generalize aE S8 n=f at*
   have hsub: (f.data.length:Int) - (f.stl:Int)=((f.data.length - f.stl:Nat):Int):=by omega
   refine Cw.regionG [G.fb.getD n 0] [25] 26 kR rfl ?_
   simp only[List.replicate_succ,List.replicate_zero]
   refine OwG.run [0,1,2,3,4,5,6,7,8,9,10,11,12,13,14,15,16,17,18,19] [true,true,true,true,true,true,true,true,true,true,true,true,true,true,true,true,true,true,true,true,false,false,false,false,false,false] 6 rfl kR kR fun k hk=> ?_
   simp only[ai, ↓ah, ↓ab, ↓ag, ↓ae,ac]
   simp(disch:=first|exact dD|fail) only[↓Sx.S0,Sx.S1,fx,fm,Nat.reduceAdd,Nat.reducePow,Int.reducePow,Nat.reduceBEq, ↓reduceIte,UInt8.reduceToNat,UInt16.reduceToNat,UInt32.reduceToNat,UInt64.reduceToNat,Int.reduceToNat,Md.next_sofnil,Hu,hsub]
   (with_reducible refine hk _ _ _ ?_);clear hk k
   refine OwG.one 20 _ kR rfl ?_
   refine Ow.callFnXC (b:=vi ((f.data.length - f.stl:Nat):Int)) (ars:= #[vi ((f.data.length - f.stl:Nat):Int),vp bk 0]) rfl (X:=L8) (Y:= []) (List.append_nil _).symm rfl rfl rfl rfl call61 (fun w' aA aZ aT=>Rets.chunk aZ aT (bY nM) (Bu (f.data.length - f.stl) bk v8 p8 w' oM (I5.old aA fun hq b hb=>sG.not (pE hq b hb).1 (pE hq b hb).2) uS (fun hq e=>by have:=(pE hq bk e).1;omega) (aZ _ (cQ nM)))) (fun r D hC hS=> ?_)
   rw[List.append_nil]
   obtain⟨o,rfl,rfl,v9,rfl,uV,A3⟩:=hS
   obtain⟨hvn,yt⟩:=DP I5 uV A3
   have Gf:=sG.came0 hC
   have hP9:=n9.away nM (dS v9)
   have hk9: ∀b o,Sx.look L8 b=some o→tyO o≠some 34→Sx.look (setB L8 bk (dS v9)) b=some o:=fun b o hb ht=>iD nM hb ht
   have rO:Sx.look (setB L8 bk (dS v9)) (G.fb.getD n 0)=some (dH f):=hk9 _ _ mJ (by simp[tyO,dH])
   have HV:Sx.look (setB L8 bk (dS v9)) bk=some (dS v9):=dp nM
   have hrbA:Sx.look (setB L8 bk (dS v9)) rb=some (.cells arr E fz):=by rw[bR (fun e=>sV bk hbk6 oM e.symm)];exact HX
   have hrf9:=aQ (w0:=w) rO
   generalize jG p8 (f.data.length - f.stl)=m at*
   have y5: (f.stl:Int)+ (m:Int)=((f.stl+m:Nat):Int):=by omega
   have H6:bk≠G.fb.getD n 0:=fun e=>by
    rw[←e,HV] at rO
    simp[dH,dS] at rO
   generalize setB L8 bk (dS v9)=L9 at*
   have st0:=fun x=>Ks f (f.data.take (f.stl+m)) x
   with_reducible refine Ow.nil ?_
   refine⟨(fun b hb=>by rw[List.mem_singleton] at hb;subst hb;rw[Hu,hrf9]), ?_⟩
   simp only[List.set_cons_zero,List.set_cons_succ,pN,mT,mW]
   refine OwG.rest [21,22,23,24,25] rfl kR kR ?_
   simp only[ai, ↓ah, ↓ab, ↓ag, ↓ae,ac]
   refine kq (aN @fm @y5) ?_
   refine Ow.store rfl rfl rfl (ke (aN @fm (aN @rO @st0))) ?_
   have kC: (f.data.take (f.stl+m)).length≤f.data.length:=by rw[List.length_take];omega
   have I1:f.stl≤ (f.data.take (f.stl+m)).length:=by rw[List.length_take];omega
   have HS:Sx.look (setB L9 (G.fb.getD n 0) (dH ⟨f.data.take (f.stl+m),f.stl⟩)) (G.fb.getD n 0)=some (dH ⟨f.data.take (f.stl+m),f.stl⟩):=dp rO
   have hrB:=aQ (w0:=w) HS
   have st1:=fun x=>Ko ⟨f.data.take (f.stl+m),f.stl⟩ (f.data.take (f.stl+m)).length x
   have Hg:=zT (n:=n) (f:=⟨f.data.take (f.stl+m),f.stl⟩) n9.ok ⟨Nat.le_trans kC jX.1,I1⟩
   have hPA:=hP9.setFile cT ⟨f.data.take (f.stl+m),f.stl⟩ Hg
   have hokB:=zT (n:=n) (f:=⟨f.data.take (f.stl+m),(f.data.take (f.stl+m)).length⟩) Hg ⟨Nat.le_trans kC jX.1,bq _⟩
   have hPB:=hPA.setFile (by rw[List.length_set];exact cT) ⟨f.data.take (f.stl+m),(f.data.take (f.stl+m)).length⟩ hokB
   simp only[List.set_set] at hPB
   have hEB:=(Gf.setB (b:=G.fb.getD n 0) (o:=dH ⟨f.data.take (f.stl+m),f.stl⟩)).setB (b:=G.fb.getD n 0) (o:=dH ⟨f.data.take (f.stl+m),(f.data.take (f.stl+m)).length⟩)
   have nQ:rb≠G.fb.getD n 0:=sV _ (gl n (by have:=n8.len;have:=n9.len;omega)) oM
   have hlkB:Sx.look (setB (setB L9 (G.fb.getD n 0) (dH ⟨f.data.take (f.stl+m),f.stl⟩)) (G.fb.getD n 0) (dH ⟨f.data.take (f.stl+m),(f.data.take (f.stl+m)).length⟩)) bk=some (dS v9):=by
    rw[bR (Ne.symm H6),bR (Ne.symm H6)];exact HV
   have hrbB:Sx.look (setB (setB L9 (G.fb.getD n 0) (dH ⟨f.data.take (f.stl+m),f.stl⟩)) (G.fb.getD n 0) (dH ⟨f.data.take (f.stl+m),(f.data.take (f.stl+m)).length⟩)) rb=some (.cells arr E fz):=by
    rw[bR (Ne.symm nQ),bR (Ne.symm nQ)];exact hrbA
   refine ko (aN @fm (aN @lz (aN @hrB (aN @HS @st1)))) ?_
   refine ky @fm ?_
   exact Again.mk ⟨j+1,setB (setB L9 (G.fb.getD n 0) (dH ⟨f.data.take (f.stl+m),f.stl⟩)) (G.fb.getD n 0) (dH ⟨f.data.take (f.stl+m),(f.data.take (f.stl+m)).length⟩),v9⟩ (by show sn.length - (j+1)<sn.length - j;omega) ⟨hjt,by rw[rH];exact hPB,hlkB,by rw[rH];exact hvn,by rw[rH];exact yt pE,hEB,by rw[rH];show(p8.drop 1).length<1000000;rw[List.length_drop];omega,fun _=>hrbB⟩ rfl rfl
  obtain rfl:j=sn.length:=by omega
  have d2:decide ((sn.length:Int)< (sn.length:Int))=false:=aO oM
  rw[List.take_length] at n9 I5 pE uS
  refine ky (aN @fm @d2) ?_
  refine ky @fm ?_
  exact Again.mk ⟨k+1,L8,v8⟩ (by show 3 - (k+1)<3 - k;omega) ⟨kj,by rw[yH];exact n9,nM,by rw[yH];exact I5,by rw[yH];exact pE,sG,by rw[yH];exact uS⟩ rfl rfl
 obtain rfl:k=3:=by omega
 have d6:decide (((3:Nat):Int)<3)=false:=rfl
 refine ky (aN @fm @d6) ?_
 refine⟨_,(ke @fm), ?_⟩
 exact⟨mE,G,rfl,n8⟩
def qk (d:DirL):Prop:=d.pend.foldl ci d.stl=d.seen∧GL d
def kN (S:DiskL):Prop:= ∀k,qk (S.dir k)
def BA (l:NmL):qk ⟨l,l,[]⟩:=⟨rfl,fun i hi=>absurd hi (Nat.not_lt_zero i)⟩
def RM {d:DirL} {c:CallL} (h:qk d) (bU:okC d.seen c):qk ⟨ci d.seen c,d.stl,d.pend++ [c]⟩:=by
 refine⟨by show(d.pend++ [c]).foldl ci d.stl=_;rw[List.foldl_append,h.1];rfl,fun i hi=> ?_⟩
 have zu:i< (d.pend++ [c]).length:=hi
 show okC (((d.pend++ [c]).take i).foldl ci d.stl) ((d.pend++ [c]).getD i l9)
 by_cases e:i<d.pend.length
 ·rw[List.take_append_of_le_length oM,List.getD_eq_getElem?_getD,List.getElem?_append_left e,←List.getD_eq_getElem?_getD]
  exact h.2 i e
 rw[List.length_append,List.length_singleton] at zu
 obtain rfl:i=d.pend.length:=by omega
 rw[List.take_append_of_le_length (bq _),List.take_length,h.1,List.getD_eq_getElem?_getD,List.getElem?_append_right (bq _),Nat.sub_self]
 exact bU
def wO {S S':DiskL} (h:kN S) (e:S'.dir=S.dir):kN S':=fun k=>by rw[e];exact h k
def KZ {S:DiskL} (h:kN S) {k:Nat} {d:DirL} (hd:qk d):kN (dY S k d):=fun j=>by
 by_cases e:j=k
 ·subst e;rw[iz];exact hd
 rw[jM _ _ e];exact h j
def Lr {S:DiskL} (h:kN S) {k:Nat} {c:CallL} (bU:okC (S.dir k).seen c):kN (gd S k c):=KZ h (RM (h k) bU)
def RH {S:DiskL} (h:kN S):kN (aH S).1:=wO h (jA S).1
def Ve (q:Int):kN (dI q):=fun _=>BA []
theorem Wj_ {q:DiskL×List UInt16} (h:kN q.1): ∀k,kN (dX q k).1
 |0=>h
 |k+1=>KZ (Wj_ h k) (BA _)
def BY {S:DiskL} (h:kN S) (pl:List UInt16):kN (eL S pl):=by
 unfold eL
 refine wO (S:=fK (dX (S,pl) 3).1) ?_ (y_ _ 3)
 exact wO (Wj_ (q:=(S,pl)) h 3) rfl
def NmB (l:NmL):Prop:= ∀p,p∈l→p.1.length≤1000000
def qy (c:CallL):Prop:=c.a.length≤1000000∧c.b.length≤1000000
structure DirB (N:Nat) (d:DirL):Prop where
 seen:d.seen.length≤N
 stl:d.stl.length+d.pend.length≤N
 seenB:NmB d.seen
 stlB:NmB d.stl
 pendB: ∀c,c∈d.pend→qy c
def DkN (N:Nat) (S:DiskL):Prop:= ∀k,DirB N (S.dir k)
def DkN.b {N:Nat} {S:DiskL} (h:DkN N S) (hN:N≤1000000):DkB S:=fun k _=>⟨Nat.le_trans (h k).seen hN,(h k).seenB⟩
def DirB.mono {N M:Nat} {d:DirL} (h:DirB N d) (hm:N≤M):DirB M d:=⟨Nat.le_trans h.seen hm,Nat.le_trans h.stl hm,h.seenB,h.stlB,h.pendB⟩
theorem DkN.mono {N M:Nat} {S:DiskL} (h:DkN N S) (hm:N≤M):DkN M S:=fun k=>(h k).mono hm
def JM (l:NmL) (s:List UInt8): (cA l s).length≤l.length:=List.length_filter_le _ _
def J3 (l:NmL) (x:List UInt8×Nat): (f5 l x).length≤l.length+1:=by
 have h1:=(si x (cA l x.1)).length_eq
 have h2:=JM l x.1
 rw[List.length_cons] at h1
 show(insN (cA l x.1) x).length≤_
 omega
def Cu (l:NmL) (c:CallL): (ci l c).length≤l.length+1:=by
 unfold ci
 split
 ·exact J3 l _
 ·have h1:=J3 (cA l c.a) (c.b,(aM l c.a).getD 0)
  have h2:=JM l c.a
  omega
 exact Nat.le_succ_of_le (JM l _)
def wy {l:NmL} (h:NmB l) (s:List UInt8):NmB (cA l s):=fun p hp=>h p (List.mem_filter.1 hp).1
def xe {l:NmL} (h:NmB l) {x:List UInt8×Nat} (hx:x.1.length≤1000000):NmB (f5 l x):=fun p hp=>by
 have:=(si x (cA l x.1)).mem_iff.1 hp
 rcases List.mem_cons.1 this with rfl|h1
 ·exact hx
 exact wy h _ p h1
def Fg {l:NmL} (h:NmB l) {c:CallL} (hc:qy c):NmB (ci l c):=by
 unfold ci
 split
 ·exact xe h hc.1
 ·exact xe (wy h _) hc.2
 exact wy h _
theorem xE: ∀ (cs:List CallL) {l:NmL},NmB l→(∀c,c∈cs→qy c)→NmB (cs.foldl ci l)∧(cs.foldl ci l).length≤l.length+cs.length
 | [],l,h,_=>⟨h,bq _⟩
 |c::cs,l,h,hc=>by
  have h1:=xE cs (Fg h (hc c am)) (fun c' h'=>hc c' (cN _ h'))
  have h2:=Cu l c
  refine⟨h1.1, ?_⟩
  have h3:=h1.2
  rw[List.length_cons]
  show(List.foldl ci (ci l c) cs).length≤_
  omega
def TY {N:Nat} {d:DirL} {c:CallL} (h:DirB N d) (hc:qy c):DirB (N+1) ⟨ci d.seen c,d.stl,d.pend++ [c]⟩ where
 seen:=by have:=Cu d.seen c;have:=h.seen;show(ci d.seen c).length≤_;omega
 stl:=by have:=h.stl;show d.stl.length+ (d.pend++ [c]).length≤_;rw[List.length_append,List.length_singleton];omega
 seenB:=Fg h.seenB hc
 stlB:=h.stlB
 pendB:=fun c' h'=>by
  rcases List.mem_append.1 h' with h'|h'
  ·exact h.pendB c' h'
  rw[List.mem_singleton.1 h'];exact hc
def AY {N:Nat} {l:NmL} (h:l.length≤N) (hb:NmB l):DirB N ⟨l,l,[]⟩:=⟨h,h,hb,hb,fun c hc=>by cases hc⟩
def IJ {N:Nat} {S:DiskL} (h:DkN N S) {k:Nat} {d:DirL} (hd:DirB N d):DkN N (dY S k d):=fun j=>by
 by_cases e:j=k
 ·subst e;rw[iz];exact hd
 rw[jM _ _ e];exact h j
def t7 {N:Nat} {S S':DiskL} (h:DkN N S) (e:S'.dir=S.dir):DkN N S':=fun k=>by rw[e];exact h k
def LY {N:Nat} {S:DiskL} (h:DkN N S) {k:Nat} {c:CallL} (hc:qy c):DkN (N+1) (gd S k c):=IJ (h.mono (Nat.le_succ N)) (TY (h k) hc)
theorem AB {N:Nat} {q:DiskL×List UInt16} (h:DkN N q.1): ∀k,DkN N (dX q k).1
 |0=>h
 |k+1=>by
  have h1:=AB h k
  have hd:=h1 k
  show DkN N (w6 (dX q k) k).1
  generalize dX q k=r at*
  refine IJ h1 ?_
  have h2:=xE ((r.1.dir k).pend.take (jG r.2 (r.1.dir k).pend.length)) hd.stlB (fun c hc=>hd.pendB c (List.mem_of_mem_take hc))
  refine AY ?_ h2.1
  have h3:=h2.2
  rw[List.length_take] at h3
  have h4:=hd.stl
  show(List.foldl ci _ _).length≤N
  omega
def CS {N:Nat} {S:DiskL} (h:DkN N S) (pl:List UInt16):DkN N (eL S pl):=by
 unfold eL
 refine t7 (S:=fK (dX (S,pl) 3).1) ?_ (y_ _ 3)
 exact t7 (AB (q:=(S,pl)) h 3) rfl
def F9 (q:Int):DkN 0 (dI q):=fun _=>AY (bq 0) fun _ h=>by cases h
def Q6 (X:aB) (G:DkG) (S:DiskL) (n:Int) (w:World) (hX: ∀p,p∈X→w.heap[p.1]? =some p.2) (bA: (keys X).Nodup) (hP:DkP X G S) (hn: -9223372036854775808≤n∧n<9223372036854775808):
  Rets prog 22 #[vp G.bd 0,vi n] w (XS w X (fun v D=>v=cM []∧ ∃G',G'.bd=G.bd∧DkP D G' {S with fuse:=n,fused:=decide (0≤n)})):=by
 refine Rets.mono (Rets.chunk hX bA (bY hP.disk) (Pt G.bd G.bm S n w (hX _ (cQ hP.disk)))) ?_
 rintro v D ⟨hE,o,rfl,rfl,rfl⟩
 exact⟨hE,rfl,G,rfl,hP.setDisk {S with fuse:=n,fused:=decide (0≤n)} rfl rfl ⟨hP.ok.seen,hP.ok.stl,hP.ok.seenN,hP.ok.stlN,hP.ok.pendN,hP.ok.file,⟨hn.1,hn.2,fun h=>by simpa using h⟩,hP.ok.max⟩⟩
def OX (S:DiskL) (f:FiL) (h: ∀k,(S.dir k).pend= []∧(S.dir k).stl= []): ∀k,((cP S f).dir k).pend= []∧((cP S f).dir k).stl= []:=by
 intro k
 unfold cP
 split
 ·rename_i j hj
  split
  ·by_cases e:k=j
   ·subst e;rw[iz];exact⟨(h k).1,(h k).2⟩
   rw[jM _ _ e];exact h k
  exact h k
 exact h k
def WI_ (l:List FiL): ∀ (S:DiskL),(∀k,(S.dir k).pend= []∧(S.dir k).stl= [])→ ∀k,((l.foldl cP S).dir k).pend= []∧((l.foldl cP S).dir k).stl= []:=by
 induction l with
 |nil=>exact fun _ h=>h
 |cons f l ih=>exact fun S h=>ih _ (OX S f h)
def W4 {N:Nat} {S:DiskL} (h:DkN N S) (f:FiL) (hf:f.name.length≤1000000):DkN (N+1) (cP S f):=by
 unfold cP
 split
 ·split
  ·rename_i k hk hc
   refine IJ (t7 (h.mono (Nat.le_succ N)) rfl) ⟨?_,Nat.le_succ_of_le (h k).stl,xe (h k).seenB hf,(h k).stlB,(h k).pendB⟩
   have h1:=J3 (S.dir k).seen (f.name,S.files.length)
   have h2:=(h k).seen
   show(f5 (S.dir k).seen (f.name,S.files.length)).length≤N+1
   omega
  exact h.mono (Nat.le_succ N)
 exact h.mono (Nat.le_succ N)
theorem EI: ∀ (l:List FiL) {N:Nat} {S:DiskL},DkN N S→(∀f,f∈l→f.name.length≤1000000)→DkN (N+l.length) (l.foldl cP S)
 | [],_,_,h,_=>h
 |f::l,N,S,h,hf=>by
  have h1:=EI l (W4 h f (hf f am)) (fun g hg=>hf g (cN _ hg))
  rw[List.length_cons,show N+ (l.length+1)=N+1+l.length by omega]
  exact h1
def Qx (S:DiskL) (f:FiL) (h: ∀k,3≤k→(S.dir k).seen= []): ∀k,3≤k→((cP S f).dir k).seen= []:=by
 intro k hk
 unfold cP
 split
 ·rename_i j hj
  split
  ·have h3:=(dT hj).1
   rw[jM _ _ oM];exact h k hk
  exact h k hk
 exact h k hk
def Rm (l:List FiL): ∀ (S:DiskL),(∀k,3≤k→(S.dir k).seen= [])→ ∀k,3≤k→((l.foldl cP S).dir k).seen= []:=by
 induction l with
 |nil=>exact fun _ h=>h
 |cons f l ih=>exact fun S h=>ih _ (Qx S f h)
def wT (S:DiskL) (k:Nat): (setV S [0,1,2]).dir k=if k∈ [0,1,2] then⟨(S.dir k).seen,(S.dir k).seen,[]⟩ else S.dir k:=rfl
def F4 (q:Int) (l:List FiL):kN (ofD q l):=fun k=>by
 have h1:=WI_ l (dI q) (fun _=>⟨rfl,rfl⟩) k
 have h2:=Rm l (dI q) (fun _ _=>rfl) k
 unfold ofD
 rw[wT]
 generalize l.foldl cP (dI q)=S at*
 split
 ·exact BA _
 rename_i hk
 have h3:3≤k:=by
  simp only[List.mem_cons,List.not_mem_nil,or_false,not_or] at hk
  omega
 have h4:=h2 h3
 generalize S.dir k=d at*
 obtain⟨a,b,c⟩:=d
 simp only at h1 h4
 obtain⟨rfl,rfl⟩:=h1
 subst h4
 exact BA []
def Z0 (q:Int) (l:List FiL) (hf: ∀f,f∈l→f.name.length≤1000000):DkN l.length (ofD q l):=fun k=>by
 have h1:=EI l (F9 q) hf k
 rw[Nat.zero_add] at h1
 unfold ofD
 rw[wT]
 split
 ·exact AY h1.seen h1.seenB
 exact h1
def zF {N:Nat} {S:DiskL} (h:DkN N S):DkN N (aH S).1:=t7 h (jA S).1
def qa {N:Nat} {S:DiskL} (h:DkN N S):DkN (N+1) S:=h.mono (Nat.le_succ N)
def U2 {N:Nat} {S:DiskL} (h:DkN N S) (dir name:List UInt8):DkN N (cu S dir name).1:=by
 unfold cu
 split
 ·exact h
 split
 ·exact h
 split
 ·exact zF h
 exact t7 (zF h) rfl
def Nq {N:Nat} {S:DiskL} (h:DkN N S) (dir:List UInt8):DkN N (eZ S dir).1:=by
 unfold eZ
 split
 ·exact h
 split
 ·exact zF h
 exact IJ (zF h) (AY ((zF h) _).seen ((zF h) _).seenB)
theorem IY {S:DiskL} (ok:DkOk S): ∀ (l:NmL),(∀p,p∈l→p.2<S.files.length)→bv S l≤l.length*1048576
 | [],_=>aV _
 |p::l,h=>by
  have h1:=IY ok l fun q hq=>h q (cN _ hq)
  have h2:=(sf ok (h p am)).1
  unfold bv aE at*
  rw[List.map_cons,List.sum_cons,List.length_cons]
  omega
def Et {N:Nat} {S:DiskL} (ok:DkOk S) (h:DkN N S):ct S≤3* (N*1048576):=by
 have h0:=IY ok _ (ok.seenN 0 oM)
 have h1:=IY ok _ (ok.seenN 1 oM)
 have h2:=IY ok _ (ok.seenN 2 oM)
 have g0:=Nat.mul_le_mul_right 1048576 (h 0).seen
 have g1:=Nat.mul_le_mul_right 1048576 (h 1).seen
 have g2:=Nat.mul_le_mul_right 1048576 (h 2).seen
 unfold ct
 omega
def mem_wipe {l:NmL} {s:List UInt8} {p:List UInt8×Nat}:p∈cA l s↔p∈l∧p.1≠s:=by
 unfold cA
 rw[List.mem_filter]
 constructor
 ·rintro⟨h1,h2⟩
  exact⟨h1,fun e=>by rw[e] at h2;simp at h2⟩
 rintro⟨h1,h2⟩
 exact⟨h1,by simpa using Ne.symm h2⟩
def mem_put {l:NmL} {x p:List UInt8×Nat}:p∈f5 l x↔p=x∨(p∈l∧p.1≠x.1):=by
 unfold f5
 rw[(si x _).mem_iff,List.mem_cons,mem_wipe]
def VY {l:NmL} {c:CallL} {p:List UInt8×Nat} (bU:okC l c) (h:p∈ci l c): (c.kind=0∧p=(c.a,c.n))∨(c.kind=1∧ ∃m,aM l c.a=some m∧p=(c.b,m))∨(p∈l∧p.1≠c.a∧(c.kind=1→p.1≠c.b)):=by
 unfold ci at h
 split at h
 ·rename_i hk
  rcases mem_put.1 h with rfl| ⟨h1,h2⟩
  ·exact .inl ⟨hk,rfl⟩
  exact .inr (.inr ⟨h1,h2,fun e=>by rw[hk] at e;cases e⟩)
 ·rename_i hk
  cases hm:aM l c.a with
  |none=>exact absurd hm (bU hk).1
  |some m=>
   rw[hm] at h
   rcases mem_put.1 h with rfl| ⟨h1,h2⟩
   ·exact .inr (.inl ⟨hk,m,rfl,rfl⟩)
   have h3:=mem_wipe.1 h1
   exact .inr (.inr ⟨h3.1,h3.2,fun _=>h2⟩)
 rename_i h0 h1
 have h3:=mem_wipe.1 h
 exact .inr (.inr ⟨h3.1,h3.2,fun e=>absurd e h1⟩)
def kI (S:DiskL):Prop:= ∀j k,j<3→k<3→ ∀p,p∈ (S.dir j).seen→ ∀q,q∈ (S.dir k).seen→p.2=q.2→j=k∧p=q
def vY {S S':DiskL} (h:kI S) (e: ∀k,k<3→(S'.dir k).seen=(S.dir k).seen):kI S':=fun j k hj hk p hp q hq=>by
 rw[e j hj] at hp
 rw[e k hk] at hq
 exact h j k hj hk p hp q hq
def r_ (S:DiskL) (k j:Nat) (c:CallL): ((gd S k c).dir j).seen=if j=k then ci (S.dir k).seen c else(S.dir j).seen:=by
 unfold gd
 by_cases e:j=k
 ·subst e;rw[iz,if_pos rfl]
 rw[jM _ _ e,if_neg e]
def Al {S:DiskL} {k j:Nat} {c:CallL} {p:List UInt8×Nat} (bU:okC (S.dir k).seen c) (h:p∈ ((gd S k c).dir j).seen):
  (p∈ (S.dir j).seen∧(j=k→p.1≠c.a∧(c.kind=1→p.1≠c.b)))∨(j=k∧c.kind=0∧p=(c.a,c.n))∨(j=k∧c.kind=1∧ ∃m,aM (S.dir k).seen c.a=some m∧p=(c.b,m)):=by
 rw[r_] at h
 by_cases e:j=k
 ·rw[if_pos e] at h
  subst e
  rcases VY bU h with⟨h1,h2⟩ | ⟨h1,h2⟩ | ⟨h1,h2⟩
  ·exact .inr (.inl ⟨rfl,h1,h2⟩)
  ·exact .inr (.inr ⟨rfl,h1,h2⟩)
  exact .inl ⟨h1,fun _=>h2⟩
 rw[if_neg e] at h
 exact .inl ⟨h,fun e'=>absurd e' e⟩
def Kj {S:DiskL} (h:kI S) {k:Nat} {c:CallL} (hk:k<3) (bU:okC (S.dir k).seen c) (hn:c.kind=0→ ∀j,j<3→ ∀q,q∈ (S.dir j).seen→q.2≠c.n):kI (gd S k c):=by
 intro i j hi hj p hp q hq e
 rcases Al bU hp with⟨p1,p2⟩ | ⟨rfl,p1,rfl⟩ | ⟨rfl,p1,m,pm,rfl⟩
 ·rcases Al bU hq with⟨q1,q2⟩ | ⟨rfl,q1,rfl⟩ | ⟨rfl,q1,m,qm,rfl⟩
  ·exact h i j hi hj p p1 q q1 e
  ·exact absurd e (hn q1 i hi p p1)
  have h1:=h i j hi hj p p1 _ (iG qm) e
  exact absurd (by rw[h1.2]) (p2 h1.1).1
 ·rcases Al bU hq with⟨q1,q2⟩ | ⟨rfl,q1,rfl⟩ | ⟨rfl,q1,m,qm,rfl⟩
  ·exact absurd e.symm (hn p1 j hj q q1)
  ·exact⟨rfl,rfl⟩
  rw[p1] at q1;cases q1
 rcases Al bU hq with⟨q1,q2⟩ | ⟨rfl,q1,rfl⟩ | ⟨rfl,q1,m',qm,rfl⟩
 ·have h1:=h j i hj hi q q1 _ (iG pm) e.symm
  exact absurd (by rw[h1.2]) (q2 h1.1).1
 ·rw[p1] at q1;cases q1
 rw[pm] at qm;cases qm;exact⟨rfl,rfl⟩
def LtS (S:DiskL):Prop:= ∀k,k<3→ ∀p,p∈ (S.dir k).seen→p.2<S.files.length
def UK {S:DiskL} (h:kI S) (hl:LtS S) {k:Nat} (hk:k<3) (s:List UInt8) (f:FileL) {d:DirL} (hd:d.seen=f5 (S.dir k).seen (s,S.files.length)):kI (dY (eH S f) k d)∧LtS (dY (eH S f) k d):=by
 have hm: ∀j p,p∈ ((dY (eH S f) k d).dir j).seen→p∈ (S.dir j).seen∨(j=k∧p=(s,S.files.length)):=fun j p hp=>by
  by_cases e:j=k
  ·subst e
   rw[iz,hd] at hp
   rcases mem_put.1 hp with rfl|h1
   ·exact .inr ⟨rfl,rfl⟩
   exact .inl h1.1
  rw[jM _ _ e] at hp
  exact .inl hp
 constructor
 ·intro i j hi hj p hp q hq e
  rcases hm i p hp with p1| ⟨rfl,rfl⟩
  ·rcases hm j q hq with q1| ⟨rfl,rfl⟩
   ·exact h i j hi hj p p1 q q1 e
   have:=hl i hi p p1
   simp only at e
   omega
  rcases hm j q hq with q1| ⟨rfl,rfl⟩
  ·have:=hl j hj q q1
   simp only at e
   omega
  exact⟨rfl,rfl⟩
 intro j hj p hp
 show p.2< (S.files++ [f]).length
 rw[List.length_append,List.length_singleton]
 rcases hm j p hp with p1| ⟨-,rfl⟩
 ·have:=hl j hj p p1
  omega
 simp
def ON {S:DiskL} (h:kI S∧LtS S) (f:FiL):kI (cP S f)∧LtS (cP S f):=by
 unfold cP
 split
 ·rename_i k hk
  split
  ·exact UK h.1 h.2 (dT hk).1 _ _ rfl
  exact h
 exact h
def PG (l:List FiL): ∀ {S:DiskL},kI S∧LtS S→kI (l.foldl cP S)∧LtS (l.foldl cP S):=by
 induction l with
 |nil=>exact fun h=>h
 |cons f l ih=>exact fun h=>ih (ON h f)
def DD (S:DiskL) (k:Nat): ((setV S [0,1,2]).dir k).seen=(S.dir k).seen:=by
 rw[wT]
 split
 ·rfl
 rfl
def Xo (q:Int) (l:List FiL):kI (ofD q l):=
 vY (PG l (S:=dI q) ⟨fun _ _ _ _ p hp=>(by cases hp),fun _ _ p hp=>(by cases hp)⟩).1 fun k _=>DD _ k
def oK (S:DiskL):Prop:= ∀k,k<3→ ∀p,p∈ (S.dir k).seen→bX p.1=true
def AH {S S':DiskL} (h:oK S) (e: ∀k,k<3→(S'.dir k).seen=(S.dir k).seen):oK S':=fun k hk p hp=>by
 rw[e k hk] at hp
 exact h k hk p hp
def Ls {S:DiskL} (h:oK S) {k:Nat} {c:CallL} (hk:k<3) (bU:okC (S.dir k).seen c) (h0:c.kind=0→bX c.a=true) (h1:c.kind=1→bX c.b=true):oK (gd S k c):=by
 intro j hj p hp
 rcases Al bU hp with⟨p1,p2⟩ | ⟨rfl,p1,rfl⟩ | ⟨rfl,p1,m,pm,rfl⟩
 ·exact h j hj p p1
 ·exact h0 p1
 exact h1 p1
def PY {S:DiskL} (h:oK S) (f:FiL):oK (cP S f):=by
 unfold cP
 split
 ·rename_i k hk
  split
  ·rename_i hc
   intro j hj p hp
   by_cases e:j=k
   ·subst e
    rw[iz] at hp
    rcases mem_put.1 hp with rfl|h1
    ·exact hc.1
    exact h j hj p h1.1
   rw[jM _ _ e] at hp
   exact h j hj p hp
  exact h
 exact h
def YD (q:Int) (l:List FiL):oK (ofD q l):=by
 have h1: ∀ (l:List FiL) (S:DiskL),oK S→oK (l.foldl cP S):=fun l=>by
  induction l with
  |nil=>exact fun _ h=>h
  |cons f l ih=>exact fun S h=>ih _ (PY h f)
 exact AH (h1 l (dI q) (fun _ _ p hp=>by cases hp)) fun k _=>DD _ k
def doV (S:DiskL) (kind:Int) (dir name s:List UInt8):DiskL×Nat:=
 if kind=0 then kE S dir name else if kind=1 then iC S dir name s else if kind=2 then cu S dir name else if kind=3 then eZ S dir else if kind=4 then jg S dir name s else if kind=5 then fo S dir name else(S,0)
inductive StepD (S:DiskL) (kind:Int) (dir name s:List UInt8):DiskL→Nat→Prop
 |same (e:Nat) (h:e≠0∨(kind≠2∧kind≠3)):StepD S kind dir name s S e
 |burn (h:kind≠2∧kind≠3∨(aH S).2≠0):StepD S kind dir name s (aH S).1 (aH S).2
 |create (k:Nat) (hk:bO dir=some k) (hf:bX name=true) (hn:aM (S.dir k).seen name=none) (hb: (aH S).2=0):StepD S kind dir name s (gd (eH (aH S).1 cg) k ⟨0,name,[],S.files.length⟩) 0
 |append (k m:Nat) (hk:bO dir=some k) (hm:aM (S.dir k).seen name=some m) (hf:jF S m s=false) (hb: (aH S).2=0):StepD S kind dir name s (eG (aH S).1 m ⟨(aE S m).data++s,(aE S m).stl⟩) 0
 |sync (k m:Nat) (hk:bO dir=some k) (hm:aM (S.dir k).seen name=some m) (hb: (aH S).2=0):StepD S kind dir name s (eG (aH S).1 m ⟨(aE S m).data,(aE S m).data.length⟩) 0
 |syncDir (k:Nat) (hk:bO dir=some k) (hb: (aH S).2=0):StepD S kind dir name s (mh (aH S).1 k) 0
 |rename (k m:Nat) (h4:kind=4) (hk:bO dir=some k) (hm:aM (S.dir k).seen name=some m) (hf:bX s=true) (aX:name≠s) (hb: (aH S).2=0):StepD S kind dir name s (gd (aH S).1 k ⟨1,name,s,0⟩) 0
 |remove (k m:Nat) (hk:bO dir=some k) (hm:aM (S.dir k).seen name=some m) (hb: (aH S).2=0):StepD S kind dir name s (gd (aH S).1 k ⟨2,name,[],0⟩) 0
def t8 {S:DiskL} {dir name:List UInt8} {m:Nat} (h:atD S dir name=some m): ∃k,bO dir=some k∧aM (S.dir k).seen name=some m:=by
 unfold atD at h
 cases hk:bO dir with
 |none=>rw[hk] at h;cases h
 |some k=>rw[hk] at h;exact⟨k,rfl,h⟩
def Wt {S:DiskL} {dir name:List UInt8} {k:Nat} (hk:bO dir=some k) (h:atD S dir name=none):aM (S.dir k).seen name=none:=by
 unfold atD at h
 rw[hk] at h;exact h
def JF {S:DiskL} {dir:List UInt8} {names:List (List UInt8)} (h:co S dir names=0): ∃k,bO dir=some k∧names.all bX=true:=by
 obtain⟨h1,h2,-⟩:=Qy h
 cases hk:bO dir with
 |none=>exact absurd hk h1
 |some k=>exact⟨k,rfl,h2⟩
def KV (S:DiskL) (dir name s:List UInt8):StepD S 0 dir name s (kE S dir name).1 (kE S dir name).2:=by
 unfold kE
 split
 ·exact .same _ (.inr ⟨by decide,by decide⟩)
 rename_i hf
 split
 ·exact .same _ (.inr ⟨by decide,by decide⟩)
 rename_i ha
 split
 ·exact .burn (.inl ⟨by decide,by decide⟩)
 rename_i hb
 obtain⟨k,hk,hn⟩:=JF (S:=S) (dir:=dir) (names:= [name]) (by simpa using hf)
 rw[hk]
 exact .create k hk (by simpa using hn) (Wt hk ha) (by simpa using hb)
def A9 (S:DiskL) (dir name s:List UInt8):StepD S 5 dir name s (fo S dir name).1 (fo S dir name).2:=by
 unfold fo
 split
 ·exact .same _ (.inr ⟨by decide,by decide⟩)
 split
 ·exact .same _ (.inr ⟨by decide,by decide⟩)
 rename_i m ha
 split
 ·exact .burn (.inl ⟨by decide,by decide⟩)
 rename_i hb
 obtain⟨k,hk,hm⟩:=t8 ha
 rw[hk]
 exact .remove k m hk hm (by simpa using hb)
def Kc (S:DiskL) (dir name s:List UInt8):StepD S 4 dir name s (jg S dir name s).1 (jg S dir name s).2:=by
 unfold jg
 split
 ·exact .same _ (.inr ⟨by decide,by decide⟩)
 rename_i hf
 split
 ·exact .same _ (.inr ⟨by decide,by decide⟩)
 rename_i m ha
 split
 ·exact .burn (.inl ⟨by decide,by decide⟩)
 rename_i aX
 split
 ·exact .burn (.inl ⟨by decide,by decide⟩)
 rename_i hb
 obtain⟨k,hk,hm⟩:=t8 ha
 obtain⟨-,-,hn⟩:=JF (S:=S) (dir:=dir) (names:= [name,s]) (by simpa using hf)
 simp only[List.all_cons,List.all_nil,Bool.and_true,Bool.and_eq_true] at hn
 rw[hk]
 exact .rename k m rfl hk hm hn.2 aX (by simpa using hb)
def Kg (S:DiskL) (dir name s:List UInt8):StepD S 1 dir name s (iC S dir name s).1 (iC S dir name s).2:=by
 unfold iC
 split
 ·exact .same _ (.inr ⟨by decide,by decide⟩)
 split
 ·exact .same _ (.inr ⟨by decide,by decide⟩)
 rename_i m ha
 split
 ·exact .same _ (.inr ⟨by decide,by decide⟩)
 rename_i eV
 split
 ·exact .burn (.inl ⟨by decide,by decide⟩)
 rename_i hb
 obtain⟨k,hk,hm⟩:=t8 ha
 exact .append k m hk hm (by simpa using eV) (by simpa using hb)
def JL (S:DiskL) (dir name s:List UInt8):StepD S 2 dir name s (cu S dir name).1 (cu S dir name).2:=by
 unfold cu
 split
 ·rename_i hf
  exact .same _ (.inl hf)
 split
 ·exact .same _ (.inl (Nat.succ_ne_zero 5))
 rename_i m ha
 split
 ·rename_i hb
  exact .burn (.inr hb)
 rename_i hb
 obtain⟨k,hk,hm⟩:=t8 ha
 exact .sync k m hk hm (by simpa using hb)
def KK (S:DiskL) (dir name s:List UInt8):StepD S 3 dir name s (eZ S dir).1 (eZ S dir).2:=by
 unfold eZ
 split
 ·rename_i hf
  exact .same _ (.inl hf)
 rename_i hf
 split
 ·rename_i hb
  exact .burn (.inr hb)
 rename_i hb
 obtain⟨k,hk,-⟩:=JF (S:=S) (dir:=dir) (names:= []) (by simpa using hf)
 rw[hk]
 exact .syncDir k hk (by simpa using hb)
def X9 (S:DiskL) (kind:Int) (dir name s:List UInt8):StepD S kind dir name s (doV S kind dir name s).1 (doV S kind dir name s).2:=by
 unfold doV
 split
 ·rename_i h;subst h;exact KV S dir name s
 split
 ·rename_i h;subst h;exact Kg S dir name s
 split
 ·rename_i h;subst h;exact JL S dir name s
 split
 ·rename_i h;subst h;exact KK S dir name s
 split
 ·rename_i h;subst h;exact Kc S dir name s
 split
 ·rename_i h;subst h;exact A9 S dir name s
 rename_i h0 h1 h2 h3 h4 h5
 exact .same 0 (.inr ⟨h2,h3⟩)
def tH {l:NmL} {a b:List UInt8} {m:Nat} (h:aM l a=some m) (aX:a≠b):okC l ⟨1,a,b,0⟩:=fun _=>⟨by rw[h];simp,aX⟩
section
variable {S S':DiskL} {kind:Int} {dir name s:List UInt8} {e:Nat}
def An (h:StepD S kind dir name s S' e):S'.max=S.max:=by
 have hb:=(jA S).2.2
 cases h<;>first|rfl|exact hb
def AA (S:DiskL) (k j:Nat): ((mh S k).dir j).seen=(S.dir j).seen:=by
 unfold mh
 by_cases e:j=k
 ·subst e;rw[iz]
 rw[jM _ _ e]
def So (ok:DkOk S) (hu:kI S) (h:StepD S kind dir name s S' e):kI S':=by
 obtain⟨aW,aq,-⟩:=jA S
 have fF:kI (aH S).1:=vY hu fun k _=>by rw[aW]
 cases h with
 |same=>exact hu
 |burn=>exact fF
 |create k hk hf hn hb=>
  refine Kj (vY fF fun _ _=>rfl) (dT hk).1 (fun e=>by cases e) (fun _ j hj q hq=> ?_)
  have hq':q∈ (S.dir j).seen:=by rw[←aW];exact hq
  have:=ok.seenN j hj q hq'
  show q.2≠S.files.length
  omega
 |append k m hk hm hf hb=>exact vY fF fun _ _=>rfl
 |sync k m hk hm hb=>exact vY fF fun _ _=>rfl
 |syncDir k hk hb=>exact vY fF fun j _=>AA _ _ _
 |rename k m h4 hk hm hf aX hb=>exact Kj fF (dT hk).1 (by rw[aW];exact tH hm aX) (fun e=>by cases e)
 |remove k m hk hm hb=>exact Kj fF (dT hk).1 (fun e=>by cases e) (fun e=>by cases e)
def Sa (hu:oK S) (h:StepD S kind dir name s S' e):oK S':=by
 obtain⟨aW,aq,-⟩:=jA S
 have fF:oK (aH S).1:=AH hu fun k _=>by rw[aW]
 cases h with
 |same=>exact hu
 |burn=>exact fF
 |create k hk hf hn hb=>exact Ls (AH fF fun _ _=>rfl) (dT hk).1 (fun e=>by cases e) (fun _=>hf) (fun e=>by cases e)
 |append k m hk hm hf hb=>exact AH fF fun _ _=>rfl
 |sync k m hk hm hb=>exact AH fF fun _ _=>rfl
 |syncDir k hk hb=>exact AH fF fun j _=>AA _ _ _
 |rename k m h4 hk hm hf aX hb=>exact Ls fF (dT hk).1 (by rw[aW];exact tH hm aX) (fun e=>by cases e) (fun _=>hf)
 |remove k m hk hm hb=>exact Ls fF (dT hk).1 (fun e=>by cases e) (fun e=>by cases e) (fun e=>by cases e)
def Ct (hu:kN S) (h:StepD S kind dir name s S' e):kN S':=by
 obtain⟨aW,aq,-⟩:=jA S
 have fF:=RH hu
 cases h with
 |same=>exact hu
 |burn=>exact fF
 |create k hk hf hn hb=>exact Lr (wO fF rfl) (fun e=>by cases e)
 |append k m hk hm hf hb=>exact wO fF rfl
 |sync k m hk hm hb=>exact wO fF rfl
 |syncDir k hk hb=>exact KZ fF (BA _)
 |rename k m h4 hk hm hf aX hb=>exact Lr fF (by rw[aW];exact tH hm aX)
 |remove k m hk hm hb=>exact Lr fF (fun e=>by cases e)
def EO {N:Nat} (hu:DkN N S) (hn:name.length≤1000000) (hs:s.length≤1000000) (h:StepD S kind dir name s S' e):DkN (N+1) S':=by
 have fF:=zF hu
 cases h with
 |same=>exact qa hu
 |burn=>exact qa fF
 |create k hk hf aT hb=>exact LY (t7 fF rfl) ⟨hn,aV _⟩
 |append k m hk hm hf hb=>exact qa (t7 fF rfl)
 |sync k m hk hm hb=>exact qa (t7 fF rfl)
 |syncDir k hk hb=>exact qa (IJ fF (AY (fF k).seen (fF k).seenB))
 |rename k m h4 hk hm hf aX hb=>exact LY fF ⟨hn,hs⟩
 |remove k m hk hm hb=>exact LY fF ⟨hn,aV _⟩
end
def z8 (S:DiskL) (p:List UInt8×Nat) (l:NmL):bv S (p::l)=(aE S p.2).data.length+bv S l:=by
 unfold bv aE
 rw[List.map_cons,List.sum_cons]
def RS (S:DiskL) {l m:NmL} (h:l.Perm m):bv S l=bv S m:=(h.map _).sum_nat
theorem Ay (S:DiskL) (s:List UInt8): ∀l:NmL,bv S (cA l s)≤bv S l
 | []=>bq _
 |p::l=>by
  have h:=Ay S s l
  rw[z8]
  unfold cA at h ⊢
  rw[List.filter_cons]
  split
  ·rw[z8];omega
  omega
def EM (S:DiskL) (l:NmL) (x:List UInt8×Nat):bv S (f5 l x)=(aE S x.2).data.length+bv S (cA l x.1):=by
 unfold f5
 rw[RS S (si x _),z8]
theorem CU (S:DiskL) {a:List UInt8} {m:Nat}: ∀ {l:NmL},(a,m)∈l→(aE S m).data.length+bv S (cA l a)≤bv S l
 |p::l,h=>by
  have h0:=Ay S a l
  rw[z8]
  rcases List.mem_cons.1 h with rfl|h
  ·unfold cA at h0 ⊢
   rw[List.filter_cons]
   simp only[beq_self_eq_true,Bool.not_true,Bool.false_eq_true, ↓reduceIte]
   omega
  have h1:=CU S h
  unfold cA at h1 ⊢
  rw[List.filter_cons]
  split
  ·rw[z8];omega
  omega
def AE {S S':DiskL} {l:NmL} (h: ∀p,p∈l→(aE S' p.2).data.length=(aE S p.2).data.length):bv S' l=bv S l:=by
 unfold bv
 congr 1
 exact List.map_congr_left h
def va (S:DiskL) {m:Nat} (f:FileL) (hm:m<S.files.length) (n:Nat):aE (eG S m f) n=if n=m then f else aE S n:=by
 unfold aE eG
 simp only
 rw[List.getD_eq_getElem?_getD,List.getD_eq_getElem?_getD]
 by_cases e:n=m
 ·subst e;rw[if_pos rfl,List.getElem?_set_self hm];rfl
 rw[if_neg e,List.getElem?_set_ne (Ne.symm e)]
def Cc (S:DiskL) (f:FileL) {n:Nat} (hn:n<S.files.length):aE (eH S f) n=aE S n:=by
 unfold aE eH
 exact zK _ _ hn
def DK (S:DiskL) (f:FileL):aE (eH S f) S.files.length=f:=by
 unfold aE eH
 exact vy _ _ rfl
def nV (S:DiskL) (n:Nat):aE (aH S).1 n=aE S n:=by
 unfold aE
 rw[(jA S).2.1]
theorem Ei {S:DiskL} {m:Nat} {f:FileL} (hm:m<S.files.length) {x:Nat} (hx:f.data.length=(aE S m).data.length+x): ∀ {l:NmL},(l.map Prod.fst).Nodup→(∀p,p∈l→ ∀q,q∈l→p.2=q.2→p=q)→bv (eG S m f) l=bv S l+if m∈l.map Prod.snd then x else 0
 | [],_,_=>rfl
 |p::l,hn,h=>by
  rw[List.map_cons,List.nodup_cons] at hn
  have ih:=Ei hm hx hn.2 fun a ha b hb=>h a (cN _ ha) b (cN _ hb)
  rw[z8,z8,ih,va S f hm]
  by_cases e:p.2=m
  ·have h1:m∉l.map Prod.snd:=fun rR=>by
    obtain⟨q,hq,rX⟩:=List.mem_map.1 rR
    have h2:=h p am q (cN _ hq) (by rw[e,rX])
    exact hn.1 (List.mem_map.2 ⟨q,hq,by rw[h2]⟩)
   rw[if_pos e,if_neg h1,if_pos (by rw[List.map_cons,e];exact am),hx,e]
   omega
  rw[if_neg e]
  by_cases h1:m∈l.map Prod.snd
  ·rw[if_pos h1,if_pos (by rw[List.map_cons];exact cN _ h1)]
   omega
  rw[if_neg h1,if_neg (by
   rw[List.map_cons]
   intro h2
   rcases List.mem_cons.1 h2 with h2|h2
   ·exact e h2.symm
   exact h1 h2)]
  omega
def Dh {S:DiskL} (ok:DkOk S) (hu:kI S) {k m:Nat} (hk:k<3) {nm:List UInt8} (hm: (nm,m)∈ (S.dir k).seen) {f:FileL} {x:Nat} (hx:f.data.length=(aE S m).data.length+x):ct (eG S m f)≤ct S+x:=by
 have sR:m<S.files.length:=ok.seenN k hk _ hm
 have hd: ∀j,j<3→bv (eG S m f) (S.dir j).seen=bv S (S.dir j).seen+if m∈ (S.dir j).seen.map Prod.snd then x else 0:=fun j hj=>Ei sR hx (ok.seen j hj).nodup fun p hp q hq e=>(hu j j hj hj p hp q hq e).2
 have aX: ∀j,j<3→j≠k→ ¬m∈ (S.dir j).seen.map Prod.snd:=fun j hj qE h=>by
  obtain⟨q,hq,e⟩:=List.mem_map.1 h
  exact qE (hu j k hj hk q hq _ hm e).1
 unfold ct
 show bv (eG S m f) (S.dir 0).seen+bv (eG S m f) (S.dir 1).seen+bv (eG S m f) (S.dir 2).seen≤_
 rw[hd 0 oM,hd 1 oM,hd 2 oM]
 have:k=0∨k=1∨k=2:=by omega
 rcases this with rfl|rfl|rfl
 ·rw[if_neg (aX 1 oM oM),if_neg (aX 2 oM oM)]
  split<;>omega
 ·rw[if_neg (aX 0 oM oM),if_neg (aX 2 oM oM)]
  split<;>omega
 rw[if_neg (aX 0 oM oM),if_neg (aX 1 oM oM)]
 split<;>omega
def Ly {S S':DiskL} {k:Nat} (hk:k<3) (h1: ∀j,j<3→j≠k→bv S' (S'.dir j).seen=bv S (S.dir j).seen) (h2:bv S' (S'.dir k).seen≤bv S (S.dir k).seen):ct S'≤ct S:=by
 unfold ct
 have:k=0∨k=1∨k=2:=by omega
 rcases this with rfl|rfl|rfl
 ·rw[h1 1 oM oM,h1 2 oM oM];omega
 ·rw[h1 0 oM oM,h1 2 oM oM];omega
 rw[h1 0 oM oM,h1 1 oM oM];omega
def Ig {S S':DiskL} (hd: ∀k,(S'.dir k).seen=(S.dir k).seen) (hf: ∀n,(aE S' n).data.length=(aE S n).data.length):ct S'=ct S:=by
 unfold ct
 rw[hd 0,hd 1,hd 2,AE fun p _=>hf p.2,AE fun p _=>hf p.2,AE fun p _=>hf p.2]
section
variable {S S':DiskL} {kind:Int} {dir name s:List UInt8} {e:Nat}
def Pp (ok:DkOk S) (hu:kI S) (h:StepD S kind dir name s S' e):ct S'≤ct S∨(ct S'≤ct S+s.length∧(ct S':Int)≤S.max):=by
 obtain⟨aW,aq,-⟩:=jA S
 cases h with
 |same=>exact .inl (bq _)
 |burn=>exact .inl (Nat.le_of_eq (Ig (fun k=>by rw[aW]) fun n=>by rw[nV]))
 |create k hk hf hn hb=>
  have aj:=(dT hk).1
  have lE: ∀n,n<S.files.length→aE (eH (aH S).1 cg) n=aE S n:=fun n hn=>by rw[Cc _ _ (by rw[aq];exact hn),nV]
  have u_: ∀j,j<3→bv (eH (aH S).1 cg) (S.dir j).seen=bv S (S.dir j).seen:=fun j hj=>AE fun p hp=>by rw[lE p.2 (ok.seenN j hj p hp)]
  refine .inl (Ly aj (fun j hj qE=> ?_) ?_)
  ·rw[r_,if_neg qE]
   show bv (eH (aH S).1 cg) ((aH S).1.dir j).seen=_
   rw[aW];exact u_ j hj
  rw[r_,if_pos rfl]
  show bv (eH (aH S).1 cg) (f5 ((aH S).1.dir k).seen (name,S.files.length))≤_
  rw[aW,EM,←u_ k aj]
  have h1:aE (eH (aH S).1 cg) S.files.length=cg:=by rw[←aq];exact DK _ _
  have h2:=Ay (eH (aH S).1 cg) name (S.dir k).seen
  rw[h1]
  show(0:Nat)+bv (eH (aH S).1 cg) (cA (S.dir k).seen name)≤_
  omega
 |append k m hk hm hf hb=>
  have aj:=(dT hk).1
  right
  have h1:=Dh (S:=(aH S).1) (pP ok) (vY hu fun k _=>by rw[aW]) aj (nm:=name) (m:=m) (by rw[aW];exact iG hm) (f:=⟨(aE S m).data++s,(aE S m).stl⟩) (x:=s.length) (by rw[nV,List.length_append])
  have h2:ct (aH S).1=ct S:=Ig (fun k=>by rw[aW]) fun n=>by rw[nV]
  unfold jF at hf
  simp only[Bool.or_eq_false_iff,decide_eq_false_iff_not] at hf
  exact⟨by omega,by omega⟩
 |sync k m hk hm hb=>
  left
  have aj:=(dT hk).1
  have h1:=Dh (S:=(aH S).1) (pP ok) (vY hu fun k _=>by rw[aW]) aj (nm:=name) (m:=m) (by rw[aW];exact iG hm) (f:=⟨(aE S m).data,(aE S m).data.length⟩) (x:=0) (by rw[nV];rfl)
  have h2:ct (aH S).1=ct S:=Ig (fun k=>by rw[aW]) fun n=>by rw[nV]
  omega
 |syncDir k hk hb=>exact .inl (Nat.le_of_eq (Ig (fun j=>by rw[AA,aW]) fun n=>by show(aE (aH S).1 n).data.length=_;rw[nV]))
 |rename k m h4 hk hm hf aX hb=>
  have aj:=(dT hk).1
  have u_: ∀l,bv (aH S).1 l=bv S l:=fun l=>AE fun p _=>by rw[nV]
  refine .inl (Ly aj (fun j hj qE=> ?_) ?_)
  ·rw[r_,if_neg qE,aW]
   exact u_ _
  rw[r_,if_pos rfl]
  show bv (aH S).1 (f5 (cA ((aH S).1.dir k).seen name) (s,(aM ((aH S).1.dir k).seen name).getD 0))≤_
  rw[aW,hm,u_,EM]
  have h1:=CU S (iG hm)
  have h2:=Ay S s (cA (S.dir k).seen name)
  show(aE S m).data.length+bv S (cA (cA (S.dir k).seen name) s)≤_
  omega
 |remove k m hk hm hb=>
  have aj:=(dT hk).1
  have u_: ∀l,bv (aH S).1 l=bv S l:=fun l=>AE fun p _=>by rw[nV]
  refine .inl (Ly aj (fun j hj qE=> ?_) ?_)
  ·rw[r_,if_neg qE,aW]
   exact u_ _
  rw[r_,if_pos rfl]
  show bv (aH S).1 (cA ((aH S).1.dir k).seen name)≤_
  rw[aW,u_]
  exact Ay S name _
def wd (ok:DkOk S) (hu:kI S) (h:StepD S kind dir name s S' e):ct S'≤ct S+s.length:=by
 rcases Pp ok hu h with h|h
 ·omega
 exact h.1
end
theorem KL (q:DiskL×List UInt16): ∀k,(dX q k).1.files=q.1.files
 |0=>rfl
 |k+1=>KL q k
theorem Dg (q:DiskL×List UInt16) {j:Nat}: ∀ {k:Nat},j<k→ ∃i,i≤ (q.1.dir j).pend.length∧(dX q k).1.dir j=⟨eQ q.1 j i,eQ q.1 j i,[]⟩
 |k+1,h=>by
  show∃i,i≤_∧(dY (dX q k).1 k _).dir j=_
  by_cases e:j=k
  ·subst e
   rw[iz]
   have hd:=It q (bq j)
   refine⟨jG (dX q j).2 ((dX q j).1.dir j).pend.length, ?_, ?_⟩
   ·rw[hd];exact Ar _ _
   unfold eQ
   rw[hd]
  rw[jM _ _ e]
  exact Dg q oM
def CB (S:DiskL) (pl:List UInt16) {k:Nat} (hk:k<3): ∃i,i≤ (S.dir k).pend.length∧(eL S pl).dir k=⟨eQ S k i,eQ S k i,[]⟩:=by
 obtain⟨i,h1,h2⟩:=Dg (S,pl) hk
 exact⟨i,h1,by unfold eL;rw[y_];exact h2⟩
def CC (S:DiskL) (pl:List UInt16): (eL S pl).off=false:=by
 unfold eL
 rw[Lw];rfl
def BegF (f g:FileL):Prop:=(∃t,g.data=f.data.take t)∧(f.stl=f.data.length→g.data=f.data∧g.stl=g.data.length)
def BegF.refl (f:FileL):BegF f f:=⟨⟨f.data.length,(List.take_length).symm⟩,fun h=>⟨rfl,h⟩⟩
theorem BegF.trans {f g h:FileL} (h1:BegF f g) (h2:BegF g h):BegF f h:=by
 obtain⟨⟨t,ht⟩,a⟩:=h1
 obtain⟨⟨u,hu⟩,b⟩:=h2
 refine⟨⟨min u t,by rw[hu,ht,List.take_take]⟩,fun e=> ?_⟩
 obtain⟨a1,a2⟩:=a e
 obtain⟨b1,b2⟩:=b a2
 exact⟨b1.trans a1,b2⟩
def Rw (S:DiskL) {n:Nat} (h:S.files.length≤n):aE S n=cg:=by
 unfold aE
 rw[List.getD_eq_getElem?_getD,List.getElem?_eq_none h];rfl
def Cx (S:DiskL) {m:Nat} (h:S.files.length≤m) (f:FileL):eG S m f=S:=by
 unfold eG
 rw[List.set_eq_of_length_le h]
def Q7 (q:DiskL×List UInt16) (p:List UInt8×Nat) (n:Nat):BegF (aE q.1 n) (aE (eI q p).1 n):=by
 unfold eI
 simp only
 by_cases hm:p.2<q.1.files.length
 ·rw[va _ _ hm]
  by_cases e:n=p.2
  ·subst e
   rw[if_pos rfl]
   refine⟨⟨_,rfl⟩,fun h=> ?_⟩
   have h1: (aE q.1 p.2).data.take ((aE q.1 p.2).stl+jG q.2 ((aE q.1 p.2).data.length - (aE q.1 p.2).stl))=(aE q.1 p.2).data:=List.take_of_length_le (by rw[←h];omega)
   exact⟨h1,rfl⟩
  rw[if_neg e];exact BegF.refl _
 rw[Cx _ oM];exact BegF.refl _
def Bg (q:DiskL×List UInt16) (p:List UInt8×Nat) (n:Nat) (h:n=p.2∨(aE q.1 n).stl=(aE q.1 n).data.length): (aE (eI q p).1 n).stl=(aE (eI q p).1 n).data.length:=by
 unfold eI
 simp only
 by_cases hm:p.2<q.1.files.length
 ·rw[va _ _ hm]
  by_cases e:n=p.2
  ·rw[if_pos e]
  rw[if_neg e];exact h.resolve_left e
 rw[Cx _ oM]
 rcases h with h|h
 ·rw[Rw _ oM];rfl
 exact h
theorem BS (n:Nat): ∀ (l:NmL) (q:DiskL×List UInt16),BegF (aE q.1 n) (aE (l.foldl eI q).1 n)∧(n∈l.map Prod.snd∨(aE q.1 n).stl=(aE q.1 n).data.length→(aE (l.foldl eI q).1 n).stl=(aE (l.foldl eI q).1 n).data.length)
 | [],q=>⟨BegF.refl _,fun h=>h.resolve_left (by simp)⟩
 |p::l,q=>by
  obtain⟨h1,h2⟩:=BS n l (eI q p)
  refine⟨(Q7 q p n).trans h1,fun h=>h2 ?_⟩
  rcases h with h|h
  ·rw[List.map_cons] at h
   rcases List.mem_cons.1 h with h|h
   ·exact .inr (Bg q p n (.inl h))
   exact .inl h
  exact .inr (Bg q p n (.inr h))
theorem BX (n:Nat) (q:DiskL×List UInt16): ∀k,BegF (aE q.1 n) (aE (ew q k).1 n)∧((∃j,j<k∧n∈ (q.1.dir j).seen.map Prod.snd)∨(aE q.1 n).stl=(aE q.1 n).data.length→(aE (ew q k).1 n).stl=(aE (ew q k).1 n).data.length)
 |0=>⟨BegF.refl _,fun h=>h.resolve_left (by rintro⟨j,hj,-⟩;omega)⟩
 |k+1=>by
  obtain⟨h1,h2⟩:=BX n q k
  obtain⟨g1,g2⟩:=BS n (q.1.dir k).seen (ew q k)
  refine⟨h1.trans g1,fun h=>g2 ?_⟩
  rcases h with⟨j,hj,hm⟩ |h
  ·by_cases e:j=k
   ·subst e;exact .inl hm
   exact .inr (h2 (.inl ⟨j,by omega,hm⟩))
  exact .inr (h2 (.inr h))
def TN (S:DiskL) (pl:List UInt16) (n:Nat):BegF (aE S n) (aE (eL S pl) n):=by
 have h:=(BX n (fK (dX (S,pl) 3).1,(dX (S,pl) 3).2) 3).1
 have e:aE (fK (dX (S,pl) 3).1) n=aE S n:=by
  unfold aE fK
  rw[KL]
 rw[←e];exact h
def kK (S:DiskL):Prop:=S.off=false∧S.fused=false
def sj {S:DiskL} (h:kK S):aH S=(S,0):=by
 unfold aH
 rw[if_neg (by rw[h.2];simp),if_neg (by rw[h.2];simp)]
section
variable {S S':DiskL} {kind:Int} {dir name s:List UInt8} {e:Nat}
def RK (hc:kK S) (h:StepD S kind dir name s S' e):kK S':=by
 have hb:=sj hc
 have dO:kK (aH S).1:=by rw[hb];exact hc
 cases h<;>first|exact hc|exact dO
end
def Ox {S:DiskL} (h:kK S) (f:FiL):kK (cP S f)∧(cP S f).max=S.max:=by
 unfold cP
 split
 ·split
  ·exact⟨h,rfl⟩
  exact⟨h,rfl⟩
 exact⟨h,rfl⟩
theorem Vs_: ∀ (l:List FiL) {S:DiskL},kK S→kK (l.foldl cP S)∧(l.foldl cP S).max=S.max
 | [],_,h=>⟨h,rfl⟩
 |f::l,S,h=>by
  obtain⟨h1,h2⟩:=Ox h f
  obtain⟨h3,h4⟩:=Vs_ l h1
  exact⟨h3,h4.trans h2⟩
def Xz (q:Int) (l:List FiL):kK (ofD q l)∧(ofD q l).max=q:=Vs_ l (S:=dI q) ⟨rfl,rfl⟩
structure KeepS (S:DiskL) (k:Nat) (nm:List UInt8) (n:Nat) (data:List UInt8):Prop where
 lt:n<S.files.length
 data: (aE S n).data=data
 stl: (aE S n).stl=(aE S n).data.length
 at_:aM (S.dir k).stl nm=some n
 pend: ∀c,c∈ (S.dir k).pend→c.a≠nm∧(c.kind=1→c.b≠nm)
theorem CY {x:List UInt8×Nat} {s:List UInt8} (hx:x.1≠s): ∀l:NmL,aM (insN l x) s=aM l s
 | []=>by
  have: (s==x.1)=false:=beq_eq_false_iff_ne.2 (Ne.symm hx)
  unfold insN aM
  rw[List.find?_cons,this]
 |p::l=>by
  have e: (s==x.1)=false:=beq_eq_false_iff_ne.2 (Ne.symm hx)
  have ih:=CY hx l
  unfold insN
  split
  ·unfold aM
   rw[List.find?_cons,e]
  unfold aM at ih ⊢
  rw[List.find?_cons,List.find?_cons]
  split
  ·rfl
  exact ih
theorem IT {a s:List UInt8} (ha:a≠s): ∀l:NmL,aM (cA l a) s=aM l s
 | []=>rfl
 |p::l=>by
  have ih:=IT ha l
  unfold cA at ih ⊢
  rw[List.filter_cons]
  by_cases e:a=p.1
  ·have e1: (s==p.1)=false:=beq_eq_false_iff_ne.2 (fun h=>ha (by rw[e,h]))
   rw[if_neg (by rw[e];simp),ih]
   unfold aM
   rw[List.find?_cons,e1]
  rw[if_pos (by simpa using e)]
  unfold aM at ih ⊢
  rw[List.find?_cons,List.find?_cons]
  split
  ·rfl
  exact ih
def we {x:List UInt8×Nat} {s:List UInt8} (hx:x.1≠s) (l:NmL):aM (f5 l x) s=aM l s:=by
 unfold f5
 rw[CY hx,IT hx]
def CQ {l:NmL} {c:CallL} {s:List UInt8} (h:c.a≠s∧(c.kind=1→c.b≠s)):aM (ci l c) s=aM l s:=by
 unfold ci
 split
 ·exact we h.1 l
 ·rename_i hk
  rw[we (h.2 hk),IT h.1]
 exact IT h.1 l
theorem LH {s:List UInt8}: ∀ (cs:List CallL) (l:NmL),(∀c,c∈cs→c.a≠s∧(c.kind=1→c.b≠s))→aM (cs.foldl ci l) s=aM l s
 | [],_,_=>rfl
 |c::cs,l,h=>by
  rw[List.foldl_cons,LH cs _ fun d hd=>h d (cN _ hd),CQ (h c am)]
section
variable {S S':DiskL} {kind:Int} {dir name s:List UInt8} {e k n:Nat} {nm data:List UInt8}
theorem KeepS.seen (h:KeepS S k nm n data) (hh:kN S):aM (S.dir k).seen nm=some n:=by
 rw[← (hh k).1,LH _ _ h.pend,h.at_]
def QN (hk:k<3) (hf:bX nm=true) (hK:KeepS S k nm n data) (pl:List UInt16):d8 (eL S pl) (cB k) nm=(data,0):=by
 obtain⟨i,h1,h2⟩:=CB S pl hk
 have kY:aM ((eL S pl).dir k).seen nm=some n:=by
  rw[h2]
  show aM (eQ S k i) nm=_
  unfold eQ
  rw[LH _ _ fun c hc=>hK.pend c (List.mem_of_mem_take hc),hK.at_]
 have gF:co (eL S pl) (cB k) [nm]=0:=by
  unfold co
  rw[qK hk,CC,if_neg (by simp[hf]),if_neg (by simp)]
 have hd:=((TN S pl n).2 hK.stl).1
 unfold d8
 rw[if_neg (by rw[gF];simp)]
 have ha:atD (eL S pl) (cB k) nm=some n:=by unfold atD;rw[qK hk];exact kY
 have r6: ((bO (cB k)).bind fun k=>aM ((eL S pl).dir k).seen nm)=some n:=ha
 rw[r6]
 show((aE (eL S pl) n).data,0)=_
 rw[hd,hK.data]
end
def cv (S:DiskL) (j:Nat) (x:List UInt8):Option (List UInt8):=(aM (S.dir j).seen x).map fun n=>(aE S n).data
structure GoodS (S:DiskL):Prop where
 srt: ∀k,k<3→SrtN (S.dir k).seen
 lt:LtS S
 uniq:kI S
def DkOk.good {S:DiskL} (ok:DkOk S) (hu:kI S):GoodS S:=⟨ok.seen,ok.seenN,hu⟩
def aY (s:List UInt8):List UInt8:=s++ [46,116,109,112]
def G8 (s:List UInt8):aY s≠s:=fun h=>by
 have:=congrArg List.length h
 unfold aY at this
 simp at this
section
variable {S S':DiskL} {kind:Int} {dir name s:List UInt8} {e:Nat}
def IP {S S':DiskL} {j:Nat} {x:List UInt8} (h1:aM (S'.dir j).seen x=aM (S.dir j).seen x) (h2: ∀n,aM (S.dir j).seen x=some n→(aE S' n).data=(aE S n).data):cv S' j x=cv S j x:=by
 unfold cv
 rw[h1]
 cases hf:aM (S.dir j).seen x with
 |none=>rfl
 |some n=>exact congrArg some (h2 n hf)
def Ce (hg:GoodS S) (h:StepD S kind dir name s S' e) {j:Nat} (hj:j<3) {x:List UInt8} (hx:cB j=dir→x≠name∧(kind=4→x≠s)):cv S' j x=cv S j x:=by
 obtain⟨aW,aq,-⟩:=jA S
 have hd: ∀ {k},bO dir=some k→j=k→x≠name∧(kind=4→x≠s):=fun hk e=>hx (by rw[e];exact(dT hk).2.symm)
 have turn: ∀ {T:DiskL} {k:Nat} {c:CallL},(∀n,n<S.files.length→aE T n=aE S n)→T.dir=S.dir→(j=k→c.a≠x∧(c.kind=1→c.b≠x))→cv (gd T k c) j x=cv S j x:=fun{T k c} hf hT hc=>
  IP (by
   rw[r_]
   by_cases e:j=k
   ·rw[if_pos e,CQ (hc e),hT,e]
   ·rw[if_neg e,hT]) fun n hn=>by
   show(aE T n).data=_
   rw[hf n (hg.lt j hj _ (iG hn))]
 have set: ∀ {k m:Nat} (f:FileL),bO dir=some k→aM (S.dir k).seen name=some m→cv (eG (aH S).1 m f) j x=cv S j x:=fun{k m} f hk hm=>
  IP (by show aM ((aH S).1.dir j).seen x=_;rw[aW]) fun n hn=>by
   have sR:m< (aH S).1.files.length:=by rw[aq];exact hg.lt k (dT hk).1 _ (iG hm)
   rw[va _ _ sR,nV]
   by_cases e:n=m
   ·subst e
    have h1:=hg.uniq j k hj (dT hk).1 _ (iG hn) _ (iG hm) rfl
    exact absurd (congrArg Prod.fst h1.2) (hd hk h1.1).1
   rw[if_neg e]
 cases h with
 |same=>rfl
 |burn=>exact IP (by rw[aW]) fun n _=>by rw[nV]
 |create k hk hf hn hb=>exact turn (fun n hn=>by rw[Cc _ _ (by rw[aq];exact hn),nV]) aW fun e=>⟨Ne.symm (hd hk e).1,fun h=>by cases h⟩
 |append k m hk hm hf hb=>exact set _ hk hm
 |sync k m hk hm hb=>exact set _ hk hm
 |syncDir k hk hb=>exact IP (by rw[AA,aW]) fun n _=>by show(aE (aH S).1 n).data=_;rw[nV]
 |rename k m h4 hk hm hf aX hb=>exact turn (fun n _=>nV S n) aW fun e=>⟨Ne.symm (hd hk e).1,fun _=>Ne.symm ((hd hk e).2 h4)⟩
 |remove k m hk hm hb=>exact turn (fun n _=>nV S n) aW fun e=>⟨Ne.symm (hd hk e).1,fun h=>by cases h⟩
end
structure TkL where
 dir:List UInt8
 name:List UInt8
 data:List UInt8
 light:Bool
 next:Nat
 made:Bool
 ended:Bool
structure PhR where
 did:Bool
 e:Nat
 t:TkL
 S:DiskL
def sA (t:TkL) (S:DiskL):PhR:=if(d8 S t.dir (aY t.name)).2≠0 then⟨false,0,t,S⟩ else⟨true,(fo S t.dir (aY t.name)).2,t,(fo S t.dir (aY t.name)).1⟩
def ww (t:TkL) (S:DiskL):PhR:=⟨true,(kE S t.dir (aY t.name)).2,{t with made:=(kE S t.dir (aY t.name)).2==0},(kE S t.dir (aY t.name)).1⟩
def x8 (t:TkL) (S:DiskL):PhR:=⟨true,(iC S t.dir (aY t.name) t.data).2,t,(iC S t.dir (aY t.name) t.data).1⟩
def tu (t:TkL) (S:DiskL):PhR:=if t.light=true then⟨false,0,t,S⟩ else⟨true,(cu S t.dir (aY t.name)).2,t,(cu S t.dir (aY t.name)).1⟩
def wv (t:TkL) (S:DiskL):PhR:=⟨true,(jg S t.dir (aY t.name) t.name).2,{t with made:=t.made&& (jg S t.dir (aY t.name) t.name).2 !=0},(jg S t.dir (aY t.name) t.name).1⟩
def tG (t:TkL) (S:DiskL):PhR:=if t.light=true then⟨false,0,t,S⟩ else⟨true,(eZ S t.dir).2,t,(eZ S t.dir).1⟩
def phT (k:Nat) (t:TkL) (S:DiskL):PhR:=match k with
 |0=>sA t S
 |1=>ww t S
 |2=>x8 t S
 |3=>tu t S
 |4=>wv t S
 |_=>tG t S
structure StR where
 done:Bool
 e:Nat
 t:TkL
 S:DiskL
def nxT (r:PhR):TkL:={r.t with next:=r.t.next+1}
def iI (t:TkL):Bool:=t.next==6|| (t.light&&t.next==5)
def jL (r:PhR):StR:=if(nxT r).made=true∧r.e≠9 then⟨false,r.e,{nxT r with ended:=true},(fo r.S r.t.dir (aY r.t.name)).1⟩ else⟨false,r.e,{nxT r with ended:=true},r.S⟩
def iS (r:PhR):TkL:={nxT r with ended:=iI (nxT r)}
def gD:Nat→TkL→DiskL→StR
 |0,t,S=>⟨false,0,t,S⟩
 |f+1,t,S=>
  if(phT t.next t S).e≠0 then jL (phT t.next t S)
  else if(phT t.next t S).did=false∧iI (nxT (phT t.next t S))=false then gD f (iS (phT t.next t S)) (phT t.next t S).S
  else⟨iI (nxT (phT t.next t S)),0,iS (phT t.next t S),(phT t.next t S).S⟩
def gJ (t:TkL) (S:DiskL):StR:=if t.ended=true then⟨false,15,t,S⟩ else gD (6 - t.next) t S
def runG:Nat→TkL→DiskL→Nat×TkL×DiskL
 |0,t,S=>(0,t,S)
 |f+1,t,S=>if(gJ t S).done=true∨(gJ t S).e≠0 then((gJ t S).e,(gJ t S).t,(gJ t S).S) else runG f (gJ t S).t (gJ t S).S
def phG:Nat→TkL→DiskL→Nat×DiskL
 |0,_,S=>(0,S)
 |f+1,t,S=>
  if(phT t.next t S).e≠0 then((jL (phT t.next t S)).e,(jL (phT t.next t S)).S)
  else if iI (nxT (phT t.next t S))=true then(0,(phT t.next t S).S)
  else phG f (iS (phT t.next t S)) (phT t.next t S).S
def ZO (f:Nat) (t:TkL) (S:DiskL):phG (f+1) t S=(if(phT t.next t S).e≠0 then((jL (phT t.next t S)).e,(jL (phT t.next t S)).S)
  else if iI (nxT (phT t.next t S))=true then(0,(phT t.next t S).S)
  else phG f (iS (phT t.next t S)) (phT t.next t S).S):=rfl
def tk (k:Nat) (t:TkL) (S:DiskL): (phT k t S).t.dir=t.dir∧(phT k t S).t.name=t.name∧(phT k t S).t.data=t.data∧(phT k t S).t.light=t.light∧(phT k t S).t.next=t.next∧(phT k t S).t.ended=t.ended:=by
 unfold phT
 split
 ·unfold sA;split<;>exact⟨rfl,rfl,rfl,rfl,rfl,rfl⟩
 ·exact⟨rfl,rfl,rfl,rfl,rfl,rfl⟩
 ·exact⟨rfl,rfl,rfl,rfl,rfl,rfl⟩
 ·unfold tu;split<;>exact⟨rfl,rfl,rfl,rfl,rfl,rfl⟩
 ·exact⟨rfl,rfl,rfl,rfl,rfl,rfl⟩
 unfold tG;split<;>exact⟨rfl,rfl,rfl,rfl,rfl,rfl⟩
def E' (k:Nat) (t:TkL) (S:DiskL): (iS (phT k t S)).dir=t.dir∧(iS (phT k t S)).name=t.name∧(iS (phT k t S)).data=t.data∧(iS (phT k t S)).light=t.light∧(iS (phT k t S)).next=t.next+1:=by
 obtain⟨h1,h2,h3,h4,h5,-⟩:=tk k t S
 exact⟨h1,h2,h3,h4,congrArg (· +1) h5⟩
def UO (r:PhR): (jL r).e=r.e∧(jL r).done=false:=by
 unfold jL
 split<;>exact⟨rfl,rfl⟩
theorem wt: ∀ (f:Nat) (t:TkL) (S:DiskL),f+t.next=6→0<f→
  ((gD f t S).e≠0∧phG f t S=((gD f t S).e,(gD f t S).S))∨
  ((gD f t S).e=0∧(gD f t S).done=true∧phG f t S=(0,(gD f t S).S))∨
  ((gD f t S).e=0∧(gD f t S).done=false∧(gD f t S).t.ended=false∧t.next< (gD f t S).t.next∧(gD f t S).t.next<6∧phG f t S=phG (6 - (gD f t S).t.next) (gD f t S).t (gD f t S).S)
 |0,_,_,_,h=>absurd h (Nat.lt_irrefl 0)
 |f+1,t,S,hf,_=>by
  obtain⟨-,-,-,-,hn,-⟩:=tk t.next t S
  have fG: (iS (phT t.next t S)).next=t.next+1:=(E' t.next t S).2.2.2.2
  have gF: (iS (phT t.next t S)).ended=iI (nxT (phT t.next t S)):=rfl
  unfold gD
  rw[ZO]
  by_cases he: (phT t.next t S).e≠0
  ·rw[if_pos he,if_pos he]
   exact .inl ⟨by rw[(UO _).1];exact he,rfl⟩
  rw[if_neg he,if_neg he]
  cases p4:iI (nxT (phT t.next t S)) with
  |true=>
   rw[if_neg (fun h=>by cases h.2),if_pos rfl]
   exact .inr (.inl ⟨rfl,rfl,rfl⟩)
  |false=>
   have aC:t.next+1<6:=by
    have h1: (nxT (phT t.next t S)).next=t.next+1:=congrArg (· +1) hn
    unfold iI at p4
    rw[h1] at p4
    simp only[Bool.or_eq_false_iff,beq_eq_false_iff_ne] at p4
    have:=p4.1
    omega
   rw[if_neg (show¬ (false=true) by simp)]
   by_cases hd: (phT t.next t S).did=false
   ·rw[if_pos ⟨hd,rfl⟩]
    have ih:=wt f (iS (phT t.next t S)) (phT t.next t S).S (by rw[fG];omega) oM
    rw[fG] at ih
    rcases ih with h|h| ⟨h1,h2,h3,h4,h5⟩
    ·exact .inl h
    ·exact .inr (.inl h)
    exact .inr (.inr ⟨h1,h2,h3,by omega,h5⟩)
   rw[if_neg fun h=>hd h.1]
   refine .inr (.inr ⟨rfl,rfl,gF.trans p4,by show t.next< (iS (phT t.next t S)).next;rw[fG];omega,by show(iS (phT t.next t S)).next<6;rw[fG];exact aC, ?_⟩)
   show phG f _ _=phG (6 - (iS (phT t.next t S)).next) _ _
   rw[fG,show 6 - (t.next+1)=f by omega]
theorem GF: ∀ (n f:Nat) (t:TkL) (S:DiskL),6 - t.next≤n→t.next<6→t.ended=false→6 - t.next≤f→((runG f t S).1,(runG f t S).2.2)=phG (6 - t.next) t S
 |0,_,_,_,hn,hl,_,_=>by omega
 |n+1,0,_,_,_,hl,_,hf=>by omega
 |n+1,f+1,t,S,hn,hl,he,hf=>by
  have hs:gJ t S=gD (6 - t.next) t S:=by unfold gJ;rw[if_neg (by rw[he];simp)]
  unfold runG
  rw[hs]
  rcases wt (6 - t.next) t S oM oM with⟨h1,h2⟩ | ⟨h1,h2,h3⟩ | ⟨h1,h2,h3,h4,h5,h6⟩
  ·rw[if_pos (.inr h1),h2]
  ·rw[if_pos (.inl h2),h3,h1]
  rw[if_neg (by rw[h1,h2];simp),h6]
  exact GF n f _ _ oM h5 h3 oM
def tk0 (dir name data:List UInt8) (light:Bool):TkL:=⟨dir,name,data,light,0,false,false⟩
def iV (S:DiskL) (dir name data:List UInt8) (light:Bool):Nat×DiskL:=phG 6 (tk0 dir name data light) S
def XX (S:DiskL) (dir name data:List UInt8) (light:Bool): ((runG 6 (tk0 dir name data light) S).1,(runG 6 (tk0 dir name data light) S).2.2)=iV S dir name data light:=GF 6 6 (tk0 dir name data light) S (bq 6) (Nat.succ_pos 5) rfl (bq 6)
end Go.Proofs
end
