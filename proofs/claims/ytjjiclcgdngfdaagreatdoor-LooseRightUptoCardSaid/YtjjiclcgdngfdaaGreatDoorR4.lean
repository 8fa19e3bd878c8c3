/-
  Part 4 of the walk: contracts of the functions that the law reaches, and the calculus they stand on.
  No conditions.
-/
import Derived.Test.YtjjiclcgdngfdaaGreatDoorR3
section
open Go Go.Proofs Go.Sx Go.StP
namespace Go.Proofs
set_option maxRecDepth 10000
set_option maxHeartbeats 400000
set_option linter.unusedSimpArgs false
theorem Ig {l:NmL} {s:List UInt8} (h: ∀p,p∈l→p.1≠s):aR l s=none:=by
 cases hf:aR l s with
 |none=>rfl
 |some n=>exact absurd rfl (h _ (fp hf))
theorem ZO (l:NmL) (s:List UInt8):aR (cw l s) s=none:=Ig fun _ hp=>(mem_wipe.1 hp).2
theorem YJ {l:NmL} (h:SrtN l) (x:List UInt8×Nat):aR (fZ l x) x.1=some x.2:=xv (y5 x h).nodup (mem_put.2 (.inl rfl))
theorem pu {S:DiskL} (hc:gw S) {dir:List UInt8} {k:Nat} (hk:bv dir=some k) (names:List (List UInt8)):dF S dir names=if names.all dE=false then 1 else 0:=by
 unfold dF
 rw[hk,hc.1]
 cases names.all dE<;>simp
theorem wJ {S:DiskL} {k:Nat} {x d:List UInt8} (h:bP S k x=some d): ∃n,aR (S.dir k).seen x=some n∧(aH S n).data=d:=by
 unfold bP at h
 cases hf:aR (S.dir k).seen x with
 |none=>rw[hf] at h;cases h
 |some n=>rw[hf] at h;exact⟨n,rfl,Option.some.inj h⟩
theorem Hq {S:DiskL} {k:Nat} {x:List UInt8} (h:bP S k x=none):aR (S.dir k).seen x=none:=by
 unfold bP at h
 cases hf:aR (S.dir k).seen x with
 |none=>rfl
 |some n=>rw[hf] at h;cases h
theorem ky {S:DiskL} {dir:List UInt8} {k:Nat} (hk:bv dir=some k) (x:List UInt8):atD S dir x=aR (S.dir k).seen x:=by
 unfold atD
 rw[hk];rfl
theorem yn {S:DiskL} (hc:gw S) {dir:List UInt8} {k:Nat} (hk:bv dir=some k) {x:List UInt8} (hf:dE x=true):eh S dir x=match bP S k x with|none=>([],6) |some d=>(d,0):=by
 have h0:dF S dir [x]=0:=by rw[pu hc hk,if_neg (by simp[hf])]
 unfold eh
 rw[if_neg (by rw[h0];simp)]
 have h1: ((bv dir).bind fun k=>aR (S.dir k).seen x)=aR (S.dir k).seen x:=by rw[hk];rfl
 rw[h1]
 unfold bP
 cases aR (S.dir k).seen x<;>rfl
section
variable {S:DiskL} {dir x:List UInt8} {k:Nat}
theorem LI (hg:GoodS S) (hc:gw S) (hk:bv dir=some k) (hf:dE x=true) (hv:bP S k x=none): (jU S dir x).2=0∧bP (jU S dir x).1 k x=some []:=by
 have h0:dF S dir [x]=0:=by rw[pu hc hk,if_neg (by simp[hf])]
 have aW:=(dH hk).1
 unfold jU
 rw[if_neg (by rw[h0];simp),ky hk,Hq hv]
 simp only
 rw[ox hc,if_neg (by simp),hk]
 refine⟨rfl, ?_⟩
 show(aR ((gL (fF S dw) k ⟨0,x,[],S.files.length⟩).dir k).seen x).map _=_
 rw[oy,if_pos rfl]
 show(aR (fZ (S.dir k).seen (x,S.files.length)) x).map _=_
 rw[YJ (hg.srt k aW) (x,S.files.length)]
 show some (aH (fF S dw) S.files.length).data=_
 rw[HC];rfl
theorem YF (hc:gw S) (hk:bv dir=some k) (hf:dE x=true) {d:List UInt8} (hv:bP S k x=some d): (jT S dir x).2=0∧bP (jT S dir x).1 k x=none:=by
 have h0:dF S dir [x]=0:=by rw[pu hc hk,if_neg (by simp[hf])]
 obtain⟨n,hn,-⟩:=wJ hv
 unfold jT
 rw[if_neg (by rw[h0];simp),ky hk,hn]
 simp only
 rw[ox hc,if_neg (by simp),hk]
 refine⟨rfl, ?_⟩
 show(aR ((gL S k ⟨2,x,[],0⟩).dir k).seen x).map _=_
 rw[oy,if_pos rfl]
 show(aR (cw (S.dir k).seen x) x).map _=_
 rw[ZO];rfl
theorem KI (hg:GoodS S) (hc:gw S) (hk:bv dir=some k) (hf:dE x=true) {d:List UInt8} (hv:bP S k x=some d) (s:List UInt8): ((gf S dir x s).2=8∧(gf S dir x s).1=S)∨((gf S dir x s).2=0∧bP (gf S dir x s).1 k x=some (d++s)):=by
 have h0:dF S dir [x]=0:=by rw[pu hc hk,if_neg (by simp[hf])]
 obtain⟨n,hn,hd⟩:=wJ hv
 have da:=hg.lt k (dH hk).1 _ (fp hn)
 unfold gf
 rw[if_neg (by rw[h0];simp),ky hk,hn]
 simp only
 by_cases fv:kY S n s=true
 ·rw[if_pos fv];exact .inl ⟨rfl,rfl⟩
 ·rw[if_neg fv,ox hc,if_neg (by simp)]
  refine .inr ⟨rfl, ?_⟩
  show(aR (S.dir k).seen x).map (fun m=>(aH (ez S n _) m).data)=_
  rw[hn]
  show some (aH (ez S n _) n).data=_
  rw[su _ _ da,if_pos rfl,←hd]
theorem OP (hg:GoodS S) (hc:gw S) (hk:bv dir=some k) (hf:dE x=true) {d:List UInt8} (hv:bP S k x=some d): (ct S dir x).2=0∧bP (ct S dir x).1 k x=some d:=by
 have h0:dF S dir [x]=0:=by rw[pu hc hk,if_neg (by simp[hf])]
 obtain⟨n,hn,hd⟩:=wJ hv
 have da:=hg.lt k (dH hk).1 _ (fp hn)
 unfold ct
 rw[if_neg (by rw[h0];simp),ky hk,hn]
 simp only
 rw[ox hc,if_neg (by simp)]
 refine⟨rfl, ?_⟩
 show(aR (S.dir k).seen x).map (fun m=>(aH (ez S n _) m).data)=_
 rw[hn]
 show some (aH (ez S n _) n).data=_
 rw[su _ _ da,if_pos rfl,←hd]
theorem Jj (hc:gw S) (hk:bv dir=some k): (fQ S dir).2=0∧ ∀j y,bP (fQ S dir).1 j y=bP S j y:=by
 have h0:dF S dir []=0:=by rw[pu hc hk,if_neg (by simp)]
 unfold fQ
 rw[if_neg (by rw[h0];simp),ox hc,if_neg (by simp),hk]
 refine⟨rfl,fun j y=> ?_⟩
 unfold bP
 show(aR ((oz S k).dir j).seen y).map _=_
 rw[EJ];rfl
theorem Kk (hg:GoodS S) (hc:gw S) (hk:bv dir=some k) (hf:dE x=true) {y:List UInt8} (hy:dE y=true) (aO:x≠y) {d:List UInt8} (hv:bP S k x=some d): (j8 S dir x y).2=0∧bP (j8 S dir x y).1 k y=some d∧bP (j8 S dir x y).1 k x=none:=by
 have h0:dF S dir [x,y]=0:=by rw[pu hc hk,if_neg (by simp[hf,hy])]
 obtain⟨n,hn,hd⟩:=wJ hv
 have aW:=(dH hk).1
 unfold j8
 rw[if_neg (by rw[h0];simp),ky hk,hn]
 simp only
 rw[if_neg aO,ox hc,if_neg (by simp),hk]
 have hs: ((gL S k ⟨1,x,y,0⟩).dir k).seen=fZ (cw (S.dir k).seen x) (y,n):=by
  rw[oy,if_pos rfl]
  show fZ (cw (S.dir k).seen x) (y,(aR (S.dir k).seen x).getD 0)=_
  rw[hn];rfl
 refine⟨rfl, ?_, ?_⟩
 ·show(aR ((gL S k ⟨1,x,y,0⟩).dir k).seen y).map _=_
  rw[hs,YJ (Em _ (hg.srt k aW)) (y,n)]
  exact congrArg some hd
 ·show(aR ((gL S k ⟨1,x,y,0⟩).dir k).seen x).map _=_
  rw[hs,ta (x:=(y,n)) (Ne.symm aO),ZO];rfl
end
theorem Sv (k:Nat) (t:TkL) (S:DiskL): ∃kind s e,StepD S kind t.dir (ah t.name) s (phT k t S).S e∧(kind=4→s=t.name):=by
 unfold phT
 split
 ·unfold tK
  split
  ·exact⟨0,[],1, .same 1 (.inl (by decide)),fun h=>by cases h⟩
  ·exact⟨5,[],_,wY S _ _ _,fun h=>by cases h⟩
 ·exact⟨0,[],_,GW S _ _ _,fun h=>by cases h⟩
 ·exact⟨1,t.data,_,GM S _ _ _,fun h=>by cases h⟩
 ·unfold o7
  split
  ·exact⟨0,[],1, .same 1 (.inl (by decide)),fun h=>by cases h⟩
  ·exact⟨2,[],_,xY S _ _ _,fun h=>by cases h⟩
 ·exact⟨4,t.name,_,GR S _ _ _,fun _=>rfl⟩
 ·unfold yC
  split
  ·exact⟨0,[],1, .same 1 (.inl (by decide)),fun h=>by cases h⟩
  ·exact⟨3,[],_,xj S _ (ah t.name) [],fun h=>by cases h⟩
theorem Ny (r:PhR): ∃e,StepD r.S 5 r.t.dir (ah r.t.name) [] (gq r).S e:=by
 unfold gq
 split
 ·exact⟨_,wY r.S _ _ _⟩
 ·exact⟨1, .same 1 (.inl (by decide))⟩
theorem CM (Q:DiskL→Prop) (dir nm:List UInt8) (hQ: ∀ (S S':DiskL) (kind:Int) (s:List UInt8) (e:Nat),Q S→StepD S kind dir (ah nm) s S' e→(kind=4→s=nm)→Q S'):
  ∀ (f:Nat) (t:TkL) (S:DiskL),t.dir=dir→t.name=nm→Q S→Q (phG f t S).2
 |0,_,_,_,_,h=>h
 |f+1,t,S,hd,hn,h=>by
  obtain⟨kind,s,e,h1,h2⟩:=Sv t.next t S
  rw[hd,hn] at h1
  rw[hn] at h2
  have h3:=hQ _ _ _ _ _ h h1 h2
  obtain⟨d1,d2,-⟩:=nv t.next t S
  unfold phG
  split
  ·obtain⟨e',h4⟩:=Ny (phT t.next t S)
   rw[d1,d2,hd,hn] at h4
   exact hQ _ _ _ _ _ h3 h4 fun h=>by cases h
  ·split
   ·exact h3
   ·obtain⟨f1,f2,-⟩:=u7 t.next t S
    exact CM Q dir nm hQ f _ _ (f1.trans hd) (f2.trans hn) h3
end Go.Proofs
end
section
open Go Go.Proofs Go.Sx Go.StP
namespace Go.Proofs
set_option maxRecDepth 10000
set_option maxHeartbeats 400000
set_option linter.unusedSimpArgs false
theorem FK {f:Nat} {t t':TkL} {S:DiskL} {r:PhR} (hr:phT t.next t S=r) (he:r.e=0) (hn:endT (nxT r)=false) (ht:gN r=t'):phG (f+1) t S=phG f t' r.S:=by
 conv=>lhs;unfold phG
 rw[hr,if_neg (by rw[he];simp),if_neg (by rw[hn];simp),ht]
theorem Pe {f:Nat} {t:TkL} {S:DiskL} {r:PhR} (hr:phT t.next t S=r) (he:r.e≠0):phG (f+1) t S=((gq r).e,(gq r).S):=by
 unfold phG
 rw[hr,if_pos he]
theorem UQ {f:Nat} {t:TkL} {S:DiskL} {r:PhR} (hr:phT t.next t S=r) (he:r.e=0) (hn:endT (nxT r)=true):phG (f+1) t S=(0,r.S):=by
 unfold phG
 rw[hr,if_neg (by rw[he];simp),if_pos hn]
def tkN (dir nm data:List UInt8) (light:Bool) (n:Nat) (made:Bool):TkL:=⟨dir,nm,data,light,n,made,false⟩
end Go.Proofs
end
section
open Go Go.Proofs Go.Sx Go.StP
namespace Go.Proofs
set_option maxRecDepth 10000
set_option maxHeartbeats 400000
set_option linter.unusedSimpArgs false
end Go.Proofs
end
section
open Go Go.Proofs Go.Sx Go.StP
namespace Go.Proofs
set_option maxRecDepth 10000
set_option maxHeartbeats 400000
set_option linter.unusedSimpArgs false
section
variable {S0 S:DiskL} {k:Nat} {nm dir data:List UInt8} {m:Nat}
end
end Go.Proofs
end
section
open Go Go.Proofs Go.Sx Go.StP
namespace Go.Proofs
set_option maxRecDepth 10000
set_option maxHeartbeats 400000
set_option linter.unusedSimpArgs false
end Go.Proofs
end
section
open Go Go.Proofs Go.Sx Go.StP
namespace Go.Proofs
set_option maxRecDepth 10000
set_option maxHeartbeats 400000
set_option linter.unusedSimpArgs false
structure NdR where
 s:List UInt8
 n:Int
def ndC (r:NdR):List Value:= [vs r.s]++ ([vi r.n])
structure KcR where
 kind:Int
 a:List UInt8
 b:List UInt8
 n:Int
def kcC (r:KcR):List Value:= [vi r.kind]++ ([vs r.a]++ ([vs r.b]++ ([vi r.n])))
structure FdR where
 data:List UInt8
 stl:Int
def fdC (r:FdR):List Value:= [vs r.data]++ ([vi r.stl])
def ndOf (p:List UInt8×Nat):NdR:=⟨p.1,(p.2:Int)⟩
def kcOf (c:CallL):KcR:=⟨(c.kind:Int),c.a,c.b,(c.n:Int)⟩
def fdOf (f:FileL):FdR:=⟨f.data,(f.stl:Int)⟩
set_option linter.defProp false
set_option linter.defProp false
end Go.Proofs
end
section
open Go Go.Proofs Go.Sx Go.StP
namespace Go.Proofs
set_option maxRecDepth 10000
set_option maxHeartbeats 400000
set_option linter.unusedSimpArgs false
set_option linter.defProp false
set_option linter.defProp false
end Go.Proofs
end
section
open Go Go.Proofs Go.Sx Go.StP
namespace Go.Proofs
set_option maxRecDepth 10000
set_option maxHeartbeats 400000
set_option linter.unusedSimpArgs false
structure DcG where
 bd:Nat
 s:Nat→Value
 t:Nat→Value
 p:Nat→Value
 f:Value
def VM (S:DiskL):Int:=if S.fused=true then S.fuse else -1
def dcO (G:DcG) (S:DiskL):Obj:= .cells #[G.s 0,G.t 0,G.p 0,G.s 1,G.t 1,G.p 1,G.s 2,G.t 2,G.p 2,G.f,vi S.max,vi (VM S), .bool S.off] 60 (0,0)
def CY (c:CallL):CallL:=if c.kind=0 then⟨0,c.a,[],c.n⟩ else if c.kind=1 then⟨1,c.a,c.b,0⟩ else⟨2,c.a,[],0⟩
def NdP (X:aA) (v:Value) (l:NmL):Prop:=Gr X 144 2 v (l.map ndOf).length ((l.map ndOf).map ndC).flatten
def KcP (X:aA) (v:Value) (l:List CallL):Prop:=Gr X 150 4 v (l.map kcOf).length ((l.map kcOf).map kcC).flatten
def FdP (X:aA) (v:Value) (l:List FileL):Prop:=Gr X 141 2 v (l.map fdOf).length ((l.map fdOf).map fdC).flatten
structure DcP (X:aA) (G:DcG) (S:DiskL):Prop where
 disk:Sx.look X G.bd=some (dcO G S)
 seen: ∀k,k<3→NdP X (G.s k) (S.dir k).seen
 stl: ∀k,k<3→NdP X (G.t k) (S.dir k).stl
 pend: ∀k,k<3→ ∃pl:List CallL,pl.map CY=(S.dir k).pend.map CY∧KcP X (G.p k) pl
 files:FdP X G.f S.files
 pdis: ∀i j,i<3→j<3→i≠j→ ∀b,slB (G.p i)=some b→slB (G.p j)≠some b
def DcW (w:World) (G:DcG) (S:DiskL):Prop:= ∃X,(∀b o,Sx.look X b=some o→w.heap[b]? =some o)∧DcP X G S
theorem Gr.keepTy {X L:aA} {E:TypeId} {m n:Nat} {v:Value} {cs:List Value} (h:Gr X E m v n cs) {c:Nat} {oc:Obj} (hc:Sx.look X c=some oc) (ht:tyO oc≠some E) (keep: ∀b o,b≠c→Sx.look X b=some o→Sx.look L b=some o):Gr L E m v n cs:=h.keep fun b o hb ho=>keep b o (by
 rintro rfl
 obtain⟨arr,ha⟩:=lh h hb
 rw[hc] at ha;cases ha;exact ht rfl) ho
theorem DcP.mono {X X':aA} {G:DcG} {S:DiskL} (h:DcP X G S) (hk: ∀b o,Sx.look X b=some o→Sx.look X' b=some o):DcP X' G S where
 disk:=hk _ _ h.disk
 seen k aW:=(h.seen k aW).keep fun b o _ ho=>hk b o ho
 stl k aW:=(h.stl k aW).keep fun b o _ ho=>hk b o ho
 pend k aW:=by
  obtain⟨pl,h1,h2⟩:=h.pend k aW
  exact⟨pl,h1,h2.keep fun b o _ ho=>hk b o ho⟩
 files:=h.files.keep fun b o _ ho=>hk b o ho
 pdis:=h.pdis
theorem DcP.world {X:aA} {G:DcG} {S:DiskL} {w0 w:World} (h:DcP X G S) (hw:Hp w0 X w):DcW w G S:=⟨X,fun _ _ hb=>hw.has _ _ (cO hb),h⟩
theorem DcW.old {w w':World} {L:aA} {G:DcG} {S:DiskL} (h:DcW w G S) (hw:Hp w L w') (hn:New w.heap.size L):DcW w' G S:=by
 obtain⟨X,hX,hP⟩:=h
 refine⟨X,fun b o hb=> ?_,hP⟩
 have aD:=(Array.getElem?_eq_some_iff.1 (hX b o hb)).1
 exact(hw.old b aD (hn.not aD)).trans (hX b o hb)
theorem qi (G:DcG) (S:DiskL):tyO (dcO G S)=some 60:=rfl
theorem CQ: (some 60:Option TypeId)≠some 144:=by decide
theorem Uc: (some 60:Option TypeId)≠some 150:=by decide
theorem Uz: (some 60:Option TypeId)≠some 141:=by decide
theorem DcP.upd {X L:aA} {G G':DcG} {S S':DiskL} (h:DcP X G S) (hb:G'.bd=G.bd) (keep: ∀b o,b≠G.bd→Sx.look X b=some o→Sx.look L b=some o) (hd:Sx.look L G.bd=some (dcO G' S'))
  (hs: ∀k,k<3→(G'.s k=G.s k∧(S'.dir k).seen=(S.dir k).seen)∨NdP L (G'.s k) (S'.dir k).seen)
  (ht: ∀k,k<3→(G'.t k=G.t k∧(S'.dir k).stl=(S.dir k).stl)∨NdP L (G'.t k) (S'.dir k).stl)
  (hp: ∀k,k<3→(G'.p k=G.p k∧(S'.dir k).pend=(S.dir k).pend)∨(G'.p k= .slice none 0 0∧(S'.dir k).pend= []))
  (hf:G'.f=G.f∧S'.files=S.files):DcP L G' S' where
 disk:=by rw[hb];exact hd
 seen k hk:=by
  rcases hs k hk with⟨h1,h2⟩ |h1
  ·rw[h1,h2];exact Gr.keepTy (h.seen k hk) h.disk (by rw[qi];exact CQ) keep
  ·exact h1
 stl k hk:=by
  rcases ht k hk with⟨h1,h2⟩ |h1
  ·rw[h1,h2];exact Gr.keepTy (h.stl k hk) h.disk (by rw[qi];exact CQ) keep
  ·exact h1
 pend k hk:=by
  rcases hp k hk with⟨h1,h2⟩ | ⟨h1,h2⟩
  ·obtain⟨pl,h3,h4⟩:=h.pend k hk
   exact⟨pl,by rw[h2];exact h3,by rw[h1];exact Gr.keepTy h4 h.disk (by rw[qi];exact Uc) keep⟩
  ·exact⟨[],by rw[h2],by rw[h1];exact Gr.nl⟩
 files:=by rw[hf.1,hf.2];exact Gr.keepTy h.files h.disk (by rw[qi];exact Uz) keep
 pdis i j hi hj mW b:=by
  rcases hp i hi with⟨h1,-⟩ | ⟨h1,-⟩
  ·rcases hp j hj with⟨h2,-⟩ | ⟨h2,-⟩
   ·rw[h1,h2];exact h.pdis i j hi hj mW b
   ·rw[h2];intro _ h;cases h
  ·rw[h1];intro h;cases h
set_option linter.defProp false
end Go.Proofs
end
section
open Go Go.Proofs Go.Sx Go.StP
namespace Go.Proofs
set_option maxRecDepth 10000
set_option maxHeartbeats 400000
set_option linter.unusedSimpArgs false
set_option linter.defProp false
end Go.Proofs
end
section
open Go Go.Proofs Go.Sx Go.StP
namespace Go.Proofs
set_option maxRecDepth 10000
set_option maxHeartbeats 400000
set_option linter.unusedSimpArgs false
set_option linter.defProp false
end Go.Proofs
end
section
open Go Go.Proofs Go.Sx Go.StP
namespace Go.Proofs
set_option maxRecDepth 10000
set_option maxHeartbeats 400000
set_option linter.unusedSimpArgs false
set_option linter.defProp false
end Go.Proofs
end
section
open Go Go.Proofs Go.Sx Go.StP
namespace Go.Proofs
set_option maxRecDepth 10000
set_option maxHeartbeats 400000
set_option linter.unusedSimpArgs false
theorem Gr.upd {α:Type} {X:aA} {E:TypeId} {m:Nat} {v:Value} {enc:α→List Value} {l:List α} (h:Gr X E m v l.length (l.map enc).flatten) (hm: ∀x,(enc x).length=m) {k:Nat} (hk:k<l.length) (x:α):
  ∃b rest c,v=vsl b 0 l.length c∧Sx.look X b=some (rowO enc E rest l)∧ ∀L,Sx.look L b=some (rowO enc E rest (l.set k x))→Gr L E m v (l.set k x).length ((l.set k x).map enc).flatten:=by
 rcases h with h| ⟨h,-⟩
 ·generalize hn:l.length=n at h
  generalize dZ: (l.map enc).flatten=cs at h
  cases h with
  |nl=>omega
  | @at_ b n c cs rest hl h1 h2 h3 h4=>
   subst dZ
   refine⟨b,rest,c,rfl,hl,fun L hL=> .inl ?_⟩
   rw[List.length_set,hn]
   exact .at_ hL (by rw[AT hm,List.length_set,hn]) h2 h3 h4
 ·omega
end Go.Proofs
end
section
open Go Go.Proofs Go.Sx Go.StP
namespace Go.Proofs
set_option maxRecDepth 10000
set_option maxHeartbeats 400000
set_option linter.unusedSimpArgs false
structure PkL where
 v:Value
 l:List UInt16
 h:Value.oneCell' v=true∧v.cells= #[v]
def pk0:PkL:=⟨.slice none 0 0,[],rfl,rfl⟩
structure ActL where
 kind:Int
 n:Int
 dir:List UInt8
 name:List UInt8
 s:List UInt8
 picks:PkL
structure ActOk (w:World) (a:ActL):Prop where
 pk:PkS w a.picks.v a.picks.l
 n: -9223372036854775808≤a.n∧a.n<9223372036854775808
theorem PkS.blk {w:World} {v:Value} {l:List UInt16} (h:PkS w v l) (hl:l≠ []) {b:Nat} (hb:slB v=some b):b<w.heap.size:=by
 obtain⟨b',off,c,arr,E,fz,hr,hc,⟨rfl,rfl,rfl⟩ | ⟨rfl,hh,-⟩⟩:=h.resolve_right fun e=>hl e.1
 ·exact absurd rfl hl
 ·cases hb
  exact(Array.getElem?_eq_some_iff.1 hh).1
set_option linter.defProp false
structure DkA (X:aA) (G:DkG) (S:DiskL) (N:Nat):Prop where
 P:DkP X G S
 H:iE S
 B:DkN N S
theorem DkA.pend {X:aA} {G:DkG} {S:DiskL} {N:Nat} (h:DkA X G S N) (hN:N<1000000): ∀k,k<3→(S.dir k).pend.length<1000000:=fun k _=>by
 have:=(h.B k).stl
 omega
theorem DkA.used {X:aA} {G:DkG} {S:DiskL} {N:Nat} (h:DkA X G S N) (hN:N<1000000):cy S<4611686018427387904:=by
 have:=ST h.P.ok h.B
 omega
theorem DkA.mono {X X':aA} {G:DkG} {S:DiskL} {N:Nat} (h:DkA X G S N) (hk: ∀b o,Sx.look X b=some o→Sx.look X' b=some o):DkA X' G S N:=⟨h.P.mono hk,h.H,h.B⟩
theorem DkA.b {X:aA} {G:DkG} {S:DiskL} {N:Nat} (h:DkA X G S N) (hN:N<1000000):DkB S:=h.B.b (by omega)
end Go.Proofs
end
section
open Go Go.Proofs Go.Sx Go.StP
namespace Go.Proofs
set_option maxRecDepth 10000
set_option maxHeartbeats 400000
set_option linter.unusedSimpArgs false
set_option linter.defProp false
theorem xq {w:World} {X D:aA} {b:Nat} {o:Obj} (h:Ext w X D) (hb:w.heap.size≤b):Ext w X ((b,o)::D):=
 ⟨fun c hc=>by
  rcases List.mem_cons.1 hc with rfl|hc
  ·exact .inr hb
  ·exact h.new c hc,fun c hc=>List.mem_cons_of_mem _ (h.all c hc)⟩
end Go.Proofs
end
section
open Go Go.Proofs Go.Sx Go.StP
namespace Go.Proofs
set_option maxRecDepth 10000
set_option maxHeartbeats 1000000
set_option linter.unusedSimpArgs false
set_option linter.defProp false
end Go.Proofs
end
section
open Go Go.Proofs Go.Sx Go.StP
namespace Go.Proofs
set_option maxRecDepth 10000
set_option maxHeartbeats 1000000
set_option linter.unusedSimpArgs false
set_option linter.defProp false
end Go.Proofs
end
section
open Go Go.Proofs Go.Sx Go.StP
namespace Go.Proofs
set_option maxRecDepth 10000
set_option maxHeartbeats 1000000
set_option linter.unusedSimpArgs false
set_option linter.defProp false
end Go.Proofs
end
section
open Go Go.Proofs Go.Sx Go.StP Go.Flo
namespace Go.Proofs
set_option maxRecDepth 10000
set_option maxHeartbeats 400000
set_option linter.unusedSimpArgs false
set_option linter.defProp false
def gv:=And.intro (@ay) (And.intro (@ax) (@Qm))
theorem zo (x a b:Int) (w:World) (hx:x.natAbs<8192) (ha:a.natAbs<8192) (hb:b.natAbs<8192):
  Rets Tryz.prog 253 #[fl x,vi a,vi b] w (fun v D=>v= .tuple #[vi (if a≤x∧x≤b then x else 0), .bool (decide (a≤x∧x≤b))]∧D= []):=by
 refine Rets.enterV Tryz.func253 rfl (rs:= [.tmp 6, .tmp 7]) Tryz.results253 Tryz.ntmps253 ?_
 refine kf ?_
 first|with_reducible refine ks [] @gv ?_|refine kp @gv ?_
 refine Ow.convIF rfl rfl cvIF Tryz.underlying3 Tryz.underlying312 rfl ?_
 refine Ow.fgeq rfl rfl rfl hx ha ?_
 by_cases h1:a≤x
 ·rw[decide_eq_true h1]
  refine ko @gv ?_
  refine Ow.convIF rfl rfl cvIF Tryz.underlying3 Tryz.underlying312 rfl ?_
  refine Ow.fleq rfl rfl rfl hx hb ?_
  by_cases h2:x≤b
  ·rw[decide_eq_true h2,decide_eq_true (show a≤x∧x≤b from⟨h1,h2⟩),if_pos ⟨h1,h2⟩]
   refine ko @gv ?_
   first|with_reducible refine ks [] @gv ?_|refine kp @gv ?_
   refine Ow.convFI rfl rfl cvFI Tryz.underlying312 Tryz.underlying3 rfl hx ?_
   refine ko @gv ?_
   first|with_reducible refine ks [] @gv ?_|refine kp @gv ?_
   refine Ow.convIF rfl rfl cvIF Tryz.underlying3 Tryz.underlying312 rfl ?_
   refine ko @gv ?_
   refine Ow.feql rfl rfl rfl hx hx ?_
   rw[show(x==x)=true by simp]
   refine ko @gv ?_
   first|with_reducible refine ks [] @gv ?_|refine kp @gv ?_
   refine⟨_,(ke @gv),trivial, ?_⟩
   rfl
  ·rw[decide_eq_false h2,decide_eq_false (show¬ (a≤x∧x≤b) from fun h=>h2 h.2),if_neg (fun h=>h2 h.2)]
   refine ko @gv ?_
   first|with_reducible refine ks [] @gv ?_|refine kp @gv ?_
   refine⟨_,(ke @gv),trivial, ?_⟩
   rfl
 ·rw[decide_eq_false h1,decide_eq_false (show¬ (a≤x∧x≤b) from fun h=>h1 h.1),if_neg (fun h=>h1 h.1)]
  refine ko @gv ?_
  first|with_reducible refine ks [] @gv ?_|refine kp @gv ?_
  refine⟨_,(ke @gv),trivial, ?_⟩
  rfl
def cpR (p:PcL) (b:Int):Value:=match cpV p b with
 |some q=> .tuple #[vi q.1,vi q.2, .bool true]
 |none=>if(1≤p.n∧p.n≤4099)∧p.x= []∧(p.n:Int)≤b then .tuple #[vi 0,vi p.n, .bool false] else .tuple #[vi 0,vi 0, .bool false]
theorem Ty {p:PcL} {b:Int} (h:1≤p.n∧p.n≤4099∧p.x= []∧(p.a:Int)≤b - p.n):cpV p b=some (p.a,p.n):=by unfold cpV;rw[if_pos h]
theorem mG {p:PcL} {b:Int} (h: ¬ (1≤p.n∧p.n≤4099∧p.x= []∧(p.a:Int)≤b - p.n)):cpV p b=none:=by unfold cpV;rw[if_neg h]
set_option linter.defProp false
def fE:=And.intro (And.intro (And.intro (And.intro (@ay) (@ax)) (And.intro (@wr) (@wn))) (And.intro (And.intro (@wd) (@wL)) (And.intro (@A9) (@cxz)))) (And.intro (And.intro (And.intro (@BD) (@Ae)) (And.intro (@HY) (@Sx.tup2_0))) (And.intro (And.intro (@Sx.tup2_1) (@Sx.tup3_0)) (And.intro (@Sx.tup3_1) (@Sx.tup3_2))))
theorem FT (p:PcL) (b:Int) (w:World) (hp:PcB p) (h0:0≤b) (h1:b≤4099):
  Rets Tryz.prog 247 #[.agg (pcC p).toArray,vi b] w (fun v D=>v=cpR p b∧D= []):=by
 obtain⟨hpa,xC⟩:=hp
 refine Rets.enterV Tryz.func247 rfl (rs:= [.tmp 4, .tmp 5, .tmp 6]) Tryz.results247 Tryz.ntmps247 ?_
 refine kf ?_
 first|with_reducible refine ks [] @fE ?_|refine kp @fE ?_
 refine Ow.box rfl rfl fun b2 aZ bH=> ?_
 simp only[d9,cu,d8,aV,List.nil_append,List.cons_append]
 refine Ow.go rfl ?_
 simp(disch:=(first|assumption|omega| (simp only[cT,cS,UInt64.reduceToNat];try omega))) only[↓Sx.S0,Sx.S1,Tryz.fx,fE,Nat.reduceAdd,Nat.reducePow,Int.reducePow,Nat.reduceBEq, ↓reduceIte,UInt8.reduceToNat,UInt16.reduceToNat,UInt32.reduceToNat,UInt64.reduceToNat,Int.reduceToNat]
 first|with_reducible refine ks [] @fE ?_|refine kp @fE ?_
 refine Ow.imag rfl rfl ?_
 refine Ow.callFV rfl Tryz.call253 (fun w' aB=>zo (p.n:Int) 1 4099 w' (by omega) (by omega) (by omega)) ?_
 unfold cpR
 by_cases c1:1≤p.n
 ·rw[decide_eq_true (show(1:Int)≤ (p.n:Int)∧(p.n:Int)≤4099 by omega),if_pos (show(1:Int)≤ (p.n:Int)∧(p.n:Int)≤4099 by omega)]
  by_cases c2:p.x= []
  ·have d2:decide (0< (p.x.length:Int))=false:=by rw[c2];rfl
   by_cases c4: (p.n:Int)≤b
   ·have d4:decide (b< (p.n:Int))=false:=decide_eq_false (by omega)
    refine ko (And.intro @fE (And.intro @d2 (@d4))) ?_
    first|with_reducible refine ks [] @fE ?_|refine kp @fE ?_
    refine Ow.real rfl rfl ?_
    refine ko @fE ?_
    refine Ow.callFV rfl Tryz.call253 (fun w' aB=>zo (p.a:Int) 0 (b - p.n) w' (by omega) (by omega) (by omega)) ?_
    by_cases c3: (p.a:Int)≤b - p.n
    ·rw[decide_eq_true (show(0:Int)≤ (p.a:Int)∧(p.a:Int)≤b - p.n by omega),if_pos (show(0:Int)≤ (p.a:Int)∧(p.a:Int)≤b - p.n by omega),Ty ⟨c1,xC,c2,c3⟩]
     refine ko @fE ?_
     first|with_reducible refine ks [] @fE ?_|refine kp @fE ?_
     refine⟨_,(ke @fE),⟨bH,trivial⟩, ?_⟩
     rfl
    ·rw[decide_eq_false (show¬ ((0:Int)≤ (p.a:Int)∧(p.a:Int)≤b - p.n) by omega),if_neg (show¬ ((0:Int)≤ (p.a:Int)∧(p.a:Int)≤b - p.n) by omega),mG (fun h=>c3 h.2.2.2)]
     simp only
     rw[if_pos ⟨⟨c1,xC⟩,c2,c4⟩]
     refine ko @fE ?_
     first|with_reducible refine ks [] @fE ?_|refine kp @fE ?_
     refine⟨_,(ke @fE),⟨bH,trivial⟩, ?_⟩
     rfl
   ·have d4:decide (b< (p.n:Int))=true:=decide_eq_true (by omega)
    rw[mG (fun h=>by have:=h.2.2.2;omega)]
    simp only
    rw[if_neg (fun h=>c4 h.2.2)]
    refine ko (And.intro @fE (And.intro @d2 (@d4))) ?_
    first|with_reducible refine ks [] @fE ?_|refine kp @fE ?_
    refine⟨_,(ke @fE),⟨bH,trivial⟩, ?_⟩
    rfl
  ·have d2:decide (0< (p.x.length:Int))=true:=decide_eq_true (by have:=List.length_pos_iff.2 c2;omega)
   rw[mG (fun h=>c2 h.2.2.1)]
   simp only
   rw[if_neg (fun h=>c2 h.2.1)]
   refine ko (And.intro @fE @d2) ?_
   first|with_reducible refine ks [] @fE ?_|refine kp @fE ?_
   refine⟨_,(ke @fE),⟨bH,trivial⟩, ?_⟩
   rfl
 ·rw[decide_eq_false (show¬ ((1:Int)≤ (p.n:Int)∧(p.n:Int)≤4099) by omega),if_neg (show¬ ((1:Int)≤ (p.n:Int)∧(p.n:Int)≤4099) by omega),mG (fun h=>c1 h.1)]
  simp only
  rw[if_neg (fun h=>c1 h.1.1)]
  refine ko @fE ?_
  first|with_reducible refine ks [] @fE ?_|refine kp @fE ?_
  refine⟨_,(ke @fE),⟨bH,trivial⟩, ?_⟩
  rfl
end Go.Proofs
end
section
open Go Go.Proofs Go.Sx Go.StP Go.Flo
namespace Go.Proofs
set_option maxRecDepth 10000
set_option maxHeartbeats 400000
set_option linter.unusedSimpArgs false
theorem Ye {p:PcL} {b:Int} (h:ey p b≠0):ey p b=(match cpV p b with|some q=>q.2|none=>p.x.length):=by
 unfold ey at h ⊢
 split
 ·rename_i hz
  rw[mG (fun hc=>by omega)]
 ·rename_i hz
  rw[if_neg hz] at h
  cases hc:cpV p b with
  |none=>rw[hc] at h;exact absurd rfl h
  |some q=>rfl
theorem SK {p:PcL} {b:Int} {q:Nat×Nat} (h:cpV p b=some q):q=(p.a,p.n)∧1≤p.n:=by
 unfold cpV at h
 split at h
 ·rename_i hc;cases h;exact⟨rfl,hc.1⟩
 ·cases h
set_option linter.defProp false
def eT:=And.intro (And.intro (And.intro (And.intro (@ay) (@ax)) (And.intro (@wr) (@wn))) (And.intro (And.intro (@wd) (@wL)) (And.intro (@A9) (@cxz)))) (And.intro (And.intro (And.intro (@BD) (@Ae)) (And.intro (@HY) (@Sx.tup2_0))) (And.intro (And.intro (@Sx.tup2_1) (@Sx.tup3_0)) (And.intro (@Sx.tup3_1) (@Sx.tup3_2))))
theorem Lo (p:PcL) (b:Int) (w:World) (hp:PcB p) (h0:0≤b) (h1:b≤4099):
  Rets Tryz.prog 252 #[.agg (pcC p).toArray,vi b] w (fun v D=>v= .bool (decide (ey p b≠0))∧D= []):=by
 have rL:=hp
 obtain⟨hpa,xC⟩:=rL
 have iN: ¬ (p.a=0∧p.n=0)→(cpV p b).isSome=decide (ey p b≠0):=by
  intro hz
  unfold ey
  rw[if_neg (fun h=>hz ⟨h.1,h.2.1⟩)]
  cases hc:cpV p b with
  |none=>rfl
  |some q=>
   obtain⟨rfl,hn⟩:=SK hc
   rw[decide_eq_true (show p.n≠0 by omega)]
   rfl
 refine Rets.enterV Tryz.func252 rfl (rs:= [.tmp 4]) Tryz.results252 Tryz.ntmps252 ?_
 refine kf ?_
 first|with_reducible refine ks [3] @eT ?_|refine kp @eT ?_
 refine Ow.box rfl rfl fun b2 aZ bH=> ?_
 simp only[d9,cu,d8,aV,List.nil_append,List.cons_append]
 refine Ow.go rfl ?_
 simp(disch:=(first|assumption|omega| (simp only[cT,cS,UInt64.reduceToNat];try omega))) only[↓Sx.S0,Sx.S1,Tryz.fx,eT,Nat.reduceAdd,Nat.reducePow,Int.reducePow,Nat.reduceBEq, ↓reduceIte,UInt8.reduceToNat,UInt16.reduceToNat,UInt32.reduceToNat,UInt64.reduceToNat,Int.reduceToNat]
 first|with_reducible refine ks [] @eT ?_|refine kp @eT ?_
 refine Ow.real rfl rfl ?_
 refine Ow.feql (b:=0) rfl rfl rfl (by omega) (by omega) ?_
 have fin: ∀v,v=cpR p b→ ∃x y,v= .tuple #[x,y, .bool (cpV p b).isSome]:=by
  rintro v rfl
  unfold cpR
  cases cpV p b with
  |some q=>exact⟨_,_,rfl⟩
  |none=>
   simp only
   split
   ·exact⟨_,_,rfl⟩
   ·exact⟨_,_,rfl⟩
 obtain⟨x,y,hxy⟩:=fin _ rfl
 by_cases ha:p.a=0
 ·have e1: (((p.a:Nat):Int)==0)=true:=by rw[ha];rfl
  rw[e1]
  refine ko @eT ?_
  refine Ow.imag rfl rfl ?_
  refine Ow.feql (b:=0) rfl rfl rfl (by omega) (by omega) ?_
  by_cases hn:p.n=0
  ·have e2: (((p.n:Nat):Int)==0)=true:=by rw[hn];rfl
   rw[e2]
   have hc:cpV p b=none:=mG (fun h=>by omega)
   by_cases hl:1≤p.x.length
   ·have d1:decide ((1:Int)≤ (p.x.length:Int))=true:=decide_eq_true (by omega)
    by_cases hm:p.x.length≤4099
    ·have d2:decide ((p.x.length:Int)≤4099)=true:=decide_eq_true (by omega)
     have hr:decide (ey p b≠0)=true:=decide_eq_true (by unfold ey;rw[if_pos ⟨ha,hn,hm⟩];omega)
     rw[hr]
     refine ko (And.intro @eT (And.intro @d1 (@d2))) ?_
     first|with_reducible refine ks [] (And.intro @eT (And.intro @d1 (@d2))) ?_|refine kp (And.intro @eT (And.intro @d1 (@d2))) ?_
     refine⟨_,(ke @eT),⟨bH,trivial⟩, ?_⟩
     rfl
    ·have d2:decide ((p.x.length:Int)≤4099)=false:=decide_eq_false (by omega)
     have hr:decide (ey p b≠0)=false:=decide_eq_false (by unfold ey;rw[if_neg (fun h=>hm h.2.2),hc];simp)
     rw[hr]
     refine ko (And.intro @eT (And.intro @d1 (@d2))) ?_
     first|with_reducible refine ks [] (And.intro @eT (And.intro @d1 (@d2))) ?_|refine kp (And.intro @eT (And.intro @d1 (@d2))) ?_
     refine⟨_,(ke @eT),⟨bH,trivial⟩, ?_⟩
     rfl
   ·have d1:decide ((1:Int)≤ (p.x.length:Int))=false:=decide_eq_false (by omega)
    have hr:decide (ey p b≠0)=false:=decide_eq_false (by unfold ey;rw[if_pos ⟨ha,hn,by omega⟩];omega)
    rw[hr]
    refine ko (And.intro @eT @d1) ?_
    first|with_reducible refine ks [] (And.intro @eT @d1) ?_|refine kp (And.intro @eT @d1) ?_
    refine⟨_,(ke @eT),⟨bH,trivial⟩, ?_⟩
    rfl
  ·have e2: (((p.n:Nat):Int)==0)=false:=beq_eq_false_iff_ne.2 (by omega)
   rw[e2,←iN (fun h=>hn h.2)]
   refine ko @eT ?_
   first|with_reducible refine ks [] @eT ?_|refine kp @eT ?_
   refine Ow.callFV rfl Tryz.call247 (fun w' aB=>FT p b w' hp h0 h1) ?_
   rw[hxy]
   refine ko @eT ?_
   first|with_reducible refine ks [] @eT ?_|refine kp @eT ?_
   refine⟨_,(ke @eT),⟨bH,trivial⟩, ?_⟩
   rfl
 ·have e1: (((p.a:Nat):Int)==0)=false:=beq_eq_false_iff_ne.2 (by omega)
  rw[e1,←iN (fun h=>ha h.1)]
  refine ko @eT ?_
  first|with_reducible refine ks [] @eT ?_|refine kp @eT ?_
  refine Ow.callFV rfl Tryz.call247 (fun w' aB=>FT p b w' hp h0 h1) ?_
  rw[hxy]
  refine ko @eT ?_
  first|with_reducible refine ks [] @eT ?_|refine kp @eT ?_
  refine⟨_,(ke @eT),⟨bH,trivial⟩, ?_⟩
  rfl
end Go.Proofs
end
section
open Go Go.Proofs Go.Sx Go.StP Go.Flo
namespace Go.Proofs
set_option maxRecDepth 10000
set_option maxHeartbeats 400000
set_option linter.unusedSimpArgs false
theorem Aq {p:PcL} {b:Int} {q:Nat×Nat} (h:cpV p b=some q):cpR p b= .tuple #[vi q.1,vi q.2, .bool true]:=by unfold cpR;rw[h]
theorem Ay {p:PcL} {b:Int} (h:cpV p b=none): ∃y:Int,cpR p b= .tuple #[vi 0,vi y, .bool false]:=by
 unfold cpR
 rw[h]
 simp only
 split
 ·exact⟨_,rfl⟩
 ·exact⟨_,rfl⟩
set_option linter.defProp false
def di:=And.intro (And.intro (And.intro (@ay) (@ax)) (And.intro (@wr) (And.intro (@wn) (@wd)))) (And.intro (And.intro (@wL) (And.intro (@Sx.tup2_0) (@Sx.tup2_1))) (And.intro (@Sx.tup3_0) (And.intro (@Sx.tup3_1) (@Sx.tup3_2))))
theorem Y2 (b:Int) (v:Value) (l:List PcL) (w:World) (hv:PcSl w v l) (hl:BndP l) (hn:l.length<1000000000):
  Rets Tryz.prog 246 #[vi b,v] w (fun v D=>v= .tuple #[vi (chkV b l).1,vi (chkV b l).2]∧D= []):=by
 obtain⟨bb,off,arr,E,fz,hr⟩:=hv.row
 have ln:=hv.len
 refine Rets.enterV Tryz.func246 rfl (rs:= [.tmp 4, .tmp 5]) Tryz.results246 Tryz.ntmps246 ?_
 refine kf ?_
 unfold chkV
 by_cases fT:b<0
 ·have d1:decide (b<0)=true:=decide_eq_true fT
  rw[if_pos (.inl fT)]
  first|with_reducible refine ks [] (And.intro @di @d1) ?_|refine kp (And.intro @di @d1) ?_
  refine⟨_,(ke @di),trivial, ?_⟩
  rfl
 have d1:decide (b<0)=false:=decide_eq_false fT
 by_cases gS:4099<b
 ·have d2:decide (4099<b)=true:=decide_eq_true gS
  rw[if_pos (.inr gS)]
  first|with_reducible refine ks [] (And.intro @di (And.intro @d1 (@d2))) ?_|refine kp (And.intro @di (And.intro @d1 (@d2))) ?_
  refine⟨_,(ke @di),trivial, ?_⟩
  rfl
 have d2:decide (4099<b)=false:=decide_eq_false gS
 rw[if_neg (by omega)]
 first|with_reducible refine ks [] (And.intro @di (And.intro @d1 (@d2))) ?_|refine kp (And.intro @di (And.intro @d1 (@d2))) ?_
 refine Cw.loopG (G:=Nat) [18,19,20,21,24,25,26,27,28,29,30,4,5,22,23,6] (fun g=> [(6,vi g)]) (fun g=> []) (fun g=>g≤l.length∧anyZ b (l.take g)=false) (fun g=>l.length - g) 0 rfl rfl ?_ ?_
 ·exact⟨Nat.zero_le _,rfl⟩
 intro k jk hk
 refine kv ?_
 obtain⟨hk,hz⟩:=hk
 by_cases aD:k<l.length
 ·have d3:decide ((k:Int)< (l.length:Int))=true:=decide_eq_true (by omega)
  have rd:=hr.has (by omega)
  have ix:=hr.idx true k aD
  have ld:=hr.load tD (by omega) aD
  obtain⟨Dq,xD⟩:=hl k aD
  have GC:=OS (b:=b) aD
  have hmz:=tP (b:=b) aD
  generalize l.getD k pc0=p at*
  first|with_reducible refine ks [] (And.intro @di (And.intro @ln (And.intro @d3 (And.intro @ix (And.intro @rd (@ld)))))) ?_|refine kp (And.intro @di (And.intro @ln (And.intro @d3 (And.intro @ix (And.intro @rd (@ld)))))) ?_
  refine Ow.callFV rfl Tryz.call252 (fun w' aB=>Lo p b w' Dq (by omega) (by omega)) ?_
  by_cases g3:ey p b=0
  ·rw[decide_eq_false (show¬ (ey p b≠0) by omega),if_pos (hmz g3)]
   refine ko @di ?_
   first|with_reducible refine ks [] @di ?_|refine kp @di ?_
   refine⟨_,(ke @di),trivial, ?_⟩
   rfl
  ·rw[decide_eq_true (show ey p b≠0 from g3)]
   refine ko @di ?_
   first|with_reducible refine ks [] @di ?_|refine kp @di ?_
   refine Again.mk (k+1) (by omega) ⟨aD, ?_⟩ rfl rfl
   rw[GC,hz,Bool.false_or]
   exact beq_eq_false_iff_ne.2 g3
 ·obtain rfl:k=l.length:=by omega
  have d3:decide ((l.length:Int)< (l.length:Int))=false:=decide_eq_false (by omega)
  rw[List.take_length] at hz
  rw[if_neg (by rw[hz];decide)]
  first|with_reducible refine ks [] (And.intro @di (And.intro @ln (@d3))) ?_|refine kp (And.intro @di (And.intro @ln (@d3))) ?_
  refine Cw.loopG (G:=Nat) [31,32,33,34,38,39,40,41,42,43,37,44,45,46,9,10,11,47,48,49,50,51,52,53,54,55,56,57,7,58,59,4,5,35,36,8] (fun g=> [(7,vi (eB b (l.take g):Nat)),(8,vi g)]) (fun g=> []) (fun g=>g≤l.length∧eB b (l.take g)≤4099) (fun g=>l.length - g) 0 rfl rfl ?_ ?_
  ·exact⟨Nat.zero_le _,by simp[eB]⟩
  intro m jm hm
  refine kv ?_
  obtain⟨hm,hs⟩:=hm
  by_cases aD:m<l.length
  ·have d4:decide ((m:Int)< (l.length:Int))=true:=decide_eq_true (by omega)
   have rd:=hr.has (by omega)
   have ix:=hr.idx true m aD
   have ld:=hr.load tD (by omega) aD
   have ld1:aI (some (false,1)) (some (.cells arr E fz)) (off+m*2+1)=some (vs (l.getD m pc0).x):=hr.cell (j:=1) (n:=1) aD (by omega)
   obtain⟨Dq,xD⟩:=hl m aD
   have bF:=Or (b:=b) aD
   have dN:=Z4 (b:=b) (l:=l) (g:=m+1)
   have g3:ey (l.getD m pc0) b≠0:=fun h=>by rw[tP aD h] at hz;cases hz
   have kJ:=Ye g3
   have gG:=AY (l.getD m pc0) b
   generalize l.getD m pc0=p at*
   first|with_reducible refine ks [15] (And.intro @di (And.intro @ln (And.intro @d4 (And.intro @ix (And.intro @rd (@ld)))))) ?_|refine kp (And.intro @di (And.intro @ln (And.intro @d4 (And.intro @ix (And.intro @rd (@ld)))))) ?_
   refine Ow.callFV rfl Tryz.call247 (fun w' aB=>FT p b w' Dq (by omega) (by omega)) ?_
   have fin: ∀N:Nat,eB b (l.take (m+1))=eB b (l.take m)+N→((eB b (l.take m):Nat):Int)+ (N:Int)=((eB b (l.take (m+1)):Nat):Int):=fun N h=>by omega
   cases hc:cpV p b with
   |some q=>
    rw[hc] at kJ
    simp only at kJ
    rw[Aq hc,←kJ]
    generalize ey p b=N at*
    have hf:=fin N bF
    refine ko @di ?_
    by_cases h4:4099<eB b (l.take (m+1))
    ·have d5:decide ((4099:Int)< ((eB b (l.take (m+1)):Nat):Int))=true:=decide_eq_true (by omega)
     rw[if_pos (show 4099<eB b l by omega)]
     first|with_reducible refine ks [] (And.intro @di (And.intro @hf (@d5))) ?_|refine kp (And.intro @di (And.intro @hf (@d5))) ?_
     refine⟨_,(ke @di),trivial, ?_⟩
     rfl
    ·have d5:decide ((4099:Int)< ((eB b (l.take (m+1)):Nat):Int))=false:=decide_eq_false (by omega)
     first|with_reducible refine ks [] (And.intro @di (And.intro @hf (@d5))) ?_|refine kp (And.intro @di (And.intro @hf (@d5))) ?_
     exact Again.mk (m+1) (by omega) ⟨aD,by omega⟩ rfl rfl
   |none=>
    rw[hc] at kJ
    simp only at kJ
    obtain⟨y,hy⟩:=Ay hc
    rw[hy]
    have hf:=fin p.x.length (by omega)
    refine ko (And.intro @di (And.intro @ix (And.intro @rd (@ld1)))) ?_
    by_cases h4:4099<eB b (l.take (m+1))
    ·have d5:decide ((4099:Int)< ((eB b (l.take (m+1)):Nat):Int))=true:=decide_eq_true (by omega)
     rw[if_pos (show 4099<eB b l by omega)]
     first|with_reducible refine ks [] (And.intro @di (And.intro @hf (@d5))) ?_|refine kp (And.intro @di (And.intro @hf (@d5))) ?_
     refine⟨_,(ke @di),trivial, ?_⟩
     rfl
    ·have d5:decide ((4099:Int)< ((eB b (l.take (m+1)):Nat):Int))=false:=decide_eq_false (by omega)
     first|with_reducible refine ks [] (And.intro @di (And.intro @hf (@d5))) ?_|refine kp (And.intro @di (And.intro @hf (@d5))) ?_
     exact Again.mk (m+1) (by omega) ⟨aD,by omega⟩ rfl rfl
  ·obtain rfl:m=l.length:=by omega
   have d4:decide ((l.length:Int)< (l.length:Int))=false:=decide_eq_false (by omega)
   rw[List.take_length] at hs
   rw[if_neg (by omega),List.take_length]
   first|with_reducible refine ks [] (And.intro @di (And.intro @ln (@d4))) ?_|refine kp (And.intro @di (And.intro @ln (@d4))) ?_
   refine⟨_,(ke @di),trivial, ?_⟩
   rfl
end Go.Proofs
end
section
open Go Go.Proofs Go.Sx Go.StP Go.Flo
namespace Go.Proofs
set_option maxRecDepth 10000
set_option maxHeartbeats 400000
set_option linter.unusedSimpArgs false
theorem UT {p:PcL} {b:Int} {q:Nat×Nat} (h:cpV p b=some q):q=(p.a,p.n)∧1≤p.n∧p.n≤4099∧p.x= []∧(p.a:Int)≤b - p.n:=by
 unfold cpV at h
 split at h
 ·rename_i hc;cases h;exact⟨rfl,hc⟩
 ·cases h
set_option linter.defProp false
def iZ:=And.intro (And.intro (And.intro (@ay) (@ax)) (And.intro (@wr) (And.intro (@wn) (@wd)))) (And.intro (And.intro (@wL) (And.intro (@Sx.tup2_0) (@Sx.tup2_1))) (And.intro (@Sx.tup3_0) (And.intro (@Sx.tup3_1) (@Sx.tup3_2))))
theorem Lg (base:List UInt8) (v:Value) (l:List PcL) (w:World) (hv:PcSl w v l) (hl:BndP l) (hn:l.length<1000000000):
  Rets Tryz.prog 235 #[vs base,v] w (fun v' D=>v'= .tuple #[vs (if(chkV base.length l).2=0 then txtP base l else []),vi (chkV base.length l).2]∧D= []):=by
 obtain⟨bb,off,arr,E,fz,hr⟩:=hv.row
 have ln:=hv.len
 refine Rets.enterV Tryz.func235 rfl (rs:= [.tmp 4, .tmp 5]) Tryz.results235 Tryz.ntmps235 ?_
 refine kf ?_
 first|with_reducible refine ks [] @iZ ?_|refine kp @iZ ?_
 refine Ow.callFV rfl Tryz.call246 (fun w' aB=>Y2 (base.length:Int) v l w' (hv.oldN aB trivial) hl hn) ?_
 by_cases he: (chkV base.length l).2=0
 ·obtain⟨m,hm⟩: ∃m,chkV base.length l=(m,0):=⟨(chkV base.length l).1,by rw[←he]⟩
  obtain⟨-,gS,hz,hs4,-,pV⟩:=uH hm
  rw[if_pos he,hm]
  have e0: ((0:Int) !=0)=false:=rfl
  refine ko @iZ ?_
  first|with_reducible refine ks [] (And.intro @iZ @e0) ?_|refine kp (And.intro @iZ @e0) ?_
  refine Cw.loopG (G:=Nat) [23,24,25,26,30,31,32,33,34,35,36,29,37,38,39,10,11,12,40,41,42,43,44,45,46,47,48,8,49,50,51,52,53,54,55,27,28,9] (fun g=> [(8,vs (txtP base (l.take g))),(9,vi g)]) (fun g=> []) (fun g=>g≤l.length) (fun g=>l.length - g) 0 rfl rfl ?_ ?_
  ·exact Nat.zero_le _
  intro k jk hk
  refine kv ?_
  by_cases aD:k<l.length
  ·have d3:decide ((k:Int)< (l.length:Int))=true:=decide_eq_true (by omega)
   have rd:=hr.has (by omega)
   have ix:=hr.idx true k aD
   have ld:=hr.load tD (by omega) aD
   have ld1:aI (some (false,1)) (some (.cells arr E fz)) (off+k*2+1)=some (vs (l.getD k pc0).x):=hr.cell (j:=1) (n:=1) aD (by omega)
   obtain⟨Dq,xD⟩:=hl k aD
   have GC:=Nm (base:=base) aD
   have ee:pcT base (l.getD k pc0)=(match cpV (l.getD k pc0) base.length with|some q=>(base.drop q.1).take q.2++ (l.getD k pc0).x|none=>(l.getD k pc0).x):=rfl
   have me: (txtP base (l.take k)).length≤4099:=by
    rw[tg (base:=base) (UM (g:=k) hz)]
    have:=Z4 (b:=(base.length:Int)) (l:=l) (g:=k)
    omega
   have gp:cpV (l.getD k pc0) base.length=none→(l.getD k pc0).x.length≤4099:=fun hc=>by
    have g3:ey (l.getD k pc0) base.length≠0:=fun h=>by rw[tP aD h] at hz;cases hz
    have h1:=Ye g3
    have h2:=AY (l.getD k pc0) base.length
    rw[hc] at h1
    simp only at h1
    omega
   generalize l.getD k pc0=p at*
   first|with_reducible refine ks [] (And.intro @iZ (And.intro @ln (And.intro @d3 (And.intro @ix (And.intro @rd (@ld)))))) ?_|refine kp (And.intro @iZ (And.intro @ln (And.intro @d3 (And.intro @ix (And.intro @rd (@ld)))))) ?_
   refine Ow.callFV rfl Tryz.call247 (fun w' aB=>FT p (base.length:Int) w' Dq (by omega) (by omega)) ?_
   cases hc:cpV p base.length with
   |some q=>
    rw[hc] at ee
    simp only at ee
    obtain⟨rfl,h1,h2,h3,h4⟩:=UT hc
    rw[Aq hc]
    rw[h3,List.append_nil] at ee
    simp only at ee ⊢
    refine ko @iZ ?_
    first|with_reducible refine ks [] @iZ ?_|refine kp @iZ ?_
    refine Again.mk (k+1) (by omega) (by omega) rfl ?_
    rw[GC,ee,←show(base.take (p.a+p.n)).drop p.a=(base.drop p.a).take p.n by rw[List.drop_take,Nat.add_sub_cancel_left]]
    rfl
   |none=>
    rw[hc] at ee
    simp only at ee
    obtain⟨y,hy⟩:=Ay hc
    have hx4:=gp hc
    rw[hy]
    refine ko @iZ ?_
    first|with_reducible refine ks [] (And.intro @iZ (And.intro @ix (And.intro @rd (@ld1)))) ?_|refine kp (And.intro @iZ (And.intro @ix (And.intro @rd (@ld1)))) ?_
    refine Again.mk (k+1) (by omega) (by omega) rfl ?_
    rw[GC,ee]
    rfl
  ·obtain rfl:k=l.length:=by omega
   have d3:decide ((l.length:Int)< (l.length:Int))=false:=decide_eq_false (by omega)
   rw[List.take_length]
   first|with_reducible refine ks [] (And.intro @iZ (And.intro @ln (@d3))) ?_|refine kp (And.intro @iZ (And.intro @ln (@d3))) ?_
   refine⟨_,(ke @iZ),trivial, ?_⟩
   rfl
 ·rw[if_neg he]
  have e0: ((chkV base.length l).2 !=0)=true:=bne_iff_ne.2 he
  refine ko @iZ ?_
  first|with_reducible refine ks [] (And.intro @iZ @e0) ?_|refine kp (And.intro @iZ @e0) ?_
  refine⟨_,(ke @iZ),trivial, ?_⟩
  rfl
end Go.Proofs
end
section
open Go Go.Proofs Go.Sx Go.StP Go.Flo
namespace Go.Proofs
set_option maxRecDepth 10000
set_option maxHeartbeats 400000
set_option linter.unusedSimpArgs false
def rrO (s:List UInt8) (a:Nat) (e:Int):Obj:= .cells #[vs s,vi a,vi e] 217 (0,0)
theorem AD (s:List UInt8) (a:Nat) (e:Int) (n:Nat):aI (some (false,n)) (some (rrO s a e)) 0=some (vs s):=(rfl)
theorem An (s:List UInt8) (a:Nat) (e:Int) (n:Nat):aI (some (false,n)) (some (rrO s a e)) 1=some (vi a):=(rfl)
theorem AN (s:List UInt8) (a:Nat) (e:Int) (n:Nat):aI (some (false,n)) (some (rrO s a e)) 2=some (vi e):=(rfl)
theorem Iz (b:Nat) (s:List UInt8) (a:Nat) (e n:Int) (w:World) (ha:a≤s.length) (hs:s.length<1099511627776) (ho:w.heap[b]? =some (rrO s a e)):
  Rets Tryz.prog 182 #[vp b 0,vi n] w (fun v D=> ∃o,D= [(b,o)]∧v=vs (az s a e n).1∧o=rrO s (az s a e n).2.1 (az s a e n).2.2):=HV b s a e n w ha hs ho
theorem xU (b:Nat) (s:List UInt8) (a:Nat) (e most:Int) (w:World) (ha:a≤s.length) (hs:s.length<1099511627776) (ho:w.heap[b]? =some (rrO s a e)):
  Rets Tryz.prog 146 #[vp b 0,vi most] w (fun v D=> ∃o,D= [(b,o)]∧v=vi (aE s a e most).1∧o=rrO s (aE s a e most).2.1 (aE s a e most).2.2):=Gf b s a e most w ha hs ho
theorem Z7 (b:Nat) (s:List UInt8) (a:Nat) (e:Int) (w:World) (ho:w.heap[b]? =some (rrO s a e)):
  Rets Tryz.prog 145 #[vp b 0] w (fun v D=>v=vi (bR s a e)∧D= []):=GZ b s a e w ho
theorem zrRR:am Tryz.prog 217=some (.agg #[vs [],vi 0,vi 0]):=id (by kernel_rfl)
theorem QW (s:List UInt8):fW (cg Tryz.prog 217) (am Tryz.prog 217) [(0,vs s)]=some (.agg #[vs s,vi 0,vi 0]):=by
 rw[show cg Tryz.prog 217=some [(0,1),(1,1),(2,1)] from id (by kernel_rfl),zrRR];rfl
theorem PW:fW (cg Tryz.prog 311) (am Tryz.prog 311) []=some (.agg (pcC pc0).toArray):=by
 rw[show cg Tryz.prog 311=some [(0,1),(1,1)] from id (by kernel_rfl),zrPc];rfl
theorem OV (x n:Nat) (E:TypeId) (a:Bool):ab (some (a,1)) (some (.cells (pcC pc0).toArray E (0,0))) 0 (cx x n)=some (.cells (pcC ⟨x,n,[]⟩).toArray E (0,0)):=(rfl)
theorem P8 (x:List UInt8) (E:TypeId) (a:Bool):ab (some (a,1)) (some (.cells (pcC pc0).toArray E (0,0))) 1 (vs x)=some (.cells (pcC ⟨0,0,x⟩).toArray E (0,0)):=(rfl)
structure RrG where
 a:Nat
 e:Int
 out:List PcL
 v:Value
 D:aA
 DG:aA
def RrJ (d:List UInt8) (a0:Nat) (e0:Int) (sz:Nat) (g:RrG):Prop:=
 New sz g.D∧New sz g.DG∧Gr g.D 311 2 g.v g.out.length (g.out.map pcC).flatten∧g.a≤d.length∧BndP g.out∧g.out.length≤g.a+1∧(g.e=0→g.out.length≤g.a)∧
  ((e0≠0∧g.e≠0)∨(e0=0∧((g.e=0∧pcs d a0=(g.out++ (pcs d g.a).1,(pcs d g.a).2))∨(g.e≠0∧pcs d a0=(g.out,g.a,g.e)))))
def qY (d:List UInt8) (v:Value) (D:aA):Prop:=match wg d with
 |some p=> ∃x,v= .tuple #[vi p.1,x, .bool true]∧BndP p.2∧p.2.length≤4099∧p.1≤4099∧GrI D 311 2 x p.2.length (p.2.map pcC).flatten
 |none=>v= .tuple #[vi 0, .slice none 0 0, .bool false]
theorem Pz {out:List PcL} {p:PcL} (h:BndP out) (hp:PcB p∧p.x.length<9223372036854775808):BndP (out++ [p]):=by
 intro g hg
 by_cases aD:g<out.length
 ·rw[yM aD];exact h g aD
 ·rw[List.length_append] at hg
  rw[yZ (by omega),show g - out.length=0 by simp at hg;omega]
  exact hp
set_option linter.defProp false
def bq:=And.intro (And.intro (And.intro (@ay) (And.intro (@ax) (@AD))) (And.intro (And.intro (@An) (@AN)) (And.intro (@wr) (@wn)))) (And.intro (And.intro (And.intro (@wd) (@wL)) (And.intro (@Sx.tup2_0) (@Sx.tup2_1))) (And.intro (And.intro (@Sx.tup3_0) (@Sx.tup3_1)) (And.intro (@Sx.tup3_2) (@HY))))
theorem LD (d:List UInt8) (w:World) (hd:d.length<100000000):Rets Tryz.prog 234 #[vs d] w (XS w [] (qY d)):=by
 refine Rets.enterX Tryz.func234 rfl (rs:= [.tmp 2, .tmp 3, .tmp 4]) Tryz.results234 Tryz.ntmps234 (fun p hp=>by cases hp) (by simp[keys]) ?_
 refine kf ?_
 first|with_reducible refine ks [] @bq ?_|refine kp @bq ?_
 refine Ow.build (.agg #[vs d,vi 0,vi 0]) rfl (QW d) ?_
 refine ko @bq ?_
 refine Ow.box rfl rfl fun br lk kM=> ?_
 simp only[d9,cu,d8,aV,List.nil_append]
 refine Ow.permL (M:= [(br,rrO d 0 0)]) (List.Perm.refl _) ?_
 refine ko @bq ?_
 first|with_reducible refine ks [] @bq ?_|refine kp @bq ?_
 have l1:=iD (s:=d) (a:=0) (e:=0) (most:=4099) (Nat.zero_le _)
 have m1:=pv (s:=d) (a:=0) (e:=0) (most:=4099) (by omega)
 refine Ow.callM rfl rfl Tryz.call146 (by simp[keys]) (fun w' aB=>xU br d 0 0 4099 w' (Nat.zero_le _) (by omega) (aB.has _ _ List.mem_cons_self)) ?_
 refine kn ?_
 refine ko @bq ?_
 first|with_reducible refine ks [] @bq ?_|refine kp @bq ?_
 have l2:=iD (s:=d) (a:=(aE d 0 0 4099).2.1) (e:=(aE d 0 0 4099).2.2) (most:=4099) l1.2
 refine Ow.callM rfl rfl Tryz.call146 (by simp[keys]) (fun w' aB=>xU br d (aE d 0 0 4099).2.1 (aE d 0 0 4099).2.2 4099 w' l1.2 (by omega) (aB.has _ _ List.mem_cons_self)) ?_
 have sM:=A8 d
 rw[show aE d 0 0 4099=dB d from rfl] at l2 m1 ⊢
 rw[show aE d (dB d).2.1 (dB d).2.2 4099=dM d from rfl] at l2 ⊢
 refine kn ?_
 refine ko @bq ?_
 first|with_reducible refine ks [] @bq ?_|refine kp @bq ?_
 refine Cw.permL (M:=(br,rrO d (dM d).2.1 (dM d).2.2):: ([]++ [])) (List.Perm.refl _) ?_
 refine Cw.loopG (G:=RrG) [20,21,22,23,24,25,26,27,28,29,30,31,32,33,34,35,9,36,10,37,38,39,40,41,42,43,44,45,46,47,48,49,50,51,52,53,54,55,56,8] (fun g=> [(8,g.v)]) (fun g=>(br,rrO d g.a g.e):: (g.D++g.DG)) (fun g=>RrJ d (dM d).2.1 (dM d).2.2 w.heap.size g) (fun g=>(if g.e=0 then d.length - g.a+1 else 0)) ⟨(dM d).2.1,(dM d).2.2,[], .slice none 0 0,[],[]⟩ rfl rfl ?_ ?_
 ·refine⟨trivial,trivial,Gr.nl,l2.2,fun g hg=>by simp at hg,by simp,fun _=>Nat.zero_le _, ?_⟩
  by_cases he: (dM d).2.2=0
  ·exact .inr ⟨he, .inl ⟨he,rfl⟩⟩
  ·exact .inl ⟨he,he⟩
 intro g j hg
 refine kv ?_
 obtain⟨a,e,out,v,D,DG⟩:=g
 obtain⟨hN,bQ,hG,gm,hB,lL,rH,cQ⟩:=hg
 simp only at hN bQ hG gm hB lL rH cQ ⊢
 by_cases hc:e=0∧a<d.length
 ·obtain⟨rfl,aD⟩:=hc
  have e0: ((0:Int)==0)=true:=rfl
  have d1:decide ((a:Int)< (d.length:Int))=true:=decide_eq_true (by omega)
  have lH:=iD (s:=d) (a:=a) (e:=0) (most:=8199) gm
  have fV:=pv (s:=d) (a:=a) (e:=0) (most:=8199) (by omega)
  have rM:pcR d a=pcR d a:=rfl
  conv at rM=>rhs;unfold pcR
  first|with_reducible refine ks [1000008] (And.intro @bq (And.intro @e0 (@d1))) ?_|refine kp (And.intro @bq (And.intro @e0 (@d1))) ?_
  refine Ow.callM rfl rfl Tryz.call146 (by simp[keys]) (fun w' aB=>xU br d a 0 8199 w' gm (by omega) (aB.has _ _ List.mem_cons_self)) ?_
  generalize aE d a 0 8199=q at*
  obtain⟨q1,a1,e1⟩:=q
  simp only at lH fV rM ⊢
  obtain⟨Q,rfl⟩: ∃Q:Nat,q1=(Q:Int):=⟨q1.toNat,by omega⟩
  have hQ:Q≤8199:=by omega
  refine kn ?_
  refine ko @bq ?_
  first|with_reducible refine ks [] @bq ?_|refine kp @bq ?_
  refine Ow.build (.agg (pcC pc0).toArray) rfl PW ?_
  refine ko @bq ?_
  refine Ow.alloc rfl rfl zrPc fun b10 qx j6=> ?_
  simp only[aV,List.nil_append,List.cons_append]
  have ZP:br<b10:=ae qx (by simp[keys])
  have bF:=Qd pc0 pc0 311
  refine Ow.permL (M:=(b10, .cells (pcC pc0).toArray 311 (0,0)):: (br,rrO d a1 e1):: (D++DG)) (by classical exact List.perm_iff_count.2 fun a=>by simp only[List.count_append,List.count_cons,List.count_nil]<;>omega) ?_
  refine ko (And.intro @bq @bF) ?_
  refine Cw.cutO (G:=(PcL×Nat×Int)) [37,38,39,40,41,42,43,44,45,46,47,48,49,50,51,52] (fun g=> []) (fun g=>(b10, .cells (pcC g.1).toArray 311 (0,0)):: (br,rrO d g.2.1 g.2.2):: (D++DG)) (fun g=>pcR d a=g∧(PcB g.1∧g.1.x.length<9223372036854775808)) ?_ ?_
  ·by_cases rE: (Q:Int)%2=1
   ·have d2: (((Q:Nat):Int)%2==1)=true:=by rw[beq_iff_eq];exact rE
    rw[if_pos rE] at rM
    have lu:=pv (s:=d) (a:=a1) (e:=e1) (most:=4099) (by omega)
    first|with_reducible refine ks [] (And.intro @bq @d2) ?_|refine kp (And.intro @bq @d2) ?_
    refine Ow.callM rfl rfl Tryz.call146 (by simp[keys]) (fun w' aB=>xU br d a1 e1 4099 w' lH.2 (by omega) (aB.has _ _ (List.mem_cons_of_mem _ List.mem_cons_self))) ?_
    generalize aE d a1 e1 4099=x at*
    obtain⟨x1,a2,e2⟩:=x
    simp only at lu rM ⊢
    obtain⟨X,rfl⟩: ∃X:Nat,x1=(X:Int):=⟨x1.toNat,by omega⟩
    rw[Int.toNat_natCast,show((Q:Int) / 2).toNat=Q / 2 by omega] at rM
    refine kn ?_
    refine Ow.convIF rfl rfl cvIF Tryz.underlying3 Tryz.underlying312 rfl ?_
    refine ko @bq ?_
    rw[show(Q:Int) / 2=((Q / 2:Nat):Int) by omega]
    refine Ow.convIF rfl rfl cvIF Tryz.underlying3 Tryz.underlying312 rfl ?_
    refine Ow.complexB (a:=(X:Nat)) (b:=(Q / 2:Nat)) rfl rfl rfl ?_
    have dT:=fun a=>OV X (Q / 2) 311 a
    refine ko (And.intro @bq @dT) ?_
    refine CutO.mk (⟨X,Q / 2,[]⟩,a2,e2) ⟨rM,⟨by show X≤4099;omega,by show Q / 2≤4099;omega⟩,by show 0<9223372036854775808;omega⟩ rfl rfl
   ·have d2: (((Q:Nat):Int)%2==1)=false:=by rw[beq_eq_false_iff_ne];exact rE
    rw[if_neg rE] at rM
    first|with_reducible refine ks [] (And.intro @bq @d2) ?_|refine kp (And.intro @bq @d2) ?_
    refine Ow.callM rfl rfl Tryz.call182 (by simp[keys]) (fun w' aB=>Iz br d a1 e1 ((Q:Int) / 2) w' lH.2 (by omega) (aB.has _ _ (List.mem_cons_of_mem _ List.mem_cons_self))) ?_
    have gp: (az d a1 e1 ((Q:Int) / 2)).1.length≤d.length:=by
     unfold az
     split
     ·simp
     ·split
      ·simp
      ·split
       ·simp
       ·simp only[List.length_take,List.length_drop];omega
    generalize az d a1 e1 ((Q:Int) / 2)=x at*
    obtain⟨x1,a2,e2⟩:=x
    simp only at gp rM ⊢
    refine kn ?_
    have dT:=fun a=>P8 x1 311 a
    refine ko (And.intro @bq @dT) ?_
    refine CutO.mk (⟨0,0,x1⟩,a2,e2) ⟨rM,⟨Nat.zero_le _,Nat.zero_le _⟩,by show x1.length<9223372036854775808;omega⟩ rfl rfl
  ·intro g j hg
   refine kv ?_
   obtain⟨p,a2,e2⟩:=g
   obtain⟨hpq,hpB⟩:=hg
   simp only at hpB ⊢
   have dN:=uU gm
   have pc:=uR gm
   have bX:=Uq aD
   have WV:=TV aD
   rw[hpq] at dN pc bX WV
   simp only at dN pc bX WV
   first|with_reducible refine ks [] @bq ?_|refine kp @bq ?_
   refine Ow.buildSlice (e:=311) (pcC p).toArray rfl rfl (TX p) fun b11 vG rP=> ?_
   refine ko @bq ?_
   refine Ow.permL (M:=D++ ((b10, .cells (pcC p).toArray 311 (0,0)):: (br,rrO d a2 e2):: (DG++ [(b11, .cells (pcC p).toArray 311 (0,0))]))) (by classical exact List.perm_iff_count.2 fun a=>by simp only[List.count_append,List.count_cons,List.count_nil]<;>omega) ?_
   refine Ow.appendXG (e:=311) (k:=1) (new:=pcC p) (X:=D) v rfl rfl rfl rfl Tryz.underlying297 (id (by kernel_rfl):aM Tryz.prog 311=some (true,2)) (by kernel_rfl) zrPc (by rw[wL];rfl) Tryz.underlying297 (by intro k h;cases h) hG (fun w' aB=>AppX.one1 (aB.has b11 (.cells (pcC p).toArray 311 (0,0)) (by simp)) (tD p) (Bs p)) (by omega) (fun B3 v3 D3 ew n8 W7 Wb vZ Wq=> ?_)
   have gR:New w.heap.size D3:=New.of_le fun q hq=>by
    rcases vZ q hq with h|h
    ·exact hN.le q h
    ·omega
   refine Ow.permL (M:=(br,rrO d a2 e2):: (D3++ ((b10, .cells (pcC p).toArray 311 (0,0)):: (DG++ [(b11, .cells (pcC p).toArray 311 (0,0))])))) (by classical exact List.perm_iff_count.2 fun a=>by simp only[List.count_append,List.count_cons,List.count_nil]<;>omega) ?_
   refine ko @bq ?_
   refine Again.mk ⟨a2,e2,out++ [p],v3,D3,(b10, .cells (pcC p).toArray 311 (0,0)):: (DG++ [(b11, .cells (pcC p).toArray 311 (0,0))])⟩ ?_ ⟨gR,⟨j6,bQ.app ⟨rP,trivial⟩⟩,by simpa using W7,dN.2,Pz hB hpB, ?_, ?_, ?_⟩ rfl rfl
   ·show(if e2=0 then d.length - a2+1 else 0)< (if(0:Int)=0 then d.length - a+1 else 0)
    rw[if_pos rfl]
    split
    ·rename_i he;have:=pc he;omega
    ·omega
   ·show(out++ [p]).length≤a2+1
    have:=rH rfl
    rw[List.length_append];simp;omega
   ·intro he
    show(out++ [p]).length≤a2
    have:=rH rfl
    have:=pc he
    rw[List.length_append];simp;omega
   ·rcases cQ with⟨h1,h2⟩ | ⟨h1,h2|h2⟩
    ·exact absurd rfl h2
    ·refine .inr ⟨h1, ?_⟩
     by_cases he:e2=0
     ·refine .inl ⟨he, ?_⟩
      rw[h2.2,bX he]
      simp
     ·refine .inr ⟨he, ?_⟩
      rw[h2.2,WV he]
    ·exact absurd rfl h2.1
 ·have Zn: (e==0&&decide ((a:Int)< (d.length:Int)))=false:=by
   rw[Bool.and_eq_false_iff]
   by_cases he:e=0
   ·right;exact decide_eq_false (fun h=>hc ⟨he,by omega⟩)
   ·left;exact beq_eq_false_iff_ne.2 he
  have gD:New w.heap.size ((br,rrO d a e):: (D++DG)):=⟨kM,hN.app bQ⟩
  by_cases he:e=0
  ·subst he
   have WF: ¬a<d.length:=fun h=>hc ⟨rfl,h⟩
   have e0: ((0:Int)==0)=true:=rfl
   have d1:decide ((a:Int)< (d.length:Int))=false:=decide_eq_false (by omega)
   have hE:bR d a 0=0:=by unfold bR;rw[if_neg (by simp),if_neg (by omega)]
   have n0: ((0:Int) !=0)=false:=rfl
   obtain⟨h1,h2⟩: (dM d).2.2=0∧pcs d (dM d).2.1=(out,a,0):=by
    rcases cQ with⟨h1,h2⟩ | ⟨h1,h2|h2⟩
    ·exact absurd rfl h2
    ·rw[Tk WF] at h2
     exact⟨h1,by rw[h2.2,List.append_nil]⟩
    ·exact absurd rfl h2.1
   rw[h2] at sM
   rw[if_neg (by rw[h1];simp),if_neg (by simp)] at sM
   simp only at sM
   first|with_reducible refine ks [] (And.intro @bq (And.intro @e0 (@d1))) ?_|refine kp (And.intro @bq (And.intro @e0 (@d1))) ?_
   refine Ow.callFV rfl Tryz.call145 (fun w' aB=>Z7 br d a 0 w' (aB.has _ _ List.mem_cons_self)) ?_
   rw[hE]
   refine ko (And.intro @bq @n0) ?_
   first|with_reducible refine ks [] (And.intro @bq @n0) ?_|refine kp (And.intro @bq @n0) ?_
   refine Ow.callFV rfl Tryz.call246 (fun w' aB=>Y2 (dB d).1 v out w' (hG.slM (fun b o hm=>aB.has b o (by simp[hm])) rfl rfl tD) hB (by omega)) ?_
   unfold qY
   by_cases hk:chkV (dB d).1 out=((dM d).1,0)
   ·rw[if_pos hk] at sM
    rw[sM,hk]
    obtain⟨-,-,-,-,-,iy⟩:=uH hk
    have n1: ((dM d).1 !=(dM d).1)=false:=bne_self_eq_false _
    refine ko @bq ?_
    first|with_reducible refine ks [] (And.intro @bq (And.intro @n0 (@n1))) ?_|refine kp (And.intro @bq (And.intro @n0 (@n1))) ?_
    refine⟨_,(ke @bq), ?_⟩
    refine⟨Ext.of_new gD,v, ?_,hB,iy,by show(dB d).1.toNat≤4099;omega,Gr.i hG fun q hq=>by simp[hq]⟩
    show Value.tuple #[vi (dB d).1,v, .bool true]= .tuple #[vi ((dB d).1.toNat:Nat),v, .bool true]
    rw[show(((dB d).1.toNat:Nat):Int)=(dB d).1 by omega]
   ·rw[if_neg hk] at sM
    rw[sM]
    obtain⟨N,E,hNE⟩: ∃N E,chkV (dB d).1 out=(N,E):=⟨_,_,rfl⟩
    rw[hNE] at hk ⊢
    by_cases nA:E=0
    ·subst nA
     have n1: (N !=(dM d).1)=true:=bne_iff_ne.2 (fun h=>hk (by rw[h]))
     refine ko @bq ?_
     first|with_reducible refine ks [] (And.intro @bq (And.intro @n0 (@n1))) ?_|refine kp (And.intro @bq (And.intro @n0 (@n1))) ?_
     refine⟨_,(ke @bq), ?_⟩
     exact⟨Ext.of_new gD,rfl⟩
    ·have n1: (E !=0)=true:=bne_iff_ne.2 nA
     refine ko @bq ?_
     first|with_reducible refine ks [] (And.intro @bq @n1) ?_|refine kp (And.intro @bq @n1) ?_
     refine⟨_,(ke @bq), ?_⟩
     exact⟨Ext.of_new gD,rfl⟩
  ·have e0: (e==0)=false:=beq_eq_false_iff_ne.2 he
   have hE:bR d a e=e:=by unfold bR;rw[if_pos he]
   have n0: (e !=0)=true:=bne_iff_ne.2 he
   have j4:wg d=none:=by
    rw[sM]
    rcases cQ with⟨h1,h2⟩ | ⟨h1,h2|h2⟩
    ·rw[if_pos h1]
    ·exact absurd h2.1 he
    ·rw[h2.2,if_neg (by rw[h1];simp),if_pos he]
   first|with_reducible refine ks [] (And.intro @bq @e0) ?_|refine kp (And.intro @bq @e0) ?_
   refine Ow.callFV rfl Tryz.call145 (fun w' aB=>Z7 br d a e w' (aB.has _ _ List.mem_cons_self)) ?_
   rw[hE]
   refine ko (And.intro @bq @n0) ?_
   first|with_reducible refine ks [] (And.intro @bq @n0) ?_|refine kp (And.intro @bq @n0) ?_
   refine⟨_,(ke @bq), ?_⟩
   refine⟨Ext.of_new gD, ?_⟩
   unfold qY
   rw[j4]
   rfl
end Go.Proofs
end
section
open Go Go.Proofs Go.Sx Go.StP Go.Flo
namespace Go.Proofs
set_option maxRecDepth 10000
set_option maxHeartbeats 400000
set_option linter.unusedSimpArgs false
set_option linter.defProp false
def k6:=And.intro (And.intro (And.intro (@ay) (@ax)) (And.intro (@wr) (And.intro (@wn) (@wd)))) (And.intro (And.intro (@wL) (And.intro (@Sx.tup2_0) (@Sx.tup2_1))) (And.intro (@Sx.tup3_0) (And.intro (@Sx.tup3_1) (@Sx.tup3_2))))
theorem Kx (base d:List UInt8) (w:World) (hd:d.length<100000000):
  Rets Tryz.prog 215 #[vs base,vs d] w (fun v D=>v= .tuple #[vs (k8 base d).1,vi (k8 base d).2]∧D= []):=by
 refine Rets.enterV Tryz.func215 rfl (rs:= [.tmp 4, .tmp 5]) Tryz.results215 Tryz.ntmps215 ?_
 refine kf ?_
 first|with_reducible refine ks [] @k6 ?_|refine kp @k6 ?_
 refine Ow.callC rfl rfl Tryz.call234 (fun w' aB=>LD d w' hd) (fun B1 v1 D1 fa fK eE fS=> ?_)
 have cZ:=eE.mono fK
 unfold qY at fS
 cases hr:wg d with
 |none=>
  rw[hr] at fS
  have vB:v1= .tuple #[vi 0, .slice none 0 0, .bool false]:=fS
  subst vB
  have pR:k8 base d=([],2):=by unfold k8;rw[hr]
  refine ko @k6 ?_
  first|with_reducible refine ks [] @k6 ?_|refine kp @k6 ?_
  refine⟨_,(ke @k6),cZ, ?_⟩
  rw[pR];rfl
 |some p=>
  rw[hr] at fS
  obtain⟨x,rfl,hB,pV,hp4,hg⟩:=fS
  by_cases hb:p.1=base.length
  ·have e1: (((p.1:Nat):Int) !=((base.length:Nat):Int))=false:=by rw[hb];exact bne_self_eq_false _
   obtain⟨m,hm⟩:=yN hr
   rw[hb] at hm
   have pR:k8 base d=(txtP base p.2,0):=by unfold k8;rw[hr];simp only;rw[if_neg (by simp[hb])]
   refine ko @k6 ?_
   first|with_reducible refine ks [] (And.intro @k6 @e1) ?_|refine kp (And.intro @k6 @e1) ?_
   refine Ow.callFV rfl Tryz.call235 (fun w' aB=>Lg base x p.2 w' (GrI.slV (hg.mono fun q hq=>by simp[hq]) aB rfl rfl tD) hB (by omega)) ?_
   rw[hm,if_pos rfl]
   refine ko @k6 ?_
   first|with_reducible refine ks [] @k6 ?_|refine kp @k6 ?_
   refine⟨_,(ke @k6),cZ, ?_⟩
   rw[pR];rfl
  ·have e1: (((p.1:Nat):Int) !=((base.length:Nat):Int))=true:=by rw[bne_iff_ne];omega
   have pR:k8 base d=([],19):=by unfold k8;rw[hr];simp only;rw[if_pos hb]
   refine ko @k6 ?_
   first|with_reducible refine ks [] (And.intro @k6 @e1) ?_|refine kp (And.intro @k6 @e1) ?_
   refine⟨_,(ke @k6),cZ, ?_⟩
   rw[pR];rfl
structure PrG where
 at_:Nat
 out:List Nat
 v:Value
 D:aA
 DG:aA
set_option linter.defProp false
def dh:=And.intro (And.intro (And.intro (@ay) (@ax)) (And.intro (@yW) (@Yv))) (And.intro (And.intro (@Yw) (@FR)) (And.intro (@Sx.tup2_0) (@Sx.tup2_1)))
theorem Ns (v0:Value) (l:List PartL) (a0:Int) (w:World) (hv:CF w v0 l):
  Rets Tryz.prog 214 #[v0,vi a0] w (XS w [] (jg l a0)):=by
 obtain⟨bb,off,arr,E,fz,hr⟩:=hv.row
 have ln:=hv.len
 refine Rets.enterX Tryz.func214 rfl (rs:= [.tmp 4, .tmp 5]) Tryz.results214 Tryz.ntmps214 (fun p hp=>by cases hp) (by simp[keys]) ?_
 refine kf ?_
 by_cases hc:200<l.length∨a0<0∨(l.length:Int)≤a0
 ·have XW:jH l a0= .error 1:=by unfold jH;rw[if_pos hc]
  unfold jg
  rw[XW]
  by_cases h1:200<l.length
  ·have d1:decide ((200:Int)< (l.length:Int))=true:=decide_eq_true (by omega)
   first|with_reducible refine ks [] (And.intro @dh (And.intro @ln (@d1))) ?_|refine kp (And.intro @dh (And.intro @ln (@d1))) ?_
   refine⟨_,(ke @dh), ?_⟩
   exact⟨Ext.refl _ _,rfl⟩
  ·have d1:decide ((200:Int)< (l.length:Int))=false:=decide_eq_false (by omega)
   by_cases h2:a0<0
   ·have d2:decide (a0<0)=true:=decide_eq_true h2
    first|with_reducible refine ks [] (And.intro @dh (And.intro @ln (And.intro @d1 (@d2)))) ?_|refine kp (And.intro @dh (And.intro @ln (And.intro @d1 (@d2)))) ?_
    refine⟨_,(ke @dh), ?_⟩
    exact⟨Ext.refl _ _,rfl⟩
   ·have d2:decide (a0<0)=false:=decide_eq_false h2
    have d3:decide ((l.length:Int)≤a0)=true:=decide_eq_true (by omega)
    first|with_reducible refine ks [] (And.intro @dh (And.intro @ln (And.intro @d1 (And.intro @d2 (@d3))))) ?_|refine kp (And.intro @dh (And.intro @ln (And.intro @d1 (And.intro @d2 (@d3))))) ?_
    refine⟨_,(ke @dh), ?_⟩
    exact⟨Ext.refl _ _,rfl⟩
 ·have d1:decide ((200:Int)< (l.length:Int))=false:=decide_eq_false (by omega)
  have d2:decide (a0<0)=false:=decide_eq_false (by omega)
  have d3:decide ((l.length:Int)≤a0)=false:=decide_eq_false (by omega)
  obtain⟨A,rfl⟩: ∃A:Nat,a0=(A:Int):=⟨a0.toNat,by omega⟩
  have XW:jH l (A:Int)=(kR l 5 A).map ([]++ ·):=by
   unfold jH
   rw[if_neg hc,Int.toNat_natCast]
   cases kR l 5 A<;>rfl
  first|with_reducible refine ks [] (And.intro @dh (And.intro @ln (And.intro @d1 (And.intro @d2 (@d3))))) ?_|refine kp (And.intro @dh (And.intro @ln (And.intro @d1 (And.intro @d2 (@d3))))) ?_
  refine Cw.loopG (G:=PrG) [21,22,25,26,4,5,27,28,29,30,6,31,32,33,34,35,36,37,38,39,40,41,42,43,44,45,46,47,48,49,50,51,52,53,54,55,56,57,58,59,60,61,62,63,1,23,24,7] (fun g=> [(1,vi g.at_),(6,g.v),(7,vi g.out.length)]) (fun g=>g.D++g.DG) (fun g=>New w.heap.size g.D∧New w.heap.size g.DG∧Gr g.D 3 1 g.v g.out.length (g.out.map natC).flatten∧g.at_<l.length∧g.out.length≤5∧jH l (A:Int)=(kR l (5 - g.out.length) g.at_).map (g.out++ ·)) (fun g=>6 - g.out.length) ⟨A,[], .slice none 0 0,[],[]⟩ rfl rfl ?_ ?_
  ·exact⟨trivial,trivial,Gr.nl,by show A<l.length;omega,by simp,XW⟩
  intro g j hg
  refine kv ?_
  obtain⟨a,out,v,D,DG⟩:=g
  obtain⟨hN,bQ,hG,gm,lL,cQ⟩:=hg
  simp only at hN bQ hG gm lL cQ ⊢
  have d4:decide ((out.length:Int)<6)=true:=decide_eq_true (by omega)
  by_cases h5:out.length=5
  ·have d5: ((out.length:Int)==5)=true:=by rw[h5];rfl
   rw[h5] at cQ
   have kI:jH l (A:Int)= .error 11:=cQ
   first|with_reducible refine ks [] (And.intro @dh (And.intro @d4 (@d5))) ?_|refine kp (And.intro @dh (And.intro @d4 (@d5))) ?_
   refine⟨_,(ke @dh), ?_⟩
   refine⟨Ext.of_new (hN.app bQ), ?_⟩
   unfold jg
   rw[kI]
   rfl
  ·have d5: ((out.length:Int)==5)=false:=beq_eq_false_iff_ne.2 (by omega)
   have Zv:kR l (5 - out.length) a=kR l (4 - out.length+1) a:=by congr 1;omega
   rw[Zv,kR] at cQ
   first|with_reducible refine ks [] (And.intro @dh (And.intro @d4 (@d5))) ?_|refine kp (And.intro @dh (And.intro @d4 (@d5))) ?_
   refine Ow.buildSlice (e:=3) #[vi a] rfl rfl (by kernel_rfl) fun b9 hb9 ED=> ?_
   refine ko @dh ?_
   refine Ow.permL (M:=D++ (DG++ [(b9, .cells #[vi a] 3 (0,0))])) (by classical exact List.perm_iff_count.2 fun a=>by simp only[List.count_append,List.count_cons,List.count_nil]<;>omega) ?_
   refine Ow.appendXG (e:=3) (k:=1) (new:=natC a) (X:=D) v rfl rfl rfl rfl Tryz.underlying196 (id (by kernel_rfl):aM Tryz.prog 3=some (false,1)) (by kernel_rfl) (id (by kernel_rfl):am Tryz.prog 3=some (vi 0)) rfl Tryz.underlying196 (by intro k h;cases h) hG (fun w' aB=>AppX.one1 (aB.has b9 (.cells #[vi a] 3 (0,0)) (by simp)) (Am a) rfl) (by omega) (fun B3 v3 D3 ew n8 W7 Wb vZ Wq=> ?_)
   have gR:New w.heap.size D3:=New.of_le fun c hc=>by
    rcases vZ c hc with h|h
    ·exact hN.le c h
    ·omega
   have sB:Gr D3 3 1 v3 (out++ [a]).length ((out++ [a]).map natC).flatten:=by simpa using W7
   have rI: (out++ [a]).length=out.length+1:=by simp
   have Cq:New w.heap.size (DG++ [(b9, .cells #[vi a] 3 (0,0))]):=bQ.app ⟨ED,trivial⟩
   generalize DG++ [(b9,Obj.cells #[vi a] 3 (0,0))]=DG' at*
   have gD:New w.heap.size (D3++DG'):=gR.app Cq
   have fT:0<l.length:=by omega
   have jO:=hr.lt fT
   have rd:aP w (D3++DG') bb=some (.cells arr E fz):=by rw[lW (gD.not jO)];exact hr.has fT
   have i2:=hr.idx true a gm
   have ld0:aI (some (false,1)) (some (.cells arr E fz)) (off+a*3)=some (.bool (l.getD a fP).d):=hr.cell (j:=0) (n:=1) gm (by omega)
   have ld1:aI (some (false,1)) (some (.cells arr E fz)) (off+a*3+1)=some (vi (l.getD a fP).b):=hr.cell (j:=1) (n:=1) gm (by omega)
   generalize l.getD a fP=p at*
   cases hd:p.d with
   |false=>
    rw[hd,if_neg (by simp)] at cQ
    rw[hd] at ld0
    by_cases hb:p.b=0
    ·have e1: (p.b !=0)=false:=by rw[hb];rfl
     rw[if_neg (by simp[hb])] at cQ
     refine ko (And.intro @dh (And.intro @i2 (And.intro @rd (And.intro @ld0 (And.intro @ld1 (@e1)))))) ?_
     first|with_reducible refine ks [] (And.intro @dh (And.intro @i2 (And.intro @rd (And.intro @ld0 (And.intro @ld1 (@e1)))))) ?_|refine kp (And.intro @dh (And.intro @i2 (And.intro @rd (And.intro @ld0 (And.intro @ld1 (@e1)))))) ?_
     refine⟨_,(ke @dh), ?_⟩
     refine⟨Ext.of_new gD, ?_⟩
     unfold jg
     rw[cQ]
     exact⟨v3,rfl,by show(out++ [a]).length≤5;omega,Gr.i sB fun c hc=>by simp[hc]⟩
    ·have e1: (p.b !=0)=true:=by rw[bne_iff_ne];exact hb
     rw[if_pos hb] at cQ
     have kI:jH l (A:Int)= .error 2:=cQ
     refine ko (And.intro @dh (And.intro @i2 (And.intro @rd (And.intro @ld0 (And.intro @ld1 (@e1)))))) ?_
     first|with_reducible refine ks [] (And.intro @dh (And.intro @i2 (And.intro @rd (And.intro @ld0 (And.intro @ld1 (@e1)))))) ?_|refine kp (And.intro @dh (And.intro @i2 (And.intro @rd (And.intro @ld0 (And.intro @ld1 (@e1)))))) ?_
     refine⟨_,(ke @dh), ?_⟩
     refine⟨Ext.of_new gD, ?_⟩
     unfold jg
     rw[kI];rfl
   |true=>
    rw[hd,if_pos rfl] at cQ
    rw[hd] at ld0
    by_cases hb:p.b<0
    ·have e1:decide (p.b<0)=true:=decide_eq_true hb
     rw[if_pos (.inl hb)] at cQ
     have kI:jH l (A:Int)= .error 2:=cQ
     refine ko (And.intro @dh (And.intro @i2 (And.intro @rd (And.intro @ld0 (And.intro @ld1 (@e1)))))) ?_
     first|with_reducible refine ks [] (And.intro @dh (And.intro @i2 (And.intro @rd (And.intro @ld0 (And.intro @ld1 (@e1)))))) ?_|refine kp (And.intro @dh (And.intro @i2 (And.intro @rd (And.intro @ld0 (And.intro @ld1 (@e1)))))) ?_
     refine⟨_,(ke @dh), ?_⟩
     refine⟨Ext.of_new gD, ?_⟩
     unfold jg
     rw[kI];rfl
    ·have e1:decide (p.b<0)=false:=decide_eq_false hb
     by_cases aZ: (a:Int)≤p.b
     ·have e2:decide ((a:Int)≤p.b)=true:=decide_eq_true aZ
      rw[if_pos (.inr aZ)] at cQ
      have kI:jH l (A:Int)= .error 2:=cQ
      refine ko (And.intro @dh (And.intro @i2 (And.intro @rd (And.intro @ld0 (And.intro @ld1 (And.intro @e1 (@e2))))))) ?_
      first|with_reducible refine ks [] (And.intro @dh (And.intro @i2 (And.intro @rd (And.intro @ld0 (And.intro @ld1 (And.intro @e1 (@e2))))))) ?_|refine kp (And.intro @dh (And.intro @i2 (And.intro @rd (And.intro @ld0 (And.intro @ld1 (And.intro @e1 (@e2))))))) ?_
      refine⟨_,(ke @dh), ?_⟩
      refine⟨Ext.of_new gD, ?_⟩
      unfold jg
      rw[kI];rfl
     ·have e2:decide ((a:Int)≤p.b)=false:=decide_eq_false aZ
      rw[if_neg (by omega)] at cQ
      obtain⟨Bn,Vz⟩: ∃Bn:Nat,p.b=(Bn:Int):=⟨p.b.toNat,by omega⟩
      rw[Vz] at ld1 e1 e2 cQ
      rw[Int.toNat_natCast] at cQ
      refine ko (And.intro @dh (And.intro @i2 (And.intro @rd (And.intro @ld0 (And.intro @ld1 (And.intro @e1 (@e2))))))) ?_
      first|with_reducible refine ks [] (And.intro @dh (And.intro @i2 (And.intro @rd (And.intro @ld0 (And.intro @ld1 (And.intro @e1 (@e2))))))) ?_|refine kp (And.intro @dh (And.intro @i2 (And.intro @rd (And.intro @ld0 (And.intro @ld1 (And.intro @e1 (@e2))))))) ?_
      refine Again.mk ⟨Bn,out++ [a],v3,D3,DG'⟩ (by show 6 - (out++ [a]).length<6 - out.length;omega) ⟨gR,Cq,sB,by show Bn<l.length;omega,by show(out++ [a]).length≤5;omega, ?_⟩ rfl (by simp only[rI];rfl)
      show jH l (A:Int)=(kR l (5 - (out++ [a]).length) Bn).map ((out++ [a])++ ·)
      rw[cQ,show 5 - (out++ [a]).length=4 - out.length by omega]
      split
      ·rename_i h4
       rw[h4];rfl
      ·cases kR l (4 - out.length) Bn with
       |error x=>rfl
       |ok x=>show Except.ok _=Except.ok _;simp
end Go.Proofs
end
section
open Go Go.Proofs Go.Sx Go.StP Go.Flo
namespace Go.Proofs
set_option maxRecDepth 10000
set_option maxHeartbeats 400000
set_option linter.unusedSimpArgs false
def BndD (l:List PartL):Prop:= ∀g,g<l.length→(l.getD g fP).x.length<100000000
theorem xp {α:Type} {enc:α→List Value} {m:Nat} {D:aA} {E:TypeId} {v:Value} {l:List α} (h:GrI D E m v l.length (l.map enc).flatten) (hn: (keys D).Nodup):l.length=0∨ ∃b c rest,v=vsl b 0 l.length c∧b∈keys D∧Sx.look D b=some (rowO enc E rest l):=by
 obtain⟨X,hX,h| ⟨h0,-⟩⟩:=h
 ·rcases h.inv with⟨-,h0,-⟩ | ⟨b,c,rest,rfl,hl,h1,h2,h3,h4⟩
  ·exact .inl h0
  ·exact .inr ⟨b,c,rest,rfl,List.mem_map_of_mem (f:=Prod.fst) (hX _ (cO hl)),Gc hn (hX _ (cO hl))⟩
 ·exact .inl h0
structure TrG where
 n:Nat
 s:List UInt8
 DG:aA
set_option linter.defProp false
def er:=And.intro (And.intro (And.intro (@ay) (@ax)) (And.intro (@yW) (@Yv))) (And.intro (And.intro (@Yw) (@FR)) (And.intro (@Sx.tup2_0) (@Sx.tup2_1)))
theorem Lt (v0:Value) (l:List PartL) (a0:Int) (w:World) (hv:CF w v0 l) (hb:BndD l):
  Rets Tryz.prog 190 #[v0,vi a0] w (fun v D=>v=mP (partV l a0)∧D= []):=by
 obtain⟨bb,off,arr,E,fz,hr⟩:=hv.row
 refine Rets.enterV Tryz.func190 rfl (rs:= [.tmp 4, .tmp 5]) Tryz.results190 Tryz.ntmps190 ?_
 refine kf ?_
 first|with_reducible refine ks [] @er ?_|refine kp @er ?_
 refine Ow.callC rfl rfl Tryz.call214 (fun w' aB=>Ns v0 l a0 w' (hv.oldN aB trivial)) (fun B1 v1 D1 fa fK eE fS=> ?_)
 have cZ:=eE.mono fK
 unfold jg at fS
 unfold partV
 cases hp:jH l a0 with
 |error e=>
  rw[hp] at fS
  have vB:v1= .tuple #[.slice none 0 0,vi e]:=fS
  subst vB
  have e0: (e !=0)=true:=by rw[bne_iff_ne];exact yw hp
  refine ko @er ?_
  first|with_reducible refine ks [] (And.intro @er @e0) ?_|refine kp (And.intro @er @e0) ?_
  refine⟨_,(ke @er),cZ, ?_⟩
  rfl
 |ok p=>
  rw[hp] at fS
  obtain⟨x,rfl,hp5,Zs⟩:=fS
  have aD:=Rp hp
  have e0: ((0:Int) !=0)=false:=rfl
  have aL: ∀m,gP (.sl m) x=some (vi p.length):=fun m=>rk Zs m
  rw[List.nil_append]
  refine ko (And.intro @er (And.intro @e0 (@aL))) ?_
  first|with_reducible refine ks [] @er ?_|refine kp @er ?_
  refine Cw.world fun wz jw=> ?_
  have bE:=jw.nodup
  clear jw wz
  refine Cw.permL (M:=D1++ []) (by rw[List.append_nil]) ?_
  refine Cw.loopG (G:=TrG) [25,26,29,30,31,32,33,34,35,10,36,37,38,39,40,41,42,4,5,43,44,8,46,47,48,49,45,50,51,11,12,52,53,54,55,27,28,9] (fun g=> [(8,vs g.s),(9,vi ((g.n:Int) - 1))]) (fun g=>D1++g.DG) (fun g=>g.n≤p.length∧jF l (p.drop g.n)= .ok g.s∧New w.heap.size g.DG) (fun g=>g.n) ⟨p.length,[],[]⟩ rfl rfl ?_ ?_
  ·exact⟨Nat.le_refl _,by rw[List.drop_length];rfl,trivial⟩
  intro g j hg
  refine kv ?_
  obtain⟨n,s,DG⟩:=g
  simp only at hg ⊢
  obtain⟨lx,gE,bQ⟩:=hg
  have gD:New w.heap.size (D1++DG):=cZ.app bQ
  cases n with
  |zero=>
   have d1:decide ((0:Int)≤ ((0:Nat):Int) - 1)=false:=rfl
   first|with_reducible refine ks [] (And.intro @er @d1) ?_|refine kp (And.intro @er @d1) ?_
   refine⟨_,(ke @er),gD, ?_⟩
   rw[List.drop_zero] at gE;show _=mP ((Except.ok p).bind (jF l));rw[show(Except.ok p).bind (jF l)=jF l p from rfl,gE];rfl
  |succ n=>
   have en: ((n+1:Nat):Int) - 1=(n:Int):=by omega
   rw[en]
   have d1:decide ((0:Int)≤ (n:Int))=true:=decide_eq_true (by omega)
   obtain h0| ⟨bp,cp,rp,rfl,sP,bl⟩:=xp Zs bE
   ·omega
   have da:n<p.length:=by omega
   have rdp:aP w (D1++DG) bp=some (rowO natC 3 rp p):=aY (bL bl)
   have lp:=RQ (E:=3) (rest:=rp) 1 n da
   have lJ:p.getD n 0<l.length:=aD _ (nX da)
   have fB:p.drop n=p.getD n 0::p.drop (n+1):=HK (z:=0) da
   have jQ:jF l (p.drop n)=if(ga (l.getD (p.getD n 0) fP) s).2=0 then .ok (ga (l.getD (p.getD n 0) fP) s).1 else .error (ga (l.getD (p.getD n 0) fP) s).2:=by
    rw[fB,jF,gE];rfl
   generalize p.getD n 0=a at*
   have fT:0<l.length:=by omega
   have jO:=hr.lt fT
   have rd:aP w (D1++DG) bb=some (.cells arr E fz):=by rw[lW (gD.not jO)];exact hr.has fT
   have i2:=hr.idx true a lJ
   have ld:=hr.load Hk (by omega) lJ
   have xD:=hb a lJ
   generalize l.getD a fP=pt at*
   have bF:=Yj pt fP 279
   first|with_reducible refine ks [7] (And.intro @er (And.intro @d1 (And.intro @lp (And.intro @rdp (And.intro @rd (And.intro @i2 (@ld))))))) ?_|refine kp (And.intro @er (And.intro @d1 (And.intro @lp (And.intro @rdp (And.intro @rd (And.intro @i2 (@ld))))))) ?_
   refine Ow.alloc rfl rfl nd fun b10 qx j6=> ?_
   simp only[aV,List.nil_append,List.cons_append]
   refine Ow.permL (M:=(b10, .cells (cY fP).toArray 279 (0,0)):: (D1++DG)) (by classical exact List.perm_iff_count.2 fun a=>by simp only[List.count_append,List.count_cons,List.count_nil]<;>omega) ?_
   cases hd:pt.d with
   |false=>
    by_cases pV:4099<pt.x.length
    ·have d2:decide ((4099:Int)< (pt.x.length:Int))=true:=decide_eq_true (by omega)
     have ht:ga pt s=([],19):=by unfold ga;rw[if_neg (by rw[hd];decide),if_pos pV]
     rw[ht,if_neg (by decide)] at jQ
     refine ko (And.intro @er (And.intro @bF (And.intro @hd (@d2)))) ?_
     first|with_reducible refine ks [] (And.intro @er (And.intro @hd (@d2))) ?_|refine kp (And.intro @er (And.intro @hd (@d2))) ?_
     refine⟨_,(ke @er),(show New w.heap.size ((b10,_):: (D1++DG)) from⟨j6,gD⟩), ?_⟩
     show _=mP (jF l p);rw[Gz p n jQ];rfl
    ·have d2:decide ((4099:Int)< (pt.x.length:Int))=false:=decide_eq_false (by omega)
     have ht:ga pt s=(pt.x,0):=by unfold ga;rw[if_neg (by rw[hd];decide),if_neg pV]
     rw[ht,if_pos rfl] at jQ
     refine ko (And.intro @er (And.intro @bF (And.intro @hd (@d2)))) ?_
     refine Cw.permL (M:=D1++ ((b10, .cells (cY pt).toArray 279 (0,0))::DG)) (by classical exact List.perm_iff_count.2 fun a=>by simp only[List.count_append,List.count_cons,List.count_nil]<;>omega) ?_
     first|with_reducible refine ks [] @er ?_|refine kp @er ?_
     exact Again.mk ⟨n,pt.x,(b10, .cells (cY pt).toArray 279 (0,0))::DG⟩ (by show n<n+1;omega) ⟨by show n≤p.length;omega,jQ,⟨j6,bQ⟩⟩ rfl rfl
   |true=>
    have ht:ga pt s=k8 s pt.x:=by unfold ga;rw[if_pos hd]
    rw[ht] at jQ
    refine ko (And.intro @er (And.intro @bF (@hd))) ?_
    first|with_reducible refine ks [] (And.intro @er @hd) ?_|refine kp (And.intro @er @hd) ?_
    refine Ow.callFV rfl Tryz.call215 (fun w' aB=>Kx s pt.x w' xD) ?_
    by_cases he: (k8 s pt.x).2=0
    ·have e1: ((k8 s pt.x).2 !=0)=false:=by rw[he];rfl
     rw[if_pos he] at jQ
     refine ko (And.intro @er @e1) ?_
     refine Cw.permL (M:=D1++ ((b10, .cells (cY pt).toArray 279 (0,0))::DG)) (by classical exact List.perm_iff_count.2 fun a=>by simp only[List.count_append,List.count_cons,List.count_nil]<;>omega) ?_
     first|with_reducible refine ks [] @er ?_|refine kp @er ?_
     exact Again.mk ⟨n,(k8 s pt.x).1,(b10, .cells (cY pt).toArray 279 (0,0))::DG⟩ (by show n<n+1;omega) ⟨by show n≤p.length;omega,jQ,⟨j6,bQ⟩⟩ rfl rfl
    ·have e1: ((k8 s pt.x).2 !=0)=true:=by rw[bne_iff_ne];exact he
     rw[if_neg he] at jQ
     refine ko @er ?_
     first|with_reducible refine ks [] (And.intro @er @e1) ?_|refine kp (And.intro @er @e1) ?_
     refine⟨_,(ke @er),(show New w.heap.size ((b10,_):: (D1++DG)) from⟨j6,gD⟩), ?_⟩
     show _=mP (jF l p);rw[Gz p n jQ];rfl
end Go.Proofs
end
section
open Go Go.Proofs Go.Sx Go.StP Go.Flo
namespace Go.Proofs
set_option maxRecDepth 10000
set_option maxHeartbeats 400000
set_option linter.unusedSimpArgs false
set_option linter.defProp false
end Go.Proofs
end
section
open Go Go.Proofs Go.Sx Go.StP Go.Flo
namespace Go.Proofs
set_option maxRecDepth 10000
set_option maxHeartbeats 400000
set_option linter.unusedSimpArgs false
theorem LY (s:List UInt8) (a:Nat) (e most:Int):aE s (a+1) e most=((aE (s.drop 1) a e most).1,(aE (s.drop 1) a e most).2.1+1,(aE (s.drop 1) a e most).2.2):=by
 unfold aE
 rw[List.drop_drop,Nat.add_comm 1 a]
 by_cases he:e≠0
 ·rw[if_pos he,if_pos he]
 ·rw[if_neg he,if_neg he]
  cases bU most (List.drop (a+1) s) 0 0 with
  |error x=>rfl
  |ok p=>simp only[Prod.mk.injEq,true_and];exact⟨by omega,trivial⟩
theorem Ku (s:List UInt8) (a:Nat) (e n:Int) (hs:1≤s.length):az s (a+1) e n=((az (s.drop 1) a e n).1,(az (s.drop 1) a e n).2.1+1,(az (s.drop 1) a e n).2.2):=by
 unfold az
 rw[List.length_drop,List.drop_drop,Nat.add_comm 1 a]
 have hq: ((s.length:Int) - ((a+1:Nat):Int)<n)=(((s.length - 1:Nat):Int) - (a:Int)<n):=by rw[eq_iff_iff];omega
 simp only[hq]
 by_cases he:e≠0
 ·simp only[if_pos he]
 ·simp only[if_neg he]
  by_cases hn:n<0
  ·simp only[if_pos hn]
  ·simp only[if_neg hn]
   by_cases hl: ((s.length - 1:Nat):Int) - (a:Int)<n
   ·simp only[if_pos hl]
   ·simp only[if_neg hl,Prod.mk.injEq,true_and]
    exact⟨by omega,trivial⟩
theorem JU (s:List UInt8) (a:Nat) (e most:Int) (hs:1≤s.length):an s (a+1) e most=((an (s.drop 1) a e most).1,(an (s.drop 1) a e most).2.1+1,(an (s.drop 1) a e most).2.2):=by
 unfold an
 simp only[LY]
 rw[Ku _ _ _ _ hs]
 simp only
 split<;>rfl
theorem tj (c:UInt8) (r:List UInt8):frR (c::r)=([c],1,0):=by
 unfold frR az
 rw[if_neg (by simp),if_neg (by decide),if_neg (by simp only[List.length_cons];omega)]
 rfl
theorem wo (c:UInt8) (r:List UInt8):frT (c::r)=((lfT r).1,(lfT r).2.1+1,(lfT r).2.2):=by
 unfold frT
 rw[tj]
 exact JU (c::r) 0 0 4096 (by simp)
theorem Ht (c:UInt8) (r:List UInt8) (a:Nat) (e:Int):bR (c::r) (a+1) e=bR r a e:=by
 unfold bR
 rw[List.length_cons]
 have: ((((a+1:Nat):Int)< ((r.length+1:Nat):Int))=((a:Int)< (r.length:Int))):=by rw[eq_iff_iff];omega
 simp only[this]
theorem AM (c:UInt8) (r:List UInt8): (fkC c=0∧ ¬ (1≤frK (c::r)∧frK (c::r)≤3))∨(fkC c≠0∧frK (c::r)=fkC c∧jx (fkC c)= [c]):=by
 have e:frK (c::r)=Lib.indexByte letL c:=by unfold frK;rw[tj];rfl
 rw[e]
 by_cases h1:c=98
 ·subst h1;exact .inr ⟨by decide,rfl,rfl⟩
 by_cases h2:c=116
 ·subst h2;exact .inr ⟨by decide,rfl,rfl⟩
 by_cases h3:c=99
 ·subst h3;exact .inr ⟨by decide,rfl,rfl⟩
 refine .inl ⟨by unfold fkC;rw[if_neg h1,if_neg h2,if_neg h3], ?_⟩
 have b1: ((98:UInt8)==c)=false:=beq_eq_false_iff_ne.2 (Ne.symm h1)
 have b2: ((116:UInt8)==c)=false:=beq_eq_false_iff_ne.2 (Ne.symm h2)
 have b3: ((99:UInt8)==c)=false:=beq_eq_false_iff_ne.2 (Ne.symm h3)
 simp only[Lib.indexByte,b1,b2,b3,Bool.false_eq_true, ↓reduceIte]
 split<;>simp
theorem qO {k:Int} {t:List UInt8} (h: ¬ (1≤k∧k≤3)):bS k t=false:=by
 unfold bS;rw[if_neg (fun h'=>h ⟨h'.1,h'.2.1⟩)]
theorem uh (s:List UInt8):eu s=lfOk s∧(eu s=true→frK s=lfK s∧(frT s).1=(lfT (s.drop 1)).1):=by
 cases s with
 |nil=>
  have h:eu []=false:=by
   unfold eu
   rw[qO (k:=frK []) (by decide),Bool.and_false]
  exact⟨by rw[h];rfl,fun h'=>by rw[h] at h';cases h'⟩
 |cons c r=>
  have e1:eu (c::r)=(bR r (lfT r).2.1 (lfT r).2.2==0&&bS (frK (c::r)) (lfT r).1):=by
   unfold eu;rw[wo,Ht]
  have e2:lfOk (c::r)=(fkC c !=0&&bR r (lfT r).2.1 (lfT r).2.2==0&&kS (fkC c) (lfT r).1):=rfl
  rcases AM c r with⟨h1,h2⟩ | ⟨h1,h2,-⟩
  ·rw[e1,e2,qO h2,h1,Bool.and_false]
   exact⟨rfl,fun h=>by cases h⟩
  ·have h3: (fkC c !=0)=true:=by simpa using h1
   rw[e1,e2,h2,h3,Gw,Bool.true_and]
   refine⟨rfl,fun _=>⟨rfl, ?_⟩⟩
   rw[wo];rfl
set_option linter.defProp false
end Go.Proofs
end
section
open Go Go.Proofs Go.Sx Go.StP Go.Flo
namespace Go.Proofs
set_option maxRecDepth 10000
set_option maxHeartbeats 1000000
set_option linter.unusedSimpArgs false
theorem FJ (s:List UInt8):jZ s=⟨if lfOk s then lfK s else 0,if lfOk s then(lfT (s.drop 1)).1 else []⟩:=by
 unfold jZ
 have h:=uh s
 rw[←h.1]
 cases hf:eu s
 ·rfl
 ·rw[(h.2 hf).1,(h.2 hf).2]
theorem y7 {k:Int} {t:List UInt8} (h:bS k t=true):t.length≤4096:=by
 unfold bS at h
 split at h
 ·rename_i h1;exact h1.2.2
 ·cases h
set_option linter.defProp false
end Go.Proofs
end
section
open Go Go.Proofs Go.Sx Go.StP Go.Flo
namespace Go.Proofs
set_option maxRecDepth 10000
set_option maxHeartbeats 400000
set_option linter.unusedSimpArgs false
theorem Gu (l:List PartL): ∀k,(mp l k).length≤k
 |0=>Nat.le_refl _
 |k+1=>by
  have:=Gu l k
  unfold mp
  split
  ·split
   ·simp;omega
   ·omega
  ·omega
set_option linter.defProp false
end Go.Proofs
end
section
open Go Go.Proofs Go.Sx Go.StP Go.Flo
namespace Go.Proofs
set_option maxRecDepth 10000
set_option maxHeartbeats 400000
set_option linter.unusedSimpArgs false
end Go.Proofs
end
section
open Go Go.Proofs Go.Sx Go.StP Go.Flo
namespace Go.Proofs
set_option maxRecDepth 10000
set_option maxHeartbeats 400000
set_option linter.unusedSimpArgs false
set_option linter.defProp false
end Go.Proofs
end
section
open Go Go.Proofs Go.Sx Go.StP Go.Flo
namespace Go.Proofs
set_option maxRecDepth 10000
set_option maxHeartbeats 400000
set_option linter.unusedSimpArgs false
theorem Cg (k k':Int) (t t':List UInt8):aT Tryz.prog .eql 82 (obV k t) (obV k' t')=some (.bool (decide ((⟨k,t⟩:ObL)=⟨k',t'⟩))):=Vg ⟨k,t⟩ ⟨k',t'⟩
set_option linter.defProp false
end Go.Proofs
end
section
open Go Go.Proofs Go.Sx Go.StP Go.Flo
namespace Go.Proofs
set_option maxRecDepth 10000
set_option maxHeartbeats 400000
set_option linter.unusedSimpArgs false
set_option linter.defProp false
end Go.Proofs
end
namespace Go.Sx
def kB (c:Bool):BitVec 32:=bif c then 3988292384#32 else 0#32
def stB (x:BitVec 32):BitVec 32:=(x>>>1)^^^kB (x.getLsbD 0)
theorem V0 (c:Bool) (j:Nat) (h:j<5): (kB c).getLsbD j=false:=by
 have:j=0∨j=1∨j=2∨j=3∨j=4:=by omega
 rcases this with rfl|rfl|rfl|rfl|rfl<;>cases c<;>decide
theorem wb (x:BitVec 32) (j:Nat) (h:j<5): (stB x).getLsbD j=x.getLsbD (j+1):=by
 unfold stB
 rw[BitVec.getLsbD_xor,V0 _ _ h,BitVec.getLsbD_ushiftRight,Bool.xor_false,Nat.add_comm]
theorem stB4 (x:BitVec 32):stB (stB (stB (stB x)))=(x>>>4)^^^ (kB (x.getLsbD 0)>>>3^^^kB (x.getLsbD 1)>>>2^^^kB (x.getLsbD 2)>>>1^^^kB (x.getLsbD 3)):=by
 have h1: (stB x).getLsbD 0=x.getLsbD 1:=wb x 0 (by omega)
 have h2: (stB (stB x)).getLsbD 0=x.getLsbD 2:=by rw[wb _ 0 (by omega),wb _ 1 (by omega)]
 have h3: (stB (stB (stB x))).getLsbD 0=x.getLsbD 3:=by rw[wb _ 0 (by omega),wb _ 1 (by omega),wb _ 2 (by omega)]
 have e4:stB (stB (stB (stB x)))=(stB (stB (stB x))>>>1)^^^kB (x.getLsbD 3):=by rw[←h3];rfl
 have e3:stB (stB (stB x))=(stB (stB x)>>>1)^^^kB (x.getLsbD 2):=by rw[←h2];rfl
 have e2:stB (stB x)=(stB x>>>1)^^^kB (x.getLsbD 1):=by rw[←h1];rfl
 have e1:stB x=(x>>>1)^^^kB (x.getLsbD 0):=rfl
 rw[e4,e3,e2,e1]
 simp only[BitVec.ushiftRight_xor_distrib,←BitVec.shiftRight_add,BitVec.xor_assoc]
def hvB:List (BitVec 32):= [0x00000000,0x1db71064,0x3b6e20c8,0x26d930ac,0x76dc4190,0x6b6b51f4,0x4db26158,0x5005713c,0xedb88320,0xf00f9344,0xd6d6a3e8,0xcb61b38c,0x9b64c2b0,0x86d3d2d4,0xa00ae278,0xbdbdf21c]
theorem tabB: ∀a b c d:Bool,(kB a>>>3^^^kB b>>>2^^^kB c>>>1^^^kB d)=hvB.getD (a.toNat+2*b.toNat+4*c.toNat+8*d.toNat) 0:=by decide
theorem lowB (x:BitVec 32):x.toNat%16=(x.getLsbD 0).toNat+2* (x.getLsbD 1).toNat+4* (x.getLsbD 2).toNat+8* (x.getLsbD 3).toNat:=by
 have e: ∀i,(x.getLsbD i).toNat=x.toNat / 2^i%2:=by
  intro i
  rw[BitVec.getLsbD,Nat.testBit_eq_decide_div_mod_eq]
  have:=Nat.mod_lt (x.toNat / 2^i) (show 0<2 by omega)
  by_cases h:x.toNat / 2^i%2=1
  ·simp[h]
  ·have h0:x.toNat / 2^i%2=0:=by omega
   simp[h0]
 rw[e 0,e 1,e 2,e 3]
 omega
theorem VC (x:BitVec 32):stB (stB (stB (stB x)))=(x>>>4)^^^hvB.getD (x.toNat%16) 0:=by
 rw[stB4,tabB,lowB]
end Go.Sx
section
open Go Go.Proofs Go.Sx
namespace Go.Proofs
set_option maxRecDepth 10000
set_option maxHeartbeats 4000000
set_option linter.unusedSimpArgs false
def k7 (n:UInt32):UInt32:=if n%2==1 then n / 2^^^3988292384 else n / 2
theorem qG (n:UInt32): (k7 n).toBitVec=stB n.toBitVec:=by
 have hd: (n / 2).toBitVec=n.toBitVec>>>1:=by
  apply BitVec.eq_of_toNat_eq
  rw[UInt32.toBitVec_div,BitVec.toNat_udiv,BitVec.toNat_ushiftRight]
  rfl
 have hm: (n%2==1)=n.toBitVec.getLsbD 0:=by
  rw[BitVec.getLsbD,Nat.testBit_eq_decide_div_mod_eq,Nat.pow_zero,Nat.div_one,Bool.eq_iff_iff,beq_iff_eq,decide_eq_true_eq,←UInt32.toNat_inj,UInt32.toNat_mod]
  rfl
 unfold k7 stB
 rw[hm]
 cases n.toBitVec.getLsbD 0
 ·rw[if_neg (by decide),hd];simp[kB]
 ·rw[if_pos rfl,UInt32.toBitVec_xor,hd];rfl
theorem zA (n:UInt32):ni n=k7 (k7 (k7 (k7 n))):=by
 apply UInt32.toBitVec_inj.1
 rw[qG,qG,qG,qG,VC]
 unfold ni
 rw[UInt32.toBitVec_xor]
 congr 1
 ·apply BitVec.eq_of_toNat_eq
  unfold eN
  rw[BitVec.toNat_ushiftRight,Nat.shiftRight_eq_div_pow]
  have:=n.toNat_lt
  simp only[UInt32.toNat_toBitVec,UInt32.toNat_ofNat']
  omega
 ·have e: (n&&&15).toNat=n.toBitVec.toNat%16:=by
   rw[UInt32.toNat_and,show(15:UInt32).toNat=2^4 - 1 from rfl,Nat.and_two_pow_sub_one_eq_mod]
   rfl
  rw[e]
  have aD:n.toBitVec.toNat%16<16:=Nat.mod_lt _ (by omega)
  generalize n.toBitVec.toNat%16=m at aD
  have: ∀m,m<16→(hvL.getD m 0).toBitVec=hvB.getD m 0:=by decide
  exact this m aD
def qn (n:UInt32):Nat→UInt32
 |0=>n
 |k+1=>k7 (qn n k)
theorem Mn (n:UInt32):qn n 8=mM n 2:=by
 show k7 (k7 (k7 (k7 (k7 (k7 (k7 (k7 n)))))))=ni (ni n)
 rw[zA,zA]
set_option linter.defProp false
def cE:=And.intro (And.intro (@ay) (@wR)) (And.intro (@wP) (And.intro (@wK) (@ax)))
theorem PA (n:UInt32) (w:World):Rets Tryz.prog 213 #[v32 n] w (fun v D=>v=v32 (k7 n)∧D= []):=by
 have oX:aC .rem (v32 n) (v32 2)=some (v32 (n%2)):=EI _ _ (by decide)
 have ma:aC .quo (v32 n) (v32 2)=some (v32 (n / 2)):=EL _ _ (by decide)
 refine Rets.enterV Tryz.func213 rfl (rs:= [.tmp 2]) Tryz.results213 Tryz.ntmps213 ?_
 refine kf ?_
 unfold k7
 first|with_reducible refine ks [] (And.intro @cE (And.intro @oX (@ma))) ?_|refine kp (And.intro @cE (And.intro @oX (@ma))) ?_
 cases h: (n%2==1)
 ·first|with_reducible refine ks [] (And.intro @cE @ma) ?_|refine kp (And.intro @cE @ma) ?_
  refine⟨_,(ke @cE),trivial, ?_⟩
  rfl
 ·first|with_reducible refine ks [] (And.intro @cE @ma) ?_|refine kp (And.intro @cE @ma) ?_
  refine⟨_,(ke @cE),trivial, ?_⟩
  rfl
theorem Q6 (n:UInt32) (b:UInt8) (w:World):Rets Tryz.prog 188 #[v32 n,v8 b] w (fun v D=>v=v32 (mI n b)∧D= []):=by
 refine Rets.enterV Tryz.func188 rfl (rs:= [.tmp 4]) Tryz.results188 Tryz.ntmps188 ?_
 refine kf ?_
 first|with_reducible refine ks [] @cE ?_|refine kp @cE ?_
 unfold mI
 generalize n^^^UInt32.ofNat b.toNat=m
 rw[←Mn,show v32 m=v32 (qn m 0) from rfl]
 refine Cw.loopG (G:=Nat) [10,11,14,15,0,12,13,5] (fun g=> [(0,v32 (qn m g)),(5,vi g)]) (fun g=> []) (fun g=>g≤8) (fun g=>8 - g) 0 rfl rfl ?_ ?_
 ·omega
 intro g j hg
 refine kv ?_
 by_cases aD:g<8
 ·first|with_reducible refine ks [] @cE ?_|refine kp @cE ?_
  refine Ow.callFV rfl Tryz.call213 (fun w' aB=>PA _ w') ?_
  refine ko @cE ?_
  first|with_reducible refine ks [] @cE ?_|refine kp @cE ?_
  refine Again.mk (g+1) (by omega) (by omega) rfl rfl
 ·obtain rfl:g=8:=by omega
  first|with_reducible refine ks [] @cE ?_|refine kp @cE ?_
  refine⟨_,(ke @cE),trivial, ?_⟩
  rfl
theorem Sg (n:UInt32):4294967295 - n= ~~~ n:=by
 apply UInt32.toBitVec_inj.1
 rw[UInt32.toBitVec_sub,UInt32.toBitVec_not,←BitVec.allOnes_sub_eq_not]
 rfl
theorem Kb (s:List UInt8) (w:World) (hs:s.length<1099511627776):Rets Tryz.prog 155 #[vs s] w (fun v D=>v=v32 (crcV s)∧D= []):=by
 refine Rets.enterV Tryz.func155 rfl (rs:= [.tmp 2]) Tryz.results155 Tryz.ntmps155 ?_
 refine kf ?_
 first|with_reducible refine ks [] @cE ?_|refine kp @cE ?_
 rw[show v32 4294967295=v32 (ij (~~~ (0:UInt32)) (s.take 0)) from rfl]
 refine Cw.loopG (G:=Nat) [5,6,7,8,11,12,13,14,15,3,9,10,4] (fun g=> [(3,v32 (ij (~~~ (0:UInt32)) (s.take g))),(4,vi g)]) (fun g=> []) (fun g=>g≤s.length) (fun g=>s.length - g) 0 rfl rfl ?_ ?_
 ·omega
 intro g j hg
 refine kv ?_
 by_cases aD:g<s.length
 ·first|with_reducible refine ks [] @cE ?_|refine kp @cE ?_
  refine Ow.callFV rfl Tryz.call188 (fun w' aB=>Q6 _ _ w') ?_
  refine ko @cE ?_
  first|with_reducible refine ks [] @cE ?_|refine kp @cE ?_
  refine Again.mk (g+1) (by omega) (by omega) rfl ?_
  rw[yJ _ _ _ aD]
  rfl
 ·obtain rfl:g=s.length:=by omega
  first|with_reducible refine ks [] @cE ?_|refine kp @cE ?_
  rw[List.take_length]
  rw[Sg]
  refine⟨_,(ke @cE),trivial, ?_⟩
  rfl
theorem TS (n:UInt32):sum4 n= [UInt8.ofNat (n%256).toNat,UInt8.ofNat (n / 256%256).toNat,UInt8.ofNat (n / 65536%256).toNat,UInt8.ofNat (n / 16777216).toNat]:=by
 show [UInt8.ofNat (eN n 0).toNat,UInt8.ofNat (eN n 8).toNat,UInt8.ofNat (eN n 16).toNat,UInt8.ofNat (eN n 24).toNat]=_
 have hn:=n.toNat_lt
 congr 1
 ·apply UInt8.toNat_inj.1
  simp[eN]
 ·congr 1
  ·apply UInt8.toNat_inj.1
   simp[eN]
  ·congr 1
   ·apply UInt8.toNat_inj.1
    simp[eN]
   ·congr 1
    apply UInt8.toNat_inj.1
    simp[eN]
theorem Iy (s:List UInt8) (w:World) (hs:s.length<1099511627776):
  Rets Tryz.prog 112 #[vs s] w (fun v D=>v=vs (kl s)∧D= []):=by
 refine Rets.enterV Tryz.func112 rfl (rs:= [.tmp 2]) Tryz.results112 Tryz.ntmps112 ?_
 refine kf ?_
 first|with_reducible refine ks [] @cE ?_|refine kp @cE ?_
 refine Ow.callFV rfl Tryz.call155 (fun w' aB=>Kb s w' hs) ?_
 refine ko @cE ?_
 unfold kl
 rw[TS]
 generalize crcV s=n
 have h1:aC .rem (v32 n) (v32 256)=some (v32 (n%256)):=EI _ _ (by decide)
 have h2:aC .quo (v32 n) (v32 256)=some (v32 (n / 256)):=EL _ _ (by decide)
 have h3:aC .rem (v32 (n / 256)) (v32 256)=some (v32 (n / 256%256)):=EI _ _ (by decide)
 have h4:aC .quo (v32 n) (v32 65536)=some (v32 (n / 65536)):=EL _ _ (by decide)
 have h5:aC .rem (v32 (n / 65536)) (v32 256)=some (v32 (n / 65536%256)):=EI _ _ (by decide)
 have h6:aC .quo (v32 n) (v32 16777216)=some (v32 (n / 16777216)):=EL _ _ (by decide)
 first|with_reducible refine ks [] (And.intro @cE (And.intro @h1 (And.intro @h2 (And.intro @h3 (And.intro @h4 (And.intro @h5 (@h6))))))) ?_|refine kp (And.intro @cE (And.intro @h1 (And.intro @h2 (And.intro @h3 (And.intro @h4 (And.intro @h5 (@h6))))))) ?_
 generalize UInt8.ofNat (n%256).toNat=q0
 generalize UInt8.ofNat (n / 256%256).toNat=q1
 generalize UInt8.ofNat (n / 65536%256).toNat=q2
 generalize UInt8.ofNat (n / 16777216).toNat=q3
 refine Ow.buildSlice (e:=5) #[v8 q0,v8 q1,v8 q2,v8 q3] rfl rfl (by kernel_rfl) fun b1 aQ aF=> ?_
 rw[show(#[v8 q0,v8 q1,v8 q2,v8 q3]:Array Value)=a8 [q0,q1,q2,q3] from rfl]
 have pV: [q0,q1,q2,q3].length=4:=rfl
 have e4:List.take 4 (List.drop 0 [q0,q1,q2,q3])= [q0,q1,q2,q3]:=rfl
 generalize [q0,q1,q2,q3]=q at*
 refine ko (And.intro @cE @e4) ?_
 first|with_reducible refine ks [] @cE ?_|refine kp @cE ?_
 refine⟨_,(ke @cE),⟨aF,trivial⟩, ?_⟩
 rfl
theorem V0_ (s:List UInt8) (w:World) (hs:s.length<1099511627776):
  Rets Tryz.prog 105 #[vs s] w (fun v D=>v= .tuple #[vs (dX s).1, .bool (dX s).2]∧D= []):=by
 refine Rets.enterV Tryz.func105 rfl (rs:= [.tmp 2, .tmp 3]) Tryz.results105 Tryz.ntmps105 ?_
 refine kf ?_
 first|with_reducible refine ks [] @cE ?_|refine kp @cE ?_
 unfold dX
 by_cases h4:s.length<4
 ·have e1:decide ((s.length:Int)<4)=true:=decide_eq_true (by omega)
  rw[if_pos h4]
  first|with_reducible refine ks [] (And.intro @cE @e1) ?_|refine kp (And.intro @cE @e1) ?_
  refine⟨_,(ke @cE),trivial, ?_⟩
  rfl
 ·have e1:decide ((s.length:Int)<4)=false:=decide_eq_false (by omega)
  have e2: ((s.length:Int) - 4).toNat=s.length - 4:=by omega
  rw[if_neg h4]
  first|with_reducible refine ks [] (And.intro @cE (And.intro @e1 (@e2))) ?_|refine kp (And.intro @cE (And.intro @e1 (@e2))) ?_
  refine Ow.callFV rfl Tryz.call112 (fun w' aB=>Iy (s.take (s.length - 4)) w' (by rw[List.length_take];omega)) ?_
  refine ko @cE ?_
  cases hq: (kl (s.take (s.length - 4)) !=s)
  ·rw[if_pos (by simpa using hq)]
   first|with_reducible refine ks [] (And.intro @cE (And.intro @hq (@e2))) ?_|refine kp (And.intro @cE (And.intro @hq (@e2))) ?_
   refine⟨_,(ke @cE),trivial, ?_⟩
   rfl
  ·rw[if_neg (by simpa using hq)]
   first|with_reducible refine ks [] (And.intro @cE @hq) ?_|refine kp (And.intro @cE @hq) ?_
   refine⟨_,(ke @cE),trivial, ?_⟩
   rfl
end Go.Proofs
end
section
open Go Go.Proofs Go.Sx Go.StP Go.Flo
namespace Go.Proofs
set_option maxRecDepth 10000
set_option maxHeartbeats 1000000
set_option linter.unusedSimpArgs false
set_option linter.defProp false
end Go.Proofs
end
section
open Go Go.Proofs Go.Sx Go.StP Go.Flo
namespace Go.Proofs
set_option maxRecDepth 10000
set_option maxHeartbeats 1000000
set_option linter.unusedSimpArgs false
theorem YZ {s:List UInt8} (h:s.length<4∨s.take 4≠magB):gu s=(0,false,(az s 0 0 4).2):=by
 unfold gu
 rw[if_neg]
 unfold az
 rw[if_neg (by decide),if_neg (by decide)]
 split
 ·decide
 ·rename_i h1
  rcases h with h|h
  ·omega
  ·exact h
theorem Pm {s:List UInt8} (h4:4≤s.length) (h:s.take 4=magB):gu s=((aE s 4 0 200).1,(aE s 4 0 200).2.2==0,(aE s 4 0 200).2):=by
 have e:az s 0 0 4=(s.take 4,4,0):=by
  unfold az
  rw[if_neg (by decide),if_neg (by decide),if_neg (by omega)]
  rfl
 unfold gu
 rw[e]
 simp only
 rw[if_pos h]
def tL (s:List UInt8) (v:Value) (D:aA):Prop:=
 if(gu s).2.1=true then∃x y n A,v= .tuple #[x,y,vi n,vi A, .bool true]∧n=(gu s).1∧0≤n∧n≤200∧GrI D 279 3 x (ic s).1.length ((ic s).1.map cY).flatten∧GrI D 3 1 y (ic s).2.1.length ((ic s).2.1.map natC).flatten∧
  (((ic s).2.2.2=0∧A=(ic s).2.2.1∧((ic s).1.length:Int)=n)∨((ic s).2.2.2≠0∧((ic s).1.length:Int)<n))
 else v= .tuple #[.slice none 0 0, .slice none 0 0,vi 0,vi 0, .bool false]
structure RdDG where
 l:List PartL
 sp:List Nat
 a:Nat
 v1:Value
 v2:Value
 D1:aA
 D2:aA
 DG:aA
theorem Oq (s:List UInt8):fW (cg Tryz.prog 217) (am Tryz.prog 217) [(0,vs s),(1,vi 4)]=some (.agg #[vs s,vi 4,vi 0]):=by
 rw[show cg Tryz.prog 217=some [(0,1),(1,1),(2,1)] from id (by kernel_rfl),zrRR];rfl
theorem II (b:Nat) (s:List UInt8) (a:Nat) (e most:Int) (w:World) (ha:a≤s.length) (hs:s.length<1099511627776) (ho:w.heap[b]? =some (rrO s a e)):
  Rets Tryz.prog 144 #[vp b 0,vi most] w (fun v D=> ∃o,D= [(b,o)]∧v=vs (an s a e most).1∧o=rrO s (an s a e most).2.1 (an s a e most).2.2):=GU b s a e most w ha hs ho
set_option linter.defProp false
def cF:=And.intro (And.intro (@ay) (And.intro (@ax) (@AD))) (And.intro (And.intro (@An) (@AN)) (And.intro (@FR) (@NN)))
theorem Iv (s:List UInt8) (w:World) (hs:s.length<1099511627776):Rets Tryz.prog 189 #[vs s] w (XS w [] (tL s)):=by
 refine Rets.enterX Tryz.func189 rfl (rs:= [.tmp 2, .tmp 3, .tmp 4, .tmp 5, .tmp 6]) Tryz.results189 Tryz.ntmps189 (fun p hp=>by cases hp) (by simp[keys]) ?_
 refine kf ?_
 by_cases h4:s.length<4
 ·have d1:decide ((s.length:Int)<4)=true:=decide_eq_true (by omega)
  first|with_reducible refine ks [] (And.intro @cF @d1) ?_|refine kp (And.intro @cF @d1) ?_
  refine⟨_,(ke @cF), ?_⟩
  refine⟨Ext.of_new trivial, ?_⟩
  unfold tL
  rw[YZ (.inl h4)]
  rfl
 have d1:decide ((s.length:Int)<4)=false:=decide_eq_false (by omega)
 have d1':decide ((0:Int)≤4∧(4:Int)≤ (s.length:Int))=true:=decide_eq_true (by omega)
 by_cases hm:s.take 4=magB
 ·have d2: (s.take 4 != [83,80,75,49])=false:=bne_eq_false_iff_eq.2 hm
  have x7:=Pm (by omega) hm
  first|with_reducible refine ks [] (And.intro @cF (And.intro @d1 (@d2))) ?_|refine kp (And.intro @cF (And.intro @d1 (@d2))) ?_
  refine Ow.build (.agg #[vs s,vi 4,vi 0]) rfl (Oq s) ?_
  refine ko @cF ?_
  refine Ow.box rfl rfl fun br lk kM=> ?_
  simp only[d9,cu,d8,aV,List.nil_append]
  refine Ow.permL (M:= [(br,rrO s 4 0)]) (List.Perm.refl _) ?_
  refine ko @cF ?_
  first|with_reducible refine ks [] @cF ?_|refine kp @cF ?_
  have l1:=iD (s:=s) (a:=4) (e:=0) (most:=200) (by omega)
  have m1:=pv (s:=s) (a:=4) (e:=0) (most:=200) (by omega)
  refine Ow.callM rfl rfl Tryz.call146 (by simp[keys]) (fun w' aB=>xU br s 4 0 200 w' (by omega) (by omega) (aB.has _ _ List.mem_cons_self)) ?_
  have GA:ic s=kQ s (gu s).1.toNat 0 (gu s).2.2.1 (gu s).2.2.2:=rfl
  rw[x7] at GA
  generalize aE s 4 0 200=q at*
  obtain⟨n0,a0,e0⟩:=q
  simp only at l1 m1 x7 GA ⊢
  obtain⟨n,rfl⟩: ∃n:Nat,n0=(n:Int):=⟨n0.toNat,by omega⟩
  rw[Int.toNat_natCast] at GA
  refine kn ?_
  refine ko @cF ?_
  by_cases he:e0=0
  ·subst he
   have sK: ((0:Int) !=0)=false:=rfl
   have hE: (gu s).2.1=true:=by rw[x7];rfl
   have lx: (gu s).1=(n:Int):=by rw[x7]
   clear x7
   first|with_reducible refine ks [11] (And.intro @cF @sK) ?_|refine kp (And.intro @cF @sK) ?_
   refine Cw.permL (M:=(br,rrO s a0 0):: ([]++ ([]++ []))) (List.Perm.refl _) ?_
   refine Cw.loopG (G:=RdDG) [34,35,36,39,40,41,42,12,43,44,13,45,46,14,47,48,49,50,51,52,53,54,55,2,3,4,5,6,56,57,15,58,59,60,61,62,63,64,65,66,67,68,9,69,70,71,72,10,37,38,11] (fun g=> [(9,g.v1),(10,g.v2),(11,vi g.l.length)]) (fun g=>(br,rrO s g.a 0):: (g.D1++ (g.D2++g.DG))) (fun g=>g.l.length≤n∧g.sp.length=g.l.length∧g.a≤s.length∧New w.heap.size g.D1∧New w.heap.size g.D2∧New w.heap.size g.DG∧Gr g.D1 279 3 g.v1 g.l.length (g.l.map cY).flatten∧Gr g.D2 3 1 g.v2 g.sp.length (g.sp.map natC).flatten∧ic s=(g.l++ (kQ s (n - g.l.length) g.l.length g.a 0).1,g.sp++ (kQ s (n - g.l.length) g.l.length g.a 0).2.1,(kQ s (n - g.l.length) g.l.length g.a 0).2.2)) (fun g=>n - g.l.length) ⟨[],[],a0, .slice none 0 0, .slice none 0 0,[],[],[]⟩ rfl rfl ?_ ?_
   ·exact⟨Nat.zero_le _,rfl,l1.2,trivial,trivial,trivial,Gr.nl,Gr.nl,by rw[GA];rfl⟩
   intro g j hg
   refine kv ?_
   obtain⟨l,sp,a,v1,v2,D1,D2,DG⟩:=g
   simp only at hg ⊢
   obtain⟨hln,cN,gm,eE,eP,bQ,Cl,qt,kJ⟩:=hg
   have gD:New w.heap.size (D1++ (D2++DG)):=eE.app (eP.app bQ)
   by_cases aD:l.length<n
   ·have d3:decide ((l.length:Int)< (n:Int))=true:=decide_eq_true (by omega)
    have hk:n - l.length=(n - (l.length+1))+1:=by omega
    rw[hk] at kJ
    have lH:=iD (s:=s) (a:=a) (e:=0) (most:=200) gm
    have fV:=pv (s:=s) (a:=a) (e:=0) (most:=200) (by omega)
    have XQ:s7 s l.length a 0=(⟨decide (0< (aE s a 0 200).1),if 0< (aE s a 0 200).1 then((l.length:Nat):Int) - (aE s a 0 200).1 else 0,(an s (aE s a 0 200).2.1 (aE s a 0 200).2.2 65536).1⟩,(an s (aE s a 0 200).2.1 (aE s a 0 200).2.2 65536).2):=rfl
    first|with_reducible refine ks [1000018] (And.intro @cF @d3) ?_|refine kp (And.intro @cF @d3) ?_
    refine Ow.callM rfl rfl Tryz.call146 (by simp[keys]) (fun w' aB=>xU br s a 0 200 w' gm (by omega) (aB.has _ _ List.mem_cons_self)) ?_
    generalize aE s a 0 200=x at*
    obtain⟨F,a1,e1⟩:=x
    simp only at lH fV XQ ⊢
    have oJ:=rY (s:=s) (a:=a1) (e:=e1) (most:=65536) lH.2
    refine kn ?_
    refine ko @cF ?_
    first|with_reducible refine ks [] @cF ?_|refine kp @cF ?_
    refine Ow.callM rfl rfl Tryz.call144 (by simp[keys]) (fun w' aB=>II br s a1 e1 65536 w' lH.2 hs (aB.has _ _ List.mem_cons_self)) ?_
    generalize an s a1 e1 65536=x at*
    obtain⟨t,a2,e2⟩:=x
    simp only at oJ XQ ⊢
    refine kn ?_
    refine ko @cF ?_
    rw[kQ,XQ] at kJ
    simp only at kJ
    by_cases vS:e2=0
    ·subst vS
     rw[if_pos rfl] at kJ
     have d4: ((0:Int) !=0)=false:=rfl
     first|with_reducible refine ks [] (And.intro @cF @d4) ?_|refine kp (And.intro @cF @d4) ?_
     refine Ow.build (.agg (cY ⟨false,0,t⟩).toArray) rfl (Lc t) ?_
     refine ko @cF ?_
     refine Ow.alloc rfl rfl nd fun b15 DD rQ=> ?_
     simp only[aV,List.nil_append,List.cons_append]
     have Zh:br<b15:=ae DD (by simp[keys])
     have bF:=Yj ⟨false,0,t⟩ fP 279
     refine Ow.permL (M:=(b15, .cells (cY fP).toArray 279 (0,0)):: (br,rrO s a2 0):: (D1++ (D2++DG))) (by classical exact List.perm_iff_count.2 fun a=>by simp only[List.count_append,List.count_cons,List.count_nil]<;>omega) ?_
     refine ko (And.intro @cF @bF) ?_
     obtain⟨p,hp⟩: ∃p,p=(⟨decide (0<F),if 0<F then((l.length:Nat):Int) - F else 0,t⟩:PartL):=⟨_,rfl⟩
     rw[←hp] at kJ
     refine Cw.cutO (G:=PartL) [58,59,60,61,62,63,64] (fun g=> []) (fun g=>(b15, .cells (cY g).toArray 279 (0,0)):: (br,rrO s a2 0):: (D1++ (D2++DG))) (fun g=>g=p) ?_ ?_
     ·by_cases hF:0<F
      ·have d5:decide ((0:Int)<F)=true:=decide_eq_true hF
       have nM:=Kw ⟨false,0,t⟩ 279
       have dT:=Jf ⟨true,0,t⟩ 279
       first|with_reducible refine ks [] (And.intro @cF (And.intro @d5 (And.intro @nM (@dT)))) ?_|refine kp (And.intro @cF (And.intro @d5 (And.intro @nM (@dT)))) ?_
       refine CutO.mk _ ?_ rfl rfl
       rw[hp,decide_eq_true hF,if_pos hF]
      ·have d5:decide ((0:Int)<F)=false:=decide_eq_false hF
       first|with_reducible refine ks [] (And.intro @cF @d5) ?_|refine kp (And.intro @cF @d5) ?_
       refine CutO.mk _ ?_ rfl rfl
       rw[hp,decide_eq_false hF,if_neg hF]
     ·intro g j hg
      refine kv ?_
      obtain rfl:=hg
      clear hp
      first|with_reducible refine ks [] @cF ?_|refine kp @cF ?_
      refine Ow.buildSlice (e:=279) (cY g).toArray rfl rfl (lV (cs:=cY g) Tryz.underlying260 Tryz.ag279 nd (by decide) rfl) fun ba pT ou=> ?_
      refine ko @cF ?_
      refine Ow.permL (M:=D1++ ((b15, .cells (cY g).toArray 279 (0,0)):: (br,rrO s a2 0):: (D2++ (DG++ [(ba, .cells (cY g).toArray 279 (0,0))])))) (by classical exact List.perm_iff_count.2 fun a=>by simp only[List.count_append,List.count_cons,List.count_nil]<;>omega) ?_
      refine Ow.appendXG (e:=279) (k:=1) (new:=cY g) (X:=D1) v1 rfl rfl rfl rfl Tryz.underlying260 Tryz.ag279 (by kernel_rfl) nd (by rw[FR];rfl) Tryz.underlying260 (by intro k h;cases h) Cl (fun w' aB=>AppX.one1 (aB.has ba (.cells (cY g).toArray 279 (0,0)) (by simp)) (Hk _) (zm _)) (by omega) (fun B4 v4 D4 i1 pM sB Wc va Wr=> ?_)
      have eI:New w.heap.size D4:=New.of_le fun q hq=>by
       rcases va q hq with h|h
       ·exact eE.le q h
       ·omega
      refine Ow.permL (M:=(br,rrO s a2 0):: (D4++ (D2++ ((b15, .cells (cY g).toArray 279 (0,0)):: (DG++ [(ba, .cells (cY g).toArray 279 (0,0))]))))) (by classical exact List.perm_iff_count.2 fun a=>by simp only[List.count_append,List.count_cons,List.count_nil]<;>omega) ?_
      refine ko @cF ?_
      first|with_reducible refine ks [] @cF ?_|refine kp @cF ?_
      refine Ow.buildSlice (e:=3) #[vi a] rfl rfl (by kernel_rfl) fun bc sF mj=> ?_
      refine ko @cF ?_
      refine Ow.permL (M:=D2++ ((br,rrO s a2 0):: (D4++ ((b15, .cells (cY g).toArray 279 (0,0)):: (DG++ [(ba, .cells (cY g).toArray 279 (0,0)),(bc, .cells #[vi a] 3 (0,0))]))))) (by classical exact List.perm_iff_count.2 fun a=>by simp only[List.count_append,List.count_cons,List.count_nil]<;>omega) ?_
      refine Ow.appendXG (e:=3) (k:=1) (new:=natC a) (X:=D2) v2 rfl rfl rfl rfl Tryz.underlying196 (id (by kernel_rfl):aM Tryz.prog 3=some (false,1)) (by kernel_rfl) (id (by kernel_rfl):am Tryz.prog 3=some (vi 0)) rfl Tryz.underlying196 (by intro k h;cases h) qt (fun w' aB=>AppX.one1 (aB.has bc (.cells #[vi a] 3 (0,0)) (by simp)) (Am a) rfl) (by omega) (fun B5 v5 D5 n5 n9 lj mY fU gX=> ?_)
      have gC:New w.heap.size D5:=New.of_le fun q hq=>by
       rcases fU q hq with h|h
       ·exact eP.le q h
       ·omega
      refine Ow.permL (M:=(br,rrO s a2 0):: (D4++ (D5++ ((b15, .cells (cY g).toArray 279 (0,0)):: (DG++ [(ba, .cells (cY g).toArray 279 (0,0)),(bc, .cells #[vi a] 3 (0,0))]))))) (by classical exact List.perm_iff_count.2 fun a=>by simp only[List.count_append,List.count_cons,List.count_nil]<;>omega) ?_
      refine ko @cF ?_
      first|with_reducible refine ks [] @cF ?_|refine kp @cF ?_
      have js: (l++ [g]).length=l.length+1:=by simp
      have i9: (sp++ [a]).length=sp.length+1:=by simp
      refine Again.mk ⟨l++ [g],sp++ [a],a2,v4,v5,D4,D5,(b15, .cells (cY g).toArray 279 (0,0)):: (DG++ [(ba, .cells (cY g).toArray 279 (0,0)),(bc, .cells #[vi a] 3 (0,0))])⟩ (by show n - (l++ [g]).length<n - l.length;omega) ⟨by show(l++ [g]).length≤n;omega,by show(sp++ [a]).length=(l++ [g]).length;omega,oJ.2,eI,gC,⟨rQ,bQ.app ⟨ou,mj,trivial⟩⟩,by simpa using sB,by simpa using lj, ?_⟩ rfl (by simp only[js];rfl)
      show ic s=_
      rw[kJ,js]
      simp
    ·have d4: (e2 !=0)=true:=bne_iff_ne.2 vS
     rw[if_neg vS] at kJ
     first|with_reducible refine ks [] (And.intro @cF @d4) ?_|refine kp (And.intro @cF @d4) ?_
     refine⟨_,(ke @cF), ?_⟩
     refine⟨Ext.of_new ⟨kM,gD⟩, ?_⟩
     unfold tL
     rw[if_pos hE,kJ,lx]
     simp only[List.append_nil]
     exact⟨v1,v2,_,_,rfl,rfl,by omega,by omega,Gr.i Cl fun c hc=>by simp[hc],Gr.i qt fun c hc=>by simp[hc], .inr ⟨vS,by omega⟩⟩
   ·obtain Wv:l.length=n:=by omega
    have d3:decide ((l.length:Int)< (n:Int))=false:=decide_eq_false (by omega)
    rw[Wv,Nat.sub_self] at kJ
    first|with_reducible refine ks [] (And.intro @cF @d3) ?_|refine kp (And.intro @cF @d3) ?_
    refine Cw.regionS [br] [0,1,2,3,4,5,7,8,9,6,10,11] [] (by kernel_rfl) (by kernel_rfl) (by kernel_rfl) ?_
    simp only[ap, ↓ao, ↓ac, ↓aj, ↓ai,ad]
    refine kq @cF ?_
    first|with_reducible refine ks [] @cF ?_|refine kp @cF ?_
    refine⟨_,(ke @cF), ?_⟩
    refine⟨Ext.of_new ⟨kM,gD⟩, ?_⟩
    unfold tL
    rw[if_pos hE,kJ,lx]
    simp only[kQ,List.append_nil]
    exact⟨v1,v2,_,_,rfl,rfl,by omega,by omega,Gr.i Cl fun c hc=>by simp[hc],Gr.i qt fun c hc=>by simp[hc], .inl ⟨trivial,rfl,by omega⟩⟩
  ·have sK: (e0 !=0)=true:=bne_iff_ne.2 he
   have hE: (gu s).2.1=false:=by rw[x7];exact beq_eq_false_iff_ne.2 he
   first|with_reducible refine ks [] (And.intro @cF @sK) ?_|refine kp (And.intro @cF @sK) ?_
   refine⟨_,(ke @cF), ?_⟩
   refine⟨Ext.of_new ⟨kM,trivial⟩, ?_⟩
   unfold tL
   rw[hE]
   rfl
 ·have d2: (s.take 4 != [83,80,75,49])=true:=bne_iff_ne.2 hm
  first|with_reducible refine ks [] (And.intro @cF (And.intro @d1 (@d2))) ?_|refine kp (And.intro @cF (And.intro @d1 (@d2))) ?_
  refine⟨_,(ke @cF), ?_⟩
  refine⟨Ext.of_new trivial, ?_⟩
  unfold tL
  rw[YZ (.inr hm)]
  rfl
end Go.Proofs
end
section
open Go Go.Proofs Go.Sx Go.StP Go.Flo
namespace Go.Proofs
set_option maxRecDepth 10000
set_option maxHeartbeats 1000000
set_option linter.unusedSimpArgs false
theorem BndD.ofSmall {l:List PartL} (h:C1 l):BndD l:=fun g hg=>by have:=h g hg;omega
theorem VT (a b c d e:Value): #[a,b,c,d,e][0]? =some a:=rfl
theorem V3 (a b c d e:Value): #[a,b,c,d,e][1]? =some b:=rfl
theorem Um (a b c d e:Value): #[a,b,c,d,e][2]? =some c:=rfl
theorem Ub (a b c d e:Value): #[a,b,c,d,e][3]? =some d:=rfl
theorem V4 (a b c d e:Value): #[a,b,c,d,e][4]? =some e:=rfl
set_option linter.defProp false
end Go.Proofs
end
section
open Go Go.Proofs Go.Sx Go.StP Go.Flo
namespace Go.Proofs
set_option maxRecDepth 10000
set_option maxHeartbeats 400000
set_option linter.unusedSimpArgs false
structure SaG where
 k:Nat
 out:List ObL
 v:Value
 D:aA
 DG:aA
theorem YV {o:ObL} {l:List ObL} {j:Nat} (h:j<l.length):decide (o∈l.take (j+1))=(decide (o∈l.take j) ||decide (l.getD j ob0=o)):=by
 rw[StP.take_snoc (z:=ob0) h]
 by_cases h1:o∈l.take j
 ·rw[decide_eq_true h1,decide_eq_true (List.mem_append_left _ h1)];rfl
 ·by_cases h2:l.getD j ob0=o
  ·rw[decide_eq_true h2,Bool.or_true]
   exact decide_eq_true (List.mem_append_right _ (by rw[h2];exact List.mem_singleton.2 rfl))
  ·rw[decide_eq_false h1,decide_eq_false h2]
   exact decide_eq_false fun h=>by
    rcases List.mem_append.1 h with h|h
    ·exact h1 h
    ·exact h2 (List.mem_singleton.1 h).symm
set_option linter.defProp false
def cI:=And.intro (And.intro (And.intro (@ay) (And.intro (@ax) (@Sx.tup2_0))) (And.intro (And.intro (@Sx.tup2_1) (@VT)) (And.intro (@V3) (@Um)))) (And.intro (And.intro (@Ub) (And.intro (@V4) (@jV))) (And.intro (And.intro (@jY) (@jX)) (And.intro (@jW) (@Cg))))
theorem MH (b:List UInt8) (w:World) (hb:b.length<1099511627776):
  Rets Tryz.prog 156 #[vs b] w (XS w [] (fun v D=>GrI D 82 2 v (ir b).length ((ir b).map obC).flatten)):=by
 have lQ:=(zZ b).1
 have Dx:=Ka b
 refine Rets.enterX Tryz.func156 rfl (rs:= [.tmp 2]) Tryz.results156 Tryz.ntmps156 (fun p hp=>by cases hp) (by simp[keys]) ?_
 refine kf ?_
 first|with_reducible refine ks [] @cI ?_|refine kp @cI ?_
 refine Ow.callC rfl rfl Tryz.call189 (fun w' aB=>Iv b w' hb) (fun B1 v1 D1 fa fK eE fS=> ?_)
 have cZ:New w.heap.size D1:=eE.mono fK
 unfold tL at fS
 unfold ir
 rw[List.nil_append]
 cases bX: (gu b).2.1 with
 |false=>
  rw[bX,if_neg (by simp)] at fS
  rw[if_neg (by simp)]
  subst fS
  refine ko @cI ?_
  first|with_reducible refine ks [] @cI ?_|refine kp @cI ?_
  refine⟨_,(ke @cI), ?_⟩
  exact⟨Ext.of_new cZ,Gr.i (X:= []) Gr.nl fun p hp=>by cases hp⟩
 |true=>
  rw[bX,if_pos rfl] at fS
  rw[if_pos rfl]
  obtain⟨x,y,n,A,rfl,-,-,-,jR,lm,-⟩:=fS
  generalize (ic b).1=l at*
  have ln:=rk jR
  refine ko @cI ?_
  first|with_reducible refine ks [] (And.intro @cI @ln) ?_|refine kp (And.intro @cI @ln) ?_
  refine Cw.permL (M:=D1++ ([]++ [])) (by simp) ?_
  refine Cw.loopG (G:=SaG) [26,27,28,29,33,34,35,32,36,37,10,11,38,39,41,42,40,43,44,12,13,14,15,45,46,47,48,51,52,53,54,55,56,57,58,59,49,50,60,61,62,63,64,65,66,67,68,8,30,31,9] (fun g=> [(8,g.v),(9,vi g.k)]) (fun g=>D1++ (g.D++g.DG)) (fun g=>g.k≤l.length∧g.out=mp l g.k∧New w.heap.size g.D∧New w.heap.size g.DG∧Gr g.D 82 2 g.v g.out.length (g.out.map obC).flatten) (fun g=>l.length - g.k) ⟨0,[], .slice none 0 0,[],[]⟩ rfl rfl ?_ ?_
  ·exact⟨Nat.zero_le _,rfl,trivial,trivial,Gr.nl⟩
  intro g j hg
  refine kv ?_
  obtain⟨k,out,v6,D6,DG⟩:=g
  simp only at hg ⊢
  obtain⟨hk,vz,jL,bQ,mQ⟩:=hg
  have lL:=Gu l k
  rw[←vz] at lL
  have gD:New w.heap.size (D1++ (D6++DG)):=cZ.app (jL.app bQ)
  by_cases aD:k<l.length
  ·have d1:decide ((k:Int)< (l.length:Int))=true:=decide_eq_true (by omega)
   have gH:mp l (k+1)=match partV l (k:Nat) with
    | .ok s=>if eu s=true∧jZ s∉mp l k then mp l k++ [jZ s] else mp l k
    | .error _=>mp l k:=rfl
   first|with_reducible refine ks [7] (And.intro @cI (And.intro @d1 (@ln))) ?_|refine kp (And.intro @cI (And.intro @d1 (@ln))) ?_
   refine Ow.callFV rfl Tryz.call190 (fun w' aB=>Lt x l (k:Int) w' ((jR.mono (fun q hq=>by simp[hq])).slV aB rfl rfl Hk) (BndD.ofSmall Dx)) ?_
   rw[←vz] at gH
   cases hp:partV l (k:Nat) with
   |error e2=>
    rw[hp] at gH
    simp only at gH
    have e0: (e2 !=0)=true:=bne_iff_ne.2 (Pk hp)
    unfold mP
    refine ko @cI ?_
    first|with_reducible refine ks [] (And.intro @cI @e0) ?_|refine kp (And.intro @cI @e0) ?_
    first|with_reducible refine ks [] @cI ?_|refine kp @cI ?_
    exact Again.mk ⟨k+1,out,v6,D6,DG⟩ (by show l.length - (k+1)<l.length - k;omega) ⟨aD,by exact gH.symm,jL,bQ,mQ⟩ rfl rfl
   |ok s=>
    rw[hp] at gH
    simp only at gH
    have cN:=Nc hp
    have e0: ((0:Int) !=0)=false:=rfl
    have w7: (if lfOk s then lfK s else 0)=(jZ s).k:=by rw[FJ]
    have mb: (if lfOk s then(lfT (s.drop 1)).1 else [])=(jZ s).t:=by rw[FJ]
    have oF:=(uh s).1
    unfold mP
    refine ko @cI ?_
    first|with_reducible refine ks [] (And.intro @cI @e0) ?_|refine kp (And.intro @cI @e0) ?_
    refine Ow.callFV rfl Tryz.call106 (fun w' aB=>yo s w' (by omega)) ?_
    rw[w7,mb,←oF]
    refine ko @cI ?_
    refine Ow.alloc rfl rfl eb fun b12 vH mi=> ?_
    simp only[aV,List.nil_append,List.cons_append]
    refine Ow.permL (M:=(b12, .cells #[vi 0,vs []] 82 (0,0)):: (D1++ (D6++DG))) (by classical exact List.perm_iff_count.2 fun a=>by simp only[List.count_append,List.count_cons,List.count_nil]<;>omega) ?_
    refine ko @cI ?_
    generalize hro:jZ s=o at*
    obtain⟨ok,ot⟩:=o
    have hNr2:New w.heap.size ((b12,Obj.cells #[vi ok,vs ot] 82 (0,0)):: (D1++ (D6++DG))):=⟨mi,gD⟩
    refine Cw.world fun wz jw=> ?_
    have bE:=jw.nodup
    clear jw wz
    have lno: ∀m,gP (.sl m) v6=some (vi out.length):=fun m=>rk (Gr.i mQ (fun p hp=>hp)) m
    first|with_reducible refine ks [] (And.intro @cI @lno) ?_|refine kp (And.intro @cI @lno) ?_
    refine Cw.loopG (G:=Nat) [45,46,47,48,51,52,53,54,55,56,57,58,59,14,49,50,15] (fun g=> [(14, .bool (decide ((⟨ok,ot⟩:ObL)∈out.take g))),(15,vi g)]) (fun g=>(b12, .cells #[vi ok,vs ot] 82 (0,0)):: (D1++ (D6++DG))) (fun g=>g≤out.length) (fun g=>out.length - g) 0 rfl rfl ?_ ?_
    ·exact Nat.zero_le _
    ·intro j jj hj
     refine kv ?_
     by_cases hjt:j<out.length
     ·have d2:decide ((j:Int)< (out.length:Int))=true:=decide_eq_true (by omega)
      have dO:=YV (o:=⟨ok,ot⟩) hjt
      have XD: (keys D6).Nodup:=by
       simp only[keys,List.map_cons,List.map_append,List.nodup_cons,List.nodup_append] at bE
       exact bE.2.2.1.1
      obtain h0| ⟨rb,rc,rest,rfl,sH,bl⟩:=xp (Gr.i mQ (fun p hp=>hp)) XD
      ·omega
      have DC:rb≠b12:=by
       rintro rfl
       simp only[keys,List.map_cons,List.map_append,List.nodup_cons,List.mem_append,not_or] at bE
       exact bE.1.2.1 sH
      have rdb:aP w ((b12, .cells #[vi ok,vs ot] 82 (0,0)):: (D1++ (D6++DG))) rb=some (rowO obC 82 rest out):=by
       have lx:rb∉keys D1:=by
        simp only[keys,List.map_cons,List.map_append,List.nodup_cons,List.nodup_append,List.mem_append] at bE
        intro hm
        exact bE.2.2.2 rb hm rb (.inl sH) rfl
       exact aY (by rw[p4 _ _ _ _ (Ne.symm DC),gi lx];exact bL bl)
      have ld:aI (some (true,2)) (some (rowO obC 82 rest out)) (j*2)=some (obV (out.getD j ob0).k (out.getD j ob0).t):=F8 (E:=82) (rest:=rest) (z:=ob0) la j hjt
      generalize out.getD j ob0=p at*
      first|with_reducible refine ks [] (And.intro @cI (And.intro @d2 (@lno))) ?_|refine kp (And.intro @cI (And.intro @d2 (@lno))) ?_
      cases mX:decide ((⟨ok,ot⟩:ObL)∈out.take j) with
      |true=>
       rw[mX,Bool.true_or] at dO
       refine Cw.regionS [rb,b12] [0,1,2,3,4,5,6,7,8,9] [] (by kernel_rfl) (by kernel_rfl) (by kernel_rfl) ?_
       simp only[ap, ↓ao, ↓ac, ↓aj, ↓ai,ad]
       refine kq (And.intro @cI (And.intro @rdb (@ld))) ?_
       first|with_reducible refine ks [] @cI ?_|refine kp @cI ?_
       exact Again.mk (j+1) (by omega) (by omega) rfl (by rw[dO];rfl)
      |false=>
       rw[mX,Bool.false_or] at dO
       refine Cw.regionS [rb,b12] [0,1,2,3,4,5,6,7,8,9] [] (by kernel_rfl) (by kernel_rfl) (by kernel_rfl) ?_
       simp only[ap, ↓ao, ↓ac, ↓aj, ↓ai,ad]
       refine kq (And.intro @cI (And.intro @rdb (@ld))) ?_
       first|with_reducible refine ks [] @cI ?_|refine kp @cI ?_
       exact Again.mk (j+1) (by omega) (by omega) rfl (by rw[dO];rfl)
     ·obtain rfl:j=out.length:=by omega
      have d2:decide ((out.length:Int)< (out.length:Int))=false:=decide_eq_false (by omega)
      rw[List.take_length]
      first|with_reducible refine ks [] (And.intro @cI (And.intro @d2 (@lno))) ?_|refine kp (And.intro @cI (And.intro @d2 (@lno))) ?_
      cases lE:eu s with
      |false=>
       rw[if_neg (fun h=>by rw[lE] at h;cases h.1)] at gH
       first|with_reducible refine ks [] (And.intro @cI @lE) ?_|refine kp (And.intro @cI @lE) ?_
       refine Cw.permL (M:=D1++ (D6++ ((b12, .cells #[vi ok,vs ot] 82 (0,0))::DG))) (by classical exact List.perm_iff_count.2 fun a=>by simp only[List.count_append,List.count_cons,List.count_nil]<;>omega) ?_
       first|with_reducible refine ks [] @cI ?_|refine kp @cI ?_
       exact Again.mk ⟨k+1,out,v6,D6,(b12, .cells #[vi ok,vs ot] 82 (0,0))::DG⟩ (by show l.length - (k+1)<l.length - k;omega) ⟨aD,by exact gH.symm,jL,⟨mi,bQ⟩,mQ⟩ rfl rfl
      |true=>
       cases mX:decide ((⟨ok,ot⟩:ObL)∈out) with
       |true=>
        rw[if_neg (fun h=>h.2 (of_decide_eq_true mX))] at gH
        first|with_reducible refine ks [] (And.intro @cI (And.intro @lE (@mX))) ?_|refine kp (And.intro @cI (And.intro @lE (@mX))) ?_
        refine Cw.permL (M:=D1++ (D6++ ((b12, .cells #[vi ok,vs ot] 82 (0,0))::DG))) (by classical exact List.perm_iff_count.2 fun a=>by simp only[List.count_append,List.count_cons,List.count_nil]<;>omega) ?_
        first|with_reducible refine ks [] @cI ?_|refine kp @cI ?_
        exact Again.mk ⟨k+1,out,v6,D6,(b12, .cells #[vi ok,vs ot] 82 (0,0))::DG⟩ (by show l.length - (k+1)<l.length - k;omega) ⟨aD,by exact gH.symm,jL,⟨mi,bQ⟩,mQ⟩ rfl rfl
       |false=>
        rw[if_pos ⟨lE,of_decide_eq_false mX⟩] at gH
        first|with_reducible refine ks [] (And.intro @cI (And.intro @lE (@mX))) ?_|refine kp (And.intro @cI (And.intro @lE (@mX))) ?_
        refine Ow.buildSlice (e:=82) #[vi ok,vs ot] rfl rfl (lV (cs:=obC ⟨ok,ot⟩) Tryz.underlying94 Tryz.ag82 eb (by decide) rfl) fun bc sF mj=> ?_
        refine ko @cI ?_
        refine Ow.permL (M:=D6++ ((b12, .cells #[vi ok,vs ot] 82 (0,0)):: (D1++ (DG++ [(bc, .cells #[vi ok,vs ot] 82 (0,0))])))) (by classical exact List.perm_iff_count.2 fun a=>by simp only[List.count_append,List.count_cons,List.count_nil]<;>omega) ?_
        refine Ow.appendXG (e:=82) (k:=1) (new:=obC ⟨ok,ot⟩) (X:=D6) v6 rfl rfl rfl rfl Tryz.underlying94 Tryz.ag82 (by kernel_rfl) eb (by rw[obV,aV];rfl) Tryz.underlying94 (by intro k h;cases h) mQ (fun w' aB=>AppX.one1 (aB.has bc (.cells (obC ⟨ok,ot⟩).toArray 82 (0,0)) (by simp[obC])) (la _) (tG _)) (by omega) (fun B5 v5 D5 n5 n9 lj mY fU gX=> ?_)
        have gC:New w.heap.size D5:=New.of_le fun q hq=>by
         rcases fU q hq with h|h
         ·exact jL.le q h
         ·omega
        refine ko @cI ?_
        refine Cw.permL (M:=D1++ (D5++ ((b12, .cells #[vi ok,vs ot] 82 (0,0)):: (DG++ [(bc, .cells #[vi ok,vs ot] 82 (0,0))])))) (by classical exact List.perm_iff_count.2 fun a=>by simp only[List.count_append,List.count_cons,List.count_nil]<;>omega) ?_
        first|with_reducible refine ks [] @cI ?_|refine kp @cI ?_
        exact Again.mk ⟨k+1,out++ [⟨ok,ot⟩],v5,D5,(b12, .cells #[vi ok,vs ot] 82 (0,0)):: (DG++ [(bc, .cells #[vi ok,vs ot] 82 (0,0))])⟩ (by show l.length - (k+1)<l.length - k;omega) ⟨aD,by exact gH.symm,gC,⟨mi,bQ.app ⟨mj,trivial⟩⟩,by simpa using lj⟩ rfl rfl
  ·obtain rfl:k=l.length:=by omega
   have d1:decide ((l.length:Int)< (l.length:Int))=false:=decide_eq_false (by omega)
   first|with_reducible refine ks [] (And.intro @cI (And.intro @d1 (@ln))) ?_|refine kp (And.intro @cI (And.intro @d1 (@ln))) ?_
   refine⟨_,(ke @cI), ?_⟩
   refine⟨Ext.of_new gD, ?_⟩
   rw[←vz]
   exact Gr.i mQ fun p hp=>by simp[hp]
end Go.Proofs
end
section
open Go Go.Proofs Go.Sx Go.StP Go.Flo
namespace Go.Proofs
set_option maxRecDepth 10000
set_option maxHeartbeats 400000
set_option linter.unusedSimpArgs false
def magO:List UInt8:= [83,76,79,49]
def ru (b:List UInt8):List ObL:=if(dX b).2=true∧4≤ (dX b).1.length∧(dX b).1.take 4=magO∧eu ((dX b).1.drop 4)=true then [jZ ((dX b).1.drop 4)] else []
def mL (b:List UInt8):List ObL:=ru b++ir b
def jE (l:List FiL):List ObL:=(l.map fun f=>mL f.data).flatten
theorem zF (b:List UInt8): (ir b).length≤200:=by
 unfold ir
 split
 ·exact Nat.le_trans (Gu _ _) (zZ b).1
 ·exact Nat.zero_le _
theorem HB (b:List UInt8): (mL b).length≤201:=by
 have:=zF b
 unfold mL ru
 split
 ·simp;omega
 ·simp;omega
theorem yh (l:List FiL) {k:Nat} (h:k<l.length):jE (l.take (k+1))=jE (l.take k)++mL (l.getD k fi0).data:=by
 unfold jE
 rw[StP.take_snoc (z:=fi0) h,List.map_append,List.flatten_append]
 simp
theorem Hn (l:List FiL): ∀k,k≤l.length→(jE (l.take k)).length≤k*201
 |0,_=>by simp[jE]
 |k+1,h=>by
  have h1:=Hn l k (by omega)
  have h2:=HB (l.getD k fi0).data
  rw[yh l (by omega),List.length_append]
  omega
theorem Qc (s:List UInt8): (dX s).1.length≤s.length:=by
 unfold dX
 split
 ·simp
 ·split
  ·simp only[List.length_take];omega
  ·simp
structure ObjC where
 os:List ObL
 v:Value
 D:aA
 DG:aA
structure ObjG where
 k:Nat
 v:Value
 D:aA
 DG:aA
set_option linter.defProp false
def eV:=And.intro (And.intro (And.intro (@ay) (@ax)) (And.intro (@Sx.tup2_0) (@Sx.tup2_1))) (And.intro (And.intro (@jV) (@jY)) (And.intro (@jX) (@jW)))
theorem Jz (v:Value) (l:List FiL) (w:World) (hv:FiSl w v l) (hl:l.length≤1000) (hb:FiB l):
  Rets Tryz.prog 113 #[v] w (XS w [] (fun v D=> ∃D1 D2,D=D1++D2∧Gr D1 82 2 v (jE l).length ((jE l).map obC).flatten)):=by
 have ln:=hv.len
 obtain⟨rb,off,arr,E,fz,hr⟩:=hv.row
 refine Rets.enterX Tryz.func113 rfl (rs:= [.tmp 2]) Tryz.results113 Tryz.ntmps113 (fun p hp=>by cases hp) (by simp[keys]) ?_
 refine kf ?_
 first|with_reducible refine ks [] (And.intro @eV @ln) ?_|refine kp (And.intro @eV @ln) ?_
 refine Cw.permL (M:= []++ []) (List.Perm.refl _) ?_
 refine Cw.loopG (G:=ObjG) [9,10,11,12,16,17,18,19,20,21,15,22,23,5,6,24,25,26,27,28,29,30,31,32,33,34,36,37,38,35,39,40,7,8,41,42,43,44,45,3,46,47,48,49,50,51,52,53,13,14,4] (fun g=> [(3,g.v),(4,vi g.k)]) (fun g=>g.D++g.DG) (fun g=>g.k≤l.length∧New w.heap.size g.D∧New w.heap.size g.DG∧Gr g.D 82 2 g.v (jE (l.take g.k)).length ((jE (l.take g.k)).map obC).flatten) (fun g=>l.length - g.k) ⟨0, .slice none 0 0,[],[]⟩ rfl rfl ?_ ?_
 ·exact⟨Nat.zero_le _,trivial,trivial,Gr.nl⟩
 intro g j hg
 refine kv ?_
 obtain⟨k,v3,D,DG⟩:=g
 simp only at hg ⊢
 obtain⟨hk,hN,bQ,hG⟩:=hg
 have lL:=Hn l k hk
 by_cases aD:k<l.length
 ·have d1:decide ((k:Int)< (l.length:Int))=true:=decide_eq_true (by omega)
  have lQ:=hr.lt (by omega)
  have ixl:=hr.idx true k aD
  have ld2: ∀n,aI (some (false,n)) (some (.cells arr E fz)) (off+k*3+2)=some (vs (l.getD k fi0).data):=fun n=>BX hr aD n
  have dq:=hr.has (show 0<l.length by omega)
  have rdl: ∀L,New w.heap.size L→aP w L rb=some (.cells arr E fz):=fun L hL=>by rw[lW (hL.not lQ)];exact dq
  have Ft:=(hb (l.getD k fi0) (by rw[List.getD_eq_getElem?_getD,List.getElem?_eq_getElem aD];exact List.getElem_mem _)).2
  have dO:=yh l aD
  have fv:=HB (l.getD k fi0).data
  generalize (l.getD k fi0).data=b at*
  generalize hosE:jE (l.take k)=os at*
  have rd1:=rdl _ (hN.app bQ)
  have xI:=Qc b
  have jQ:mL b=ru b++ir b:=rfl
  have gF:ru b=if(dX b).2=true∧4≤ (dX b).1.length∧(dX b).1.take 4=magO∧eu ((dX b).1.drop 4)=true then [jZ ((dX b).1.drop 4)] else []:=rfl
  have cN:=zF b
  first|with_reducible refine ks [8,1000006] (And.intro @eV (And.intro @d1 (And.intro @ln (And.intro @ixl (And.intro @rd1 (@ld2)))))) ?_|refine kp (And.intro @eV (And.intro @d1 (And.intro @ln (And.intro @ixl (And.intro @rd1 (@ld2)))))) ?_
  refine Ow.callFV rfl Tryz.call105 (fun w' aB=>V0_ b w' Ft) ?_
  generalize dX b=u at*
  obtain⟨s,ok⟩:=u
  simp only at xI gF ⊢
  refine ko @eV ?_
  refine Cw.cutO (G:=ObjC) [3,7,8,24,25,26,27,28,29,30,31,32,33,34,35,36,37,38,39,40,41,42,43,44,45] (fun g=> [(3,g.v)]) (fun g=>g.D++g.DG) (fun g=>New w.heap.size g.D∧New w.heap.size g.DG∧Gr g.D 82 2 g.v g.os.length (g.os.map obC).flatten∧g.os=os++ru b) ?_ ?_
  ·cases ok with
   |false=>
    rw[if_neg (by simp)] at gF
    first|with_reducible refine ks [] @eV ?_|refine kp @eV ?_
    exact CutO.mk ⟨os,v3,D,DG⟩ ⟨hN,bQ,hG,by rw[gF,List.append_nil]⟩ rfl rfl
   |true=>
    by_cases h4:4≤s.length
    ·have d4:decide ((4:Int)≤ (s.length:Int))=true:=decide_eq_true (by omega)
     have d4':decide ((0:Int)≤4∧(4:Int)≤ (s.length:Int))=true:=decide_eq_true (by omega)
     have d4'':decide ((4:Int)≤ (s.length:Int)∧(s.length:Int)≤ (s.length:Int))=true:=decide_eq_true (by omega)
     by_cases hm:s.take 4=magO
     ·have d5: (s.take 4== [83,76,79,49])=true:=beq_iff_eq.2 hm
      first|with_reducible refine ks [8] (And.intro @eV (And.intro @d4 (And.intro @d4' (@d5)))) ?_|refine kp (And.intro @eV (And.intro @d4 (And.intro @d4' (@d5)))) ?_
      refine Ow.callFV rfl Tryz.call106 (fun w' aB=>yo (s.drop 4) w' (by rw[List.length_drop];omega)) ?_
      have w7: (if lfOk (s.drop 4) then lfK (s.drop 4) else 0)=(jZ (s.drop 4)).k:=by rw[FJ]
      have mb: (if lfOk (s.drop 4) then(lfT ((s.drop 4).drop 1)).1 else [])=(jZ (s.drop 4)).t:=by rw[FJ]
      have oF:=(uh (s.drop 4)).1
      rw[w7,mb,←oF]
      refine ko @eV ?_
      refine Ow.alloc rfl rfl eb fun b7 x3 ol=> ?_
      simp only[aV,List.nil_append,List.cons_append]
      refine Ow.permL (M:=(b7, .cells #[vi 0,vs []] 82 (0,0)):: (D++DG)) (by classical exact List.perm_iff_count.2 fun a=>by simp only[List.count_append,List.count_cons,List.count_nil]<;>omega) ?_
      refine ko @eV ?_
      generalize jZ (s.drop 4)=o at*
      obtain⟨ok,ot⟩:=o
      cases lE:eu (s.drop 4) with
      |false=>
       rw[if_neg (fun h=>by rw[lE] at h;cases h.2.2.2)] at gF
       refine Cw.permL (M:=D++ ((b7, .cells #[vi ok,vs ot] 82 (0,0))::DG)) (by classical exact List.perm_iff_count.2 fun a=>by simp only[List.count_append,List.count_cons,List.count_nil]<;>omega) ?_
       first|with_reducible refine ks [] (And.intro @eV @lE) ?_|refine kp (And.intro @eV @lE) ?_
       exact CutO.mk ⟨os,v3,D,(b7, .cells #[vi ok,vs ot] 82 (0,0))::DG⟩ ⟨hN,⟨ol,bQ⟩,hG,by rw[gF,List.append_nil]⟩ rfl rfl
      |true=>
       rw[if_pos ⟨rfl,h4,hm,lE⟩] at gF
       first|with_reducible refine ks [] (And.intro @eV @lE) ?_|refine kp (And.intro @eV @lE) ?_
       refine Ow.buildSlice (e:=82) #[vi ok,vs ot] rfl rfl (lV (cs:=obC ⟨ok,ot⟩) Tryz.underlying94 Tryz.ag82 eb (by decide) rfl) fun bc sF mj=> ?_
       refine ko @eV ?_
       refine Ow.permL (M:=D++ ((b7, .cells #[vi ok,vs ot] 82 (0,0)):: (DG++ [(bc, .cells #[vi ok,vs ot] 82 (0,0))]))) (by classical exact List.perm_iff_count.2 fun a=>by simp only[List.count_append,List.count_cons,List.count_nil]<;>omega) ?_
       refine Ow.appendXG (e:=82) (k:=1) (new:=obC ⟨ok,ot⟩) (X:=D) v3 rfl rfl rfl rfl Tryz.underlying94 Tryz.ag82 (by kernel_rfl) eb (by rw[obV,aV];rfl) Tryz.underlying94 (by intro k h;cases h) hG (fun w' aB=>AppX.one1 (aB.has bc (.cells (obC ⟨ok,ot⟩).toArray 82 (0,0)) (by simp[obC])) (la _) (tG _)) (by omega) (fun B5 v5 D5 n5 n9 lj mY fU gX=> ?_)
       have gC:New w.heap.size D5:=New.of_le fun q hq=>by
        rcases fU q hq with h|h
        ·exact hN.le q h
        ·omega
       refine ko @eV ?_
       first|with_reducible refine ks [] @eV ?_|refine kp @eV ?_
       exact CutO.mk ⟨os++ [⟨ok,ot⟩],v5,D5,(b7, .cells #[vi ok,vs ot] 82 (0,0)):: (DG++ [(bc, .cells #[vi ok,vs ot] 82 (0,0))])⟩ ⟨gC,⟨ol,bQ.app ⟨mj,trivial⟩⟩,by simpa using lj,by rw[gF]⟩ rfl rfl
     ·have d5: (s.take 4== [83,76,79,49])=false:=beq_eq_false_iff_ne.2 hm
      rw[if_neg (fun h=>hm h.2.2.1)] at gF
      first|with_reducible refine ks [] (And.intro @eV (And.intro @d4 (And.intro @d4' (@d5)))) ?_|refine kp (And.intro @eV (And.intro @d4 (And.intro @d4' (@d5)))) ?_
      exact CutO.mk ⟨os,v3,D,DG⟩ ⟨hN,bQ,hG,by rw[gF,List.append_nil]⟩ rfl rfl
    ·have d4:decide ((4:Int)≤ (s.length:Int))=false:=decide_eq_false (by omega)
     rw[if_neg (fun h=>h4 h.2.1)] at gF
     first|with_reducible refine ks [] (And.intro @eV @d4) ?_|refine kp (And.intro @eV @d4) ?_
     exact CutO.mk ⟨os,v3,D,DG⟩ ⟨hN,bQ,hG,by rw[gF,List.append_nil]⟩ rfl rfl
  ·intro g j hg
   refine kv ?_
   obtain⟨os2,v4,D4,DG4⟩:=g
   simp only at hg ⊢
   obtain⟨eI,Cp,sB,Dp⟩:=hg
   have rI:os2.length≤k*201+201:=by
    have:=HB b
    rw[jQ,List.length_append] at this
    rw[Dp,List.length_append]
    omega
   have rd2:=rdl _ (eI.app Cp)
   first|with_reducible refine ks [] (And.intro @eV (And.intro @ln (And.intro @ixl (And.intro @rd2 (@ld2))))) ?_|refine kp (And.intro @eV (And.intro @ln (And.intro @ixl (And.intro @rd2 (@ld2))))) ?_
   refine Ow.callC rfl rfl Tryz.call156 (fun w' aB=>MH b w' Ft) (fun B9 v9 D9 ZT Fe Cn Fh=> ?_)
   have vA:New w.heap.size D9:=Cn.mono Fe
   refine ko @eV ?_
   refine Ow.permL (M:=D4++ (DG4++D9)) (by classical exact List.perm_iff_count.2 fun a=>by simp only[List.count_append,List.count_cons,List.count_nil]<;>omega) ?_
   refine Ow.appendXG (e:=82) (k:=(ir b).length) (new:=((ir b).map obC).flatten) (X:=D4) v4 rfl rfl rfl rfl Tryz.underlying94 Tryz.ag82 (by kernel_rfl) eb (by rw[obV,aV];rfl) Tryz.underlying94 (by intro k h;cases h) sB (fun w' aB=>((Fh.mono (fun q hq=>by simp[hq])).slV (z:=ob0) aB rfl rfl la).appX la tG) (by omega) (fun B5 v5 D5 n5 n9 lj mY fU gX=> ?_)
   have gC:New w.heap.size D5:=New.of_le fun q hq=>by
    rcases fU q hq with h|h
    ·exact eI.le q h
    ·omega
   refine ko @eV ?_
   first|with_reducible refine ks [] @eV ?_|refine kp @eV ?_
   exact Again.mk ⟨k+1,v5,D5,DG4++D9⟩ (by show l.length - (k+1)<l.length - k;omega) ⟨aD,gC,Cp.app vA,by rw[dO,jQ,←List.append_assoc,←Dp,List.length_append,List.map_append,List.flatten_append];exact lj⟩ rfl rfl
 ·obtain rfl:k=l.length:=by omega
  have d1:decide ((l.length:Int)< (l.length:Int))=false:=decide_eq_false (by omega)
  rw[List.take_length] at hG
  first|with_reducible refine ks [] (And.intro @eV (And.intro @d1 (@ln))) ?_|refine kp (And.intro @eV (And.intro @d1 (@ln))) ?_
  refine⟨_,(ke @eV), ?_⟩
  exact⟨Ext.of_new (hN.app bQ),D,DG,rfl,hG⟩
end Go.Proofs
end
section
open Go Go.Proofs Go.Sx Go.StP Go.Flo
namespace Go.Proofs
set_option maxRecDepth 10000
set_option maxHeartbeats 400000
set_option linter.unusedSimpArgs false
def idQ (o:ObL):IdL:=⟨Dig.shaR (m5 o.k o.t),rW _⟩
def lT (all:List ObL):Nat→Option (List ObL)
 |0=>some []
 |i+1=>match lT all i with
  |none=>none
  |some had=>if kS (all.getD i ob0).k (all.getD i ob0).t=true∧all.getD i ob0∉had then(if had.any (fun h=>(idQ h).l==(idQ (all.getD i ob0)).l)=true then none else some (had++ [all.getD i ob0])) else some had
def qC (all:List ObL):Bool:=(lT all all.length).isNone
theorem Yd {all:List ObL}: ∀ {j i:Nat},lT all i=none→i≤j→lT all j=none
 |0,i,h,mW=>by
  obtain rfl:i=0:=by omega
  exact h
 |j+1,i,h,mW=>by
  by_cases e:i=j+1
  ·subst e;exact h
  ·have:=Yd (j:=j) h (by omega)
   unfold lT
   rw[this]
theorem Yu {all:List ObL}: ∀ {i:Nat} {had:List ObL},lT all i=some had→had.length≤i
 |0,had,h=>by cases h;exact Nat.le_refl _
 |i+1,had,h=>by
  unfold lT at h
  cases hc:lT all i with
  |none=>rw[hc] at h;cases h
  |some Cz=>
   have h1:=Yu hc
   rw[hc] at h
   simp only at h
   split at h
   ·split at h
    ·cases h
    ·cases h;rw[List.length_append];simp;omega
   ·cases h;omega
structure ThG where
 j:Nat
 c:Bool
structure ClG where
 i:Nat
 had:List ObL
 v6:Value
 v7:Value
 D6:aA
 D7:aA
 DG:aA
set_option linter.defProp false
def cD:=And.intro (And.intro (And.intro (@ay) (@ax)) (And.intro (@Sx.tup2_0) (And.intro (@Sx.tup2_1) (@jV)))) (And.intro (And.intro (@jY) (And.intro (@jX) (@jW))) (And.intro (@Cg) (And.intro (@o5) (@pC))))
theorem Mr (v1 v2:Value) (l:List FiL) (more:List ObL) (w:World) (hv:FiSl w v1 l) (hl:l.length≤1000) (hb:FiB l) (hm:ObSl w v2 more) (pX:more.length≤1000000):
  Rets Tryz.prog 57 #[v1,v2] w (fun v D=>v= .bool (qC (jE l++more))∧D= []):=by
 have ln2:=hm.len
 have lL:=Hn l l.length (Nat.le_refl _)
 rw[List.take_length] at lL
 refine Rets.enterV Tryz.func57 rfl (rs:= [.tmp 4]) Tryz.results57 Tryz.ntmps57 ?_
 refine kf ?_
 first|with_reducible refine ks [] @cD ?_|refine kp @cD ?_
 refine Ow.callC rfl rfl Tryz.call113 (fun w' aB=>Jz v1 l w' (hv.oldN aB trivial) hl hb) (fun B1 v4 D0 fa fK eE fS=> ?_)
 obtain⟨D1,DG1,rfl,Cl⟩:=fS
 have cZ:=eE.mono fK
 rw[List.nil_append]
 refine ko @cD ?_
 refine Ow.appendXG (e:=82) (k:=more.length) (new:=(more.map obC).flatten) (X:=D1) v4 rfl rfl rfl rfl Tryz.underlying94 Tryz.ag82 (by kernel_rfl) eb (by rw[obV,aV];rfl) Tryz.underlying94 (by intro k h;cases h) Cl (fun w' aB=>(hm.oldN aB cZ).appX la tG) (by omega) (fun B5 v5 D5 n5 n9 lj mY fU gX=> ?_)
 have gC:New w.heap.size D5:=New.of_le fun q hq=>by
  rcases fU q hq with h|h
  ·exact cZ.le q (by rw[bM];exact List.mem_append_left _ h)
  ·omega
 rw[←List.flatten_append,←List.map_append,←List.length_append] at lj
 have gm: (jE l++more).length≤1300000:=by rw[List.length_append];omega
 have WB:New w.heap.size DG1:=New.of_le fun q hq=>cZ.le q (by rw[bM];exact List.mem_append_right _ hq)
 generalize jE l++more=all at*
 have ZZ:=Gr.i lj (fun p hp=>hp)
 have lna: ∀m,gP (.sl m) v5=some (vi all.length):=fun m=>rk ZZ m
 refine ko @cD ?_
 first|with_reducible refine ks [] (And.intro @cD @lna) ?_|refine kp (And.intro @cD @lna) ?_
 refine Cw.permL (M:=D5++ ([]++ ([]++DG1))) (by classical exact List.perm_iff_count.2 fun a=>by simp only[List.count_append,List.count_cons,List.count_nil]<;>omega) ?_
 refine Cw.loopG (G:=ClG) [18,19,20,21,24,25,26,27,28,29,9,10,30,31,32,33,34,35,36,37,40,41,42,43,44,45,46,47,48,38,39,49,50,51,52,53,54,11,12,55,56,57,58,61,62,63,64,65,66,4,59,60,67,68,69,70,71,72,73,6,74,75,76,77,7,22,23,8] (fun g=> [(6,g.v6),(7,g.v7),(8,vi g.i)]) (fun g=>D5++ (g.D6++ (g.D7++g.DG))) (fun g=>g.i≤all.length∧lT all g.i=some g.had∧New w.heap.size g.D6∧New w.heap.size g.D7∧New w.heap.size g.DG∧Gr g.D6 82 2 g.v6 g.had.length (g.had.map obC).flatten∧Gr g.D7 84 32 g.v7 g.had.length ((g.had.map idQ).map eZ).flatten) (fun g=>all.length - g.i) ⟨0,[], .slice none 0 0, .slice none 0 0,[],[],DG1⟩ rfl rfl ?_ ?_
 ·exact⟨Nat.zero_le _,rfl,trivial,trivial,WB,Gr.nl,Gr.nl⟩
 intro g j hg
 refine kv ?_
 obtain⟨i,had,v6,v7,D6,D7,DG⟩:=g
 simp only at hg ⊢
 obtain⟨hi,ll,jL,nB,bQ,mQ,Cm⟩:=hg
 have x8:=Yu ll
 have gD:New w.heap.size (D5++ (D6++ (D7++DG))):=gC.app (jL.app (nB.app bQ))
 by_cases aD:i<all.length
 ·have d1:decide ((i:Int)< (all.length:Int))=true:=decide_eq_true (by omega)
  have dZ:lT all (i+1)=if kS (all.getD i ob0).k (all.getD i ob0).t=true∧all.getD i ob0∉had then(if had.any (fun h=>(idQ h).l==(idQ (all.getD i ob0)).l)=true then none else some (had++ [all.getD i ob0])) else some had:=by
   show(match lT all i with|none=>none|some had=>_)=_
   rw[ll]
  refine Cw.world fun wz jw=> ?_
  have bE:=jw.nodup
  clear jw wz
  simp only[bM,List.nodup_append,List.mem_append] at bE
  obtain h0| ⟨ra,ca,resta,rfl,hka,De⟩:=xp ZZ bE.1
  ·omega
  have rda: ∀Y,aP w (D5++Y) ra=some (rowO obC 82 resta all):=fun Y=>aY (bL De)
  have lda:aI (some (true,2)) (some (rowO obC 82 resta all)) (i*2)=some (obV (all.getD i ob0).k (all.getD i ob0).t):=F8 (E:=82) (rest:=resta) (z:=ob0) la i aD
  have lnh: ∀m,gP (.sl m) v6=some (vi had.length):=fun m=>rk (Gr.i mQ (fun p hp=>hp)) m
  have lni: ∀m,gP (.sl m) v7=some (vi had.length):=fun m=>rk (Gr.i Cm (fun p hp=>hp)) m
  generalize all.getD i ob0=o at*
  obtain⟨ok,ot⟩:=o
  simp only at lda dZ
  first|with_reducible refine ks [7] (And.intro @cD (And.intro @d1 (And.intro @lna (And.intro @lda (@rda))))) ?_|refine kp (And.intro @cD (And.intro @d1 (And.intro @lna (And.intro @lda (@rda))))) ?_
  refine Ow.callFV rfl Tryz.call54 (fun w' aB=>YE ok ot w') ?_
  refine ko @cD ?_
  first|with_reducible refine ks [] (And.intro @cD @lnh) ?_|refine kp (And.intro @cD @lnh) ?_
  refine Cw.loopG (G:=ThG) [30,31,32,33,34,35,36,37,40,41,42,43,44,45,46,47,48,9,38,39,10] (fun g=> [(9, .bool g.c),(10,vi g.j)]) (fun g=>D5++ (D6++ (D7++DG))) (fun g=>g.j≤had.length∧g.c=(!kS ok ot||decide ((⟨ok,ot⟩:ObL)∈had.take g.j))) (fun g=>had.length - g.j) ⟨0, !kS ok ot⟩ rfl rfl ?_ ?_
  ·exact⟨Nat.zero_le _,by simp⟩
  intro g j hg
  refine kv ?_
  obtain⟨j,c⟩:=g
  simp only at hg ⊢
  obtain⟨hj,hc⟩:=hg
  by_cases hjt:j<had.length
  ·have d2:decide ((j:Int)< (had.length:Int))=true:=decide_eq_true (by omega)
   cases c with
   |true=>
    have j4: ¬ (kS ok ot=true∧(⟨ok,ot⟩:ObL)∉had):=by
     rintro⟨h1,h2⟩
     rw[h1,decide_eq_false (fun h=>h2 (List.mem_of_mem_take h))] at hc
     cases hc
    first|with_reducible refine ks [] (And.intro @cD (And.intro @d2 (@lnh))) ?_|refine kp (And.intro @cD (And.intro @d2 (@lnh))) ?_
    rw[if_neg j4] at dZ
    first|with_reducible refine ks [] @cD ?_|refine kp @cD ?_
    exact Again.mk ⟨i+1,had,v6,v7,D6,D7,DG⟩ (by show all.length - (i+1)<all.length - i;omega) ⟨aD,dZ,jL,nB,bQ,mQ,Cm⟩ rfl rfl
   |false=>
    have gn:=hc.symm
    rw[Bool.or_eq_false_iff] at gn
    have dO:=YV (o:=⟨ok,ot⟩) hjt
    rw[gn.2,Bool.false_or] at dO
    obtain h0| ⟨rh,ch,resth,rfl,hkh,Wt⟩:=xp (Gr.i mQ (fun p hp=>hp)) bE.2.1.1
    ·omega
    have lx:rh∉keys D5:=fun hm=>bE.2.2 rh hm rh (.inl hkh) rfl
    have rdh:aP w (D5++ (D6++ (D7++DG))) rh=some (rowO obC 82 resth had):=aY (by rw[gi lx];exact bL Wt)
    have ldh:aI (some (true,2)) (some (rowO obC 82 resth had)) (j*2)=some (obV (had.getD j ob0).k (had.getD j ob0).t):=F8 (E:=82) (rest:=resth) (z:=ob0) la j hjt
    generalize had.getD j ob0=p at*
    first|with_reducible refine ks [] (And.intro @cD (And.intro @d2 (@lnh))) ?_|refine kp (And.intro @cD (And.intro @d2 (@lnh))) ?_
    refine Cw.regionS [rh,ra] [0,1,2,4,5,6,3,7,8,9] [] (by kernel_rfl) (by kernel_rfl) (by kernel_rfl) ?_
    simp only[ap, ↓ao, ↓ac, ↓aj, ↓ai,ad]
    refine kq (And.intro @cD (And.intro @rdh (And.intro @ldh (And.intro @rda (@lda))))) ?_
    first|with_reducible refine ks [] @cD ?_|refine kp @cD ?_
    exact Again.mk ⟨j+1,_⟩ (by show had.length - (j+1)<had.length - j;omega) ⟨hjt,by rw[gn.1,Bool.false_or];exact dO.symm⟩ rfl rfl
  ·obtain rfl:j=had.length:=by omega
   have d2:decide ((had.length:Int)< (had.length:Int))=false:=decide_eq_false (by omega)
   rw[List.take_length] at hc
   cases c with
   |true=>
    have j4: ¬ (kS ok ot=true∧(⟨ok,ot⟩:ObL)∉had):=by
     rintro⟨h1,h2⟩
     rw[h1,decide_eq_false h2] at hc
     cases hc
    first|with_reducible refine ks [] (And.intro @cD (And.intro @d2 (@lnh))) ?_|refine kp (And.intro @cD (And.intro @d2 (@lnh))) ?_
    rw[if_neg j4] at dZ
    first|with_reducible refine ks [] @cD ?_|refine kp @cD ?_
    exact Again.mk ⟨i+1,had,v6,v7,D6,D7,DG⟩ (by show all.length - (i+1)<all.length - i;omega) ⟨aD,dZ,jL,nB,bQ,mQ,Cm⟩ rfl rfl
   |false=>
    have gn:=hc.symm
    rw[Bool.or_eq_false_iff] at gn
    have ob:kS ok ot=true:=by simpa using gn.1
    have me:ot.length<100000:=by have:=y7 (k:=ok) (t:=ot) (by rw[Gw];exact ob);omega
    rw[if_pos ⟨ob,of_decide_eq_false gn.2⟩] at dZ
    first|with_reducible refine ks [] (And.intro @cD (And.intro @d2 (And.intro @lnh (And.intro @rda (@lda))))) ?_|refine kp (And.intro @cD (And.intro @d2 (And.intro @lnh (And.intro @rda (@lda))))) ?_
    refine Ow.callFV rfl Tryz.call55 (fun w' aB=>xm ok ot w' me) ?_
    have iP:Dig.shaR (m5 ok ot)=(idQ ⟨ok,ot⟩).l:=rfl
    rw[iP] at*
    have gW:=(idQ ⟨ok,ot⟩).h
    have r6:=id0.h
    generalize hx:idQ ⟨ok,ot⟩=x at*
    refine ko @cD ?_
    refine Ow.alloc rfl rfl iV fun b11 vG rP=> ?_
    simp only[aV,List.nil_append,List.cons_append]
    refine Ow.permL (M:=(b11, .cells (a8 id0.l) 84 (0,0)):: (D5++ (D6++ (D7++DG)))) (by classical exact List.perm_iff_count.2 fun a=>by simp only[List.count_append,List.count_cons,List.count_nil]<;>omega) ?_
    refine ko @cD ?_
    first|with_reducible refine ks [] (And.intro @cD @lni) ?_|refine kp (And.intro @cD @lni) ?_
    refine Cw.loopG (G:=Nat) [55,56,57,58,61,62,63,64,65,66,4,59,60,12] (fun g=> [(12,vi g)]) (fun g=>(b11, .cells (a8 x.l) 84 (0,0)):: (D5++ (D6++ (D7++DG)))) (fun g=>g≤had.length∧(had.take g).any (fun h=>(idQ h).l==x.l)=false) (fun g=>had.length - g) 0 rfl rfl ?_ ?_
    ·exact⟨Nat.zero_le _,rfl⟩
    intro m jm hm
    refine kv ?_
    obtain⟨fV,lu⟩:=hm
    by_cases ju:m<had.length
    ·have d3:decide ((m:Int)< (had.length:Int))=true:=decide_eq_true (by omega)
     obtain h0| ⟨rq,cq,restq,rfl,Wl,Wu⟩:=xp (l:=had.map idQ) (enc:=eZ) (by rw[List.length_map];exact Gr.i Cm (fun p hp=>hp)) bE.2.1.2.1.1
     ·rw[List.length_map] at h0;omega
     rw[List.length_map] at*
     have lx:rq∉keys D5:=fun hm=>bE.2.2 rq hm rq (.inr (.inl Wl)) rfl
     have nJ:rq∉keys D6:=fun hm=>bE.2.1.2.2 rq hm rq (.inl Wl) rfl
     have hq11:rq<b11:=ae vG (by simp only[bM,List.mem_append];exact .inr (.inr (.inl Wl)))
     have rdq:aP w ((b11, .cells (a8 x.l) 84 (0,0)):: (D5++ (D6++ (D7++DG)))) rq=some (rowO eZ 84 restq (had.map idQ)):=aY (by rw[p4 _ _ _ _ (by omega),gi lx,gi nJ];exact bL Wu)
     have ldq:aI (some (true,32)) (some (rowO eZ 84 restq (had.map idQ))) (m*32)=some (.agg (a8 (idQ (had.getD m ob0)).l)):=by
      have:=F8 (E:=84) (rest:=restq) (z:=id0) pn m (show m< (had.map idQ).length by rw[List.length_map];exact ju)
      rw[qH,show(had.map idQ).getD m id0=idQ (had.getD m ob0) from by rw[List.getD_eq_getElem?_getD,List.getD_eq_getElem?_getD,List.getElem?_map,List.getElem?_eq_getElem ju];rfl] at this
      exact this
     have sU:had.getD m ob0∈had:=nX ju
     have dO: (had.take (m+1)).any (fun h=>(idQ h).l==x.l)=((idQ (had.getD m ob0)).l==x.l):=by
      rw[StP.take_snoc (z:=ob0) ju,List.any_append,lu];simp
     generalize had.getD m ob0=p at*
     first|with_reducible refine ks [] (And.intro @cD (And.intro @d3 (@lni))) ?_|refine kp (And.intro @cD (And.intro @d3 (@lni))) ?_
     refine Cw.regionS [rq,b11] [0,1,2,3,4,5] [] (by kernel_rfl) (by kernel_rfl) (by kernel_rfl) ?_
     simp only[ap, ↓ao, ↓ac, ↓aj, ↓ai,ad]
     refine kq (And.intro @cD (And.intro @rdq (@ldq))) ?_
     cases hq: ((idQ p).l==x.l) with
     |true=>
      have vF:had.any (fun h=>(idQ h).l==x.l)=true:=List.any_eq_true.2 ⟨p,sU,hq⟩
      rw[if_pos vF] at dZ
      have hnn:=Yd dZ (show i+1≤all.length by omega)
      first|with_reducible refine ks [] (And.intro @cD @hq) ?_|refine kp (And.intro @cD @hq) ?_
      refine⟨_,(ke @cD),(show New w.heap.size ((b11,_):: (D5++ (D6++ (D7++DG)))) from⟨rP,gD⟩), ?_⟩
      (unfold qC;rw[hnn];rfl)
     |false=>
      rw[hq] at dO
      first|with_reducible refine ks [] (And.intro @cD @hq) ?_|refine kp (And.intro @cD @hq) ?_
      exact Again.mk (m+1) (by omega) ⟨ju,dO⟩ rfl rfl
    ·obtain rfl:m=had.length:=by omega
     have d3:decide ((had.length:Int)< (had.length:Int))=false:=decide_eq_false (by omega)
     rw[List.take_length] at lu
     rw[if_neg (by rw[lu];simp)] at dZ
     have ha11:ra<b11:=ae vG (by simp only[bM,List.mem_append];exact .inl hka)
     have rda2: ∀O Y,aP w ((b11,O):: (D5++Y)) ra=some (rowO obC 82 resta all):=fun O Y=>aY (by rw[p4 _ _ _ _ (by omega)];exact bL De)
     first|with_reducible refine ks [] (And.intro @cD (And.intro @d3 (And.intro @lni (And.intro @rda2 (@lda))))) ?_|refine kp (And.intro @cD (And.intro @d3 (And.intro @lni (And.intro @rda2 (@lda))))) ?_
     refine Ow.buildSlice (e:=82) #[vi ok,vs ot] rfl rfl (lV (cs:=obC ⟨ok,ot⟩) Tryz.underlying94 Tryz.ag82 eb (by decide) rfl) fun bc sF mj=> ?_
     refine ko @cD ?_
     refine Ow.permL (M:=D6++ ((b11, .cells (a8 x.l) 84 (0,0)):: (D5++ (D7++ (DG++ [(bc, .cells #[vi ok,vs ot] 82 (0,0))]))))) (by classical exact List.perm_iff_count.2 fun a=>by simp only[List.count_append,List.count_cons,List.count_nil]<;>omega) ?_
     refine Ow.appendXG (e:=82) (k:=1) (new:=obC ⟨ok,ot⟩) (X:=D6) v6 rfl rfl rfl rfl Tryz.underlying94 Tryz.ag82 (by kernel_rfl) eb (by rw[obV,aV];rfl) Tryz.underlying94 (by intro k h;cases h) mQ (fun w' aB=>AppX.one1 (aB.has bc (.cells (obC ⟨ok,ot⟩).toArray 82 (0,0)) (by simp[obC])) (la _) (tG _)) (by omega) (fun B8 va8 D8 hA8 hB8 hG8 hk81 We Dc=> ?_)
     have Fg:New w.heap.size D8:=New.of_le fun q hq=>by
      rcases We q hq with h|h
      ·exact jL.le q h
      ·omega
     refine Ow.permL (M:=(b11, .cells (a8 x.l) 84 (0,0)):: (D5++ (D8++ (D7++ (DG++ [(bc, .cells #[vi ok,vs ot] 82 (0,0))]))))) (by classical exact List.perm_iff_count.2 fun a=>by simp only[List.count_append,List.count_cons,List.count_nil]<;>omega) ?_
     refine ko @cD ?_
     first|with_reducible refine ks [] @cD ?_|refine kp @cD ?_
     refine Ow.buildSlice (e:=84) (a8 x.l) rfl rfl (lV (cs:=x.l.map v8) Tryz.underlying106 pI iV (by decide) (by simp[x.h])) fun ba pT ou=> ?_
     refine ko @cD ?_
     refine Ow.permL (M:=D7++ ((b11, .cells (a8 x.l) 84 (0,0)):: (D5++ (D8++ (DG++ [(bc, .cells #[vi ok,vs ot] 82 (0,0)),(ba, .cells (a8 x.l) 84 (0,0))]))))) (by classical exact List.perm_iff_count.2 fun a=>by simp only[List.count_append,List.count_cons,List.count_nil]<;>omega) ?_
     refine Ow.appendXG (e:=84) (k:=1) (new:=eZ x) (X:=D7) v7 rfl rfl rfl rfl Tryz.underlying106 pI (by kernel_rfl) iV (by rw[aV,rj,id0.h]) Tryz.underlying106 (by intro k h;cases h) Cm (fun w' aB=>AppX.one1 (by rw[qH];exact aB.has ba (.cells (a8 x.l) 84 (0,0)) (by simp)) (pn _) (Ev _)) (by omega) (fun B9 va9 D9 ZT Fe ZX hk91 Wf lI=> ?_)
     have Cn:New w.heap.size D9:=New.of_le fun q hq=>by
      rcases Wf q hq with h|h
      ·exact nB.le q h
      ·omega
     refine ko @cD ?_
     refine Cw.permL (M:=D5++ (D8++ (D9++ ((b11, .cells (a8 x.l) 84 (0,0)):: (DG++ [(bc, .cells #[vi ok,vs ot] 82 (0,0)),(ba, .cells (a8 x.l) 84 (0,0))]))))) (by classical exact List.perm_iff_count.2 fun a=>by simp only[List.count_append,List.count_cons,List.count_nil]<;>omega) ?_
     first|with_reducible refine ks [] @cD ?_|refine kp @cD ?_
     have js: (had++ [(⟨ok,ot⟩:ObL)]).length=had.length+1:=by simp
     exact Again.mk ⟨i+1,had++ [⟨ok,ot⟩],va8,va9,D8,D9,(b11, .cells (a8 x.l) 84 (0,0)):: (DG++ [(bc, .cells #[vi ok,vs ot] 82 (0,0)),(ba, .cells (a8 x.l) 84 (0,0))])⟩ (by show all.length - (i+1)<all.length - i;omega) ⟨aD,dZ,Fg,Cn,⟨rP,bQ.app ⟨mj,ou,trivial⟩⟩,by simpa using hG8,by rw[←hx] at ZX;simpa using ZX⟩ rfl rfl
 ·obtain rfl:i=all.length:=by omega
  have d1:decide ((all.length:Int)< (all.length:Int))=false:=decide_eq_false (by omega)
  first|with_reducible refine ks [] (And.intro @cD (And.intro @d1 (@lna))) ?_|refine kp (And.intro @cD (And.intro @d1 (@lna))) ?_
  refine⟨_,(ke @cD),gD, ?_⟩
  (unfold qC;rw[ll];rfl)
end Go.Proofs
end
section
open Go Go.Proofs Go.Sx Go.StP Go.Flo
namespace Go.Proofs
set_option maxRecDepth 10000
set_option maxHeartbeats 400000
set_option linter.unusedSimpArgs false
def sumF (l:List FiL):Nat:=(l.map fun f=>f.data.length / 100+f.name.length).sum
def tA (l:List FiL) (more:List ObL):Bool:=decide (60<l.length) ||decide (1000<sumF l) ||qC (jE l++more)
theorem OM (l:List FiL) {k:Nat} (h:k<l.length):sumF (l.take (k+1))=sumF (l.take k)+ (l.getD k fi0).data.length / 100+ (l.getD k fi0).name.length:=by
 unfold sumF
 rw[StP.take_snoc (z:=fi0) h,List.map_append,List.sum_append,List.map_singleton,List.sum_singleton,Nat.add_assoc]
theorem TK (l:List FiL) (k:Nat):sumF (l.take k)≤sumF l:=by
 have:sumF l=sumF (l.take k)+sumF (l.drop k):=by
  unfold sumF
  rw[←List.sum_append,←List.map_append,List.take_append_drop]
 omega
theorem Qa {l:List FiL} {f:FiL} (h:f∈l):f.data.length / 100+f.name.length≤sumF l:=by
 unfold sumF
 induction l with
 |nil=>cases h
 |cons g l ih=>
  rw[List.map_cons,List.sum_cons]
  rcases List.mem_cons.1 h with rfl|h
  ·omega
  ·have:=ih h;omega
theorem Px {l:List FiL} {more:List ObL} (h:tA l more=false):l.length≤60∧qC (jE l++more)=false∧ ∀f,f∈l→f.name.length≤1000∧f.data.length<100100:=by
 unfold tA at h
 simp only[Bool.or_eq_false_iff,decide_eq_false_iff_not] at h
 refine⟨by omega,h.2,fun f hf=> ?_⟩
 have:=Qa hf
 omega
structure GfG where
 n:Nat
 k:Nat
set_option linter.defProp false
def jG:=And.intro (@ay) (@ax)
theorem JA (v1 v2:Value) (l:List FiL) (more:List ObL) (w:World) (hv:FiSl w v1 l) (hb:FiB l) (hm:ObSl w v2 more) (pX:more.length≤1000000):
  Rets Tryz.prog 15 #[v1,v2] w (fun v D=>v= .bool (tA l more)∧D= []):=by
 have ln:=hv.len
 obtain⟨rb,off,arr,E,fz,hr⟩:=hv.row
 refine Rets.enterV Tryz.func15 rfl (rs:= [.tmp 4]) Tryz.results15 Tryz.ntmps15 ?_
 refine kf ?_
 by_cases ZS:60<l.length
 ·have d1:decide ((60:Int)< (l.length:Int))=true:=decide_eq_true (by omega)
  first|with_reducible refine ks [] (And.intro @jG (And.intro @ln (@d1))) ?_|refine kp (And.intro @jG (And.intro @ln (@d1))) ?_
  refine⟨_,(ke @jG),trivial, ?_⟩
  (unfold tA;rw[decide_eq_true ZS];rfl)
 ·have d1:decide ((60:Int)< (l.length:Int))=false:=decide_eq_false (by omega)
  first|with_reducible refine ks [] (And.intro @jG (And.intro @ln (@d1))) ?_|refine kp (And.intro @jG (And.intro @ln (@d1))) ?_
  refine Cw.loopG (G:=GfG) [10,11,12,13,16,17,18,19,20,21,22,23,24,25,26,27,28,29,30,31,5,32,33,4,14,15,6] (fun g=> [(5,vi g.n),(6,vi g.k)]) (fun g=> []) (fun g=>g.k≤l.length∧g.n≤1000∧g.n=sumF (l.take g.k)) (fun g=>l.length - g.k) ⟨0,0⟩ rfl rfl ?_ ?_
  ·exact⟨Nat.zero_le _,Nat.zero_le _,rfl⟩
  intro g j hg
  refine kv ?_
  obtain⟨n,k⟩:=g
  simp only at hg ⊢
  obtain⟨hk,hn,hs⟩:=hg
  by_cases aD:k<l.length
  ·have d2:decide ((k:Int)< (l.length:Int))=true:=decide_eq_true (by omega)
   have ix:=hr.idx true k aD
   have hh:=hr.has (by omega)
   have ld1: ∀n,aI (some (false,n)) (some (.cells arr E fz)) (off+k*3+1)=some (vs (l.getD k fi0).name):=fun n=>Su hr aD n
   have ld2: ∀n,aI (some (false,n)) (some (.cells arr E fz)) (off+k*3+2)=some (vs (l.getD k fi0).data):=fun n=>BX hr aD n
   have sH:=hb (l.getD k fi0) (by rw[List.getD_eq_getElem?_getD,List.getElem?_eq_getElem aD];exact List.getElem_mem _)
   have fi:=OM l aD
   have cN:=TK l (k+1)
   generalize l.getD k fi0=r at*
   have es: ((n:Int)+ (r.data.length:Int).tdiv 100)+ (r.name.length:Int)=((n+r.data.length / 100+r.name.length:Nat):Int):=by
    rw[Int.tdiv_eq_ediv_of_nonneg (by omega)];omega
   have es2: ((n:Int)+ (r.data.length:Int) / 100)+ (r.name.length:Int)=((n+r.data.length / 100+r.name.length:Nat):Int):=by omega
   first|with_reducible refine ks [] (And.intro @jG (And.intro @ln (@d2))) ?_|refine kp (And.intro @jG (And.intro @ln (@d2))) ?_
   refine Cw.regionS [rb] [0,1,2,3,4,9,10,11,12,5,6,7,8,13,14,15,16] [] (by kernel_rfl) (by kernel_rfl) (by kernel_rfl) ?_
   simp only[ap, ↓ao, ↓ac, ↓aj, ↓ai,ad]
   refine kq (And.intro @jG (And.intro @ln (And.intro @ix (And.intro @hh (And.intro @ld1 (And.intro @ld2 (And.intro @es (@es2)))))))) ?_
   by_cases hgt:1000<n+r.data.length / 100+r.name.length
   ·have d3:decide ((1000:Int)< ((n+r.data.length / 100+r.name.length:Nat):Int))=true:=decide_eq_true (by omega)
    first|with_reducible refine ks [] (And.intro @jG @d3) ?_|refine kp (And.intro @jG @d3) ?_
    refine⟨_,(ke @jG),trivial, ?_⟩
    (unfold tA;rw[decide_eq_true (show 1000<sumF l by omega),Bool.or_true];rfl)
   ·have d3:decide ((1000:Int)< ((n+r.data.length / 100+r.name.length:Nat):Int))=false:=decide_eq_false (by omega)
    first|with_reducible refine ks [] (And.intro @jG @d3) ?_|refine kp (And.intro @jG @d3) ?_
    exact Again.mk ⟨n+r.data.length / 100+r.name.length,k+1⟩ (by show l.length - (k+1)<l.length - k;omega) ⟨aD,by show n+r.data.length / 100+r.name.length≤1000;omega,by show n+r.data.length / 100+r.name.length=sumF (l.take (k+1));omega⟩ rfl rfl
  ·have d2:decide ((k:Int)< (l.length:Int))=false:=decide_eq_false (by omega)
   rw[show l.take k=l from List.take_of_length_le (by omega)] at hs
   first|with_reducible refine ks [] (And.intro @jG (And.intro @ln (@d2))) ?_|refine kp (And.intro @jG (And.intro @ln (@d2))) ?_
   refine Ow.callFV rfl Tryz.call57 (fun w' aB=>Mr v1 v2 l more w' (hv.oldN aB trivial) (by omega) hb (hm.oldN aB trivial) pX) ?_
   refine ko @jG ?_
   first|with_reducible refine ks [] @jG ?_|refine kp @jG ?_
   refine⟨_,(ke @jG),trivial, ?_⟩
   (unfold tA;rw[decide_eq_false ZS,decide_eq_false (show¬1000<sumF l by omega)];rfl)
instance:DecidableEq FiL:=fun a b=>if h:a.dir=b.dir∧a.name=b.name∧a.data=b.data then .isTrue (by cases a;cases b;simp only at h;obtain⟨rfl,rfl,rfl⟩:=h;rfl) else .isFalse (fun e=>h (by rw[e];exact⟨rfl,rfl,rfl⟩))
set_option linter.defProp false
end Go.Proofs
end
section
open Go Go.Proofs Go.Sx Go.StP
namespace Go.Proofs
set_option maxRecDepth 10000
set_option maxHeartbeats 400000
set_option linter.unusedSimpArgs false
theorem Az {w:World} {L:aA} (hg:l5 w) (hn:New w.heap.size L):0∉keys L:=by
 obtain⟨e,fz,x6⟩:=hg
 exact hn.not (Array.getElem?_eq_some_iff.1 x6).1
set_option linter.defProp false
end Go.Proofs
end
section
open Go Go.Proofs Go.Sx Go.StP
namespace Go.Proofs
set_option maxRecDepth 10000
set_option maxHeartbeats 400000
set_option linter.unusedSimpArgs false
set_option linter.defProp false
end Go.Proofs
end
section
open Go Go.Proofs Go.Sx Go.StP Go.Flo
namespace Go.Proofs
set_option maxRecDepth 10000
set_option maxHeartbeats 1000000
set_option linter.unusedSimpArgs false
set_option linter.defProp false
end Go.Proofs
end
section
open Go Go.Proofs Go.Sx Go.StP Go.Flo
namespace Go.Proofs
set_option maxRecDepth 10000
set_option maxHeartbeats 1000000
set_option linter.unusedSimpArgs false
theorem ActOk.old {w w':World} {L:aA} {a:ActL} (h:ActOk w a) (hw:Hp w L w') (hn:New w.heap.size L):ActOk w' a:=
 ⟨h.pk.old hw fun hl _b hb=>hn.not (h.pk.blk hl hb),h.n⟩
set_option linter.defProp false
end Go.Proofs
end
section
open Go Go.Proofs Go.Sx Go.StP Go.Flo
namespace Go.Proofs
set_option maxRecDepth 10000
set_option maxHeartbeats 1000000
set_option linter.unusedSimpArgs false
theorem QT {S S':DiskL} {kind:Int} {dir name s:List UInt8} {e:Nat} (h:StepD S kind dir name s S' e):S'.files.length≤S.files.length+1:=by
 obtain⟨-,aZ,-⟩:=j9 S
 cases h with
 |same=>exact Nat.le_succ _
 |burn=>rw[aZ];exact Nat.le_succ _
 |create=>show((aJ S).1.files++ [dw]).length≤_;rw[aZ,List.length_append];exact Nat.le_refl _
 |append=>show((aJ S).1.files.set _ _).length≤_;rw[List.length_set,aZ];exact Nat.le_succ _
 |sync=>show((aJ S).1.files.set _ _).length≤_;rw[List.length_set,aZ];exact Nat.le_succ _
 |syncDir=>show(aJ S).1.files.length≤_;rw[aZ];exact Nat.le_succ _
 |rename=>show(aJ S).1.files.length≤_;rw[aZ];exact Nat.le_succ _
 |remove=>show(aJ S).1.files.length≤_;rw[aZ];exact Nat.le_succ _
set_option linter.defProp false
end Go.Proofs
end
section
open Go Go.Proofs Go.Sx Go.StP
namespace Go.Proofs
set_option maxRecDepth 10000
set_option maxHeartbeats 400000
set_option linter.unusedSimpArgs false
theorem uK {S:DiskL} (ok:DkOk S) {k:Nat} (hk:k<3) {c:CallL} (bX:okC (S.dir k).seen c) (hc:c.kind=0→c.n<S.files.length):DkOk (gL S k c):=
 xX ok _ (tv c (ok.seen k hk)) (ok.stl k hk) (FI (ok.seenN k hk) bX hc) (ok.stlN k hk) (fun d hd=>by
  rcases List.mem_append.1 hd with hd|hd
  ·exact ok.pendN k hk d hd
  ·rw[List.mem_singleton.1 hd];exact hc)
theorem Bo {S S':DiskL} {kind:Int} {dir name s:List UInt8} {e:Nat} (ok:DkOk S) (h:StepD S kind dir name s S' e):DkOk S':=by
 obtain⟨aQ,aZ,-⟩:=j9 S
 have okb:=mr ok
 cases h with
 |same=>exact ok
 |burn=>exact okb
 |create k hk hf hn hb=>
  refine uK (AG okb ⟨Nat.zero_le _,Nat.le_refl _⟩) (dH hk).1 (fun e=>by cases e) fun _=> ?_
  show S.files.length< ((aJ S).1.files++ [dw]).length
  rw[aZ,List.length_append];exact Nat.lt_succ_self _
 |append k m hk hm hf hb=>
  have pX:=ok.seenN k (dH hk).1 _ (fp hm)
  obtain⟨h1,h2⟩:=we ok (n:=m) pX
  refine wt okb ⟨?_, ?_⟩
  ·rw[List.length_append]
   unfold kY at hf
   simp only[Bool.or_eq_false_iff,decide_eq_false_iff_not] at hf
   have:=hf.1.1
   show(aH S m).data.length+s.length≤1048576
   omega
  ·rw[List.length_append]
   show(aH S m).stl≤ (aH S m).data.length+s.length
   omega
 |sync k m hk hm hb=>
  have pX:=ok.seenN k (dH hk).1 _ (fp hm)
  obtain⟨h1,h2⟩:=we ok (n:=m) pX
  exact wt okb ⟨h1,Nat.le_refl _⟩
 |syncDir k hk hb=>
  have aW:=(dH hk).1
  exact xX okb _ (okb.seen k aW) (okb.seen k aW) (okb.seenN k aW) (okb.seenN k aW) fun c hc=>by cases hc
 |rename k m h4 hk hm hf aO hb=>
  exact uK okb (dH hk).1 (by rw[aQ];exact qM hm aO) fun e=>by cases e
 |remove k m hk hm hb=>exact uK okb (dH hk).1 (fun e=>by cases e) fun e=>by cases e
structure DsA (S:DiskL) (N:Nat):Prop where
 ok:DkOk S
 B:DkN N S
 fl:S.files.length≤N
theorem DsA.step {S S':DiskL} {N:Nat} {kind:Int} {dir name s:List UInt8} {e:Nat} (h:DsA S N) (bF:StepD S kind dir name s S' e) (hn:name.length≤1000000) (hs:s.length≤1000000):DsA S' (N+1):=
 ⟨Bo h.ok bF,AQ h.B hn hs bF,Nat.le_trans (QT bF) (Nat.succ_le_succ h.fl)⟩
theorem DsA.mono {S:DiskL} {N M:Nat} (h:DsA S N) (hm:N≤M):DsA S M:=⟨h.ok,h.B.mono hm,Nat.le_trans h.fl hm⟩
theorem DsA.do {S:DiskL} {N:Nat} (h:DsA S N) (_hN:N<900000) (kind:Int) (dir name s:List UInt8) (hn:name.length≤1000000) (hs:s.length≤1000000):DsA (doV S kind dir name s).1 (N+1):=h.step (UP S kind dir name s) hn hs
section
variable {dir nm data:List UInt8}
end
end Go.Proofs
end
section
open Go Go.Proofs Go.Sx Go.StP
namespace Go.Proofs
set_option maxRecDepth 10000
set_option maxHeartbeats 1000000
set_option linter.unusedSimpArgs false
structure FulS (S:DiskL):Prop where
 ok:DkOk S
 uniq:gy S
 hist:iE S
 calm:gw S
 fine:mD S
theorem FulS.good {S:DiskL} (h:FulS S):GoodS S:=h.ok.good h.uniq
theorem FulS.step {S S':DiskL} {kind:Int} {dir name s:List UInt8} {e:Nat} (h:FulS S) (bF:StepD S kind dir name s S' e):FulS S':=
 ⟨Bo h.ok bF,P0 h.ok h.uniq bF,zK h.hist bF,Ni h.calm bF,Ot h.fine bF⟩
theorem Rd {S:DiskL} (h:FulS S) {k n:Nat} {x d:List UInt8} (hk:k<3) (hK:KeepS S k x n d) {dir nm:List UInt8} (data:List UInt8) (light:Bool) (hx:dir=eY k→x≠nm∧x≠ah nm):KeepS (pubV S dir nm data light).2 k x n d:=
 (CM (fun S=>FulS S∧KeepS S k x n d) dir nm (fun A B kind s e hA bF h4=>⟨hA.1.step bF,H9 hA.1.ok hA.1.hist hA.1.uniq hA.1.calm hk hA.2 (fun ht=>by
  obtain⟨h1,h2⟩:=ht
  rcases h2 with h2| ⟨h2,h3⟩
  ·exact(hx h1).2 h2.symm
  ·exact(hx h1).1 (h3.symm.trans (h4 h2))) bF⟩) 6 (tk0 dir nm data light) S rfl rfl ⟨h,hK⟩).2
theorem LJ {S:DiskL} {dir x:List UInt8} {k:Nat} (hc:gw S) (hk:bv dir=some k) (hf:dE x=true) {d:List UInt8} (hv:bP S k x=some d) (s:List UInt8) (h1:d.length+s.length≤1048576) (h2: (cy S:Int)+s.length≤S.max): (gf S dir x s).2≠8:=by
 have h0:dF S dir [x]=0:=by rw[pu hc hk,if_neg (by simp[hf])]
 obtain⟨n,hn,hd⟩:=wJ hv
 have fv:kY S n s=false:=by
  unfold kY
  rw[hd]
  simp only[Bool.or_eq_false_iff,decide_eq_false_iff_not]
  exact⟨⟨by omega,by omega⟩,by omega⟩
 unfold gf
 rw[if_neg (by rw[h0];simp),ky hk,hn]
 simp only
 rw[fv,if_neg (by simp),ox hc,if_neg (by simp)]
 simp
theorem z7 {S:DiskL} (h:FulS S) {nm:List UInt8} (hn:dE nm=true) (hf:dE (ah nm)=true) (data:List UInt8):
  ∃e S',pubV S aG nm data true=(e,S')∧FulS S'∧S'.max=S.max∧(∀x,x≠nm→x≠ah nm→bP S' 0 x=bP S 0 x)∧cy S'≤cy S+ (data.length+nm.length)∧bP S' 0 (ah nm)=none∧
   ((e=0∧bP S' 0 nm=some data)∨(e=8∧bP S' 0 nm=bP S 0 nm∧ ¬ (data.length≤1048576∧(cy S:Int)+data.length≤S.max))):=by
 have hk:bv aG=some 0:=rfl
 have hd:eY 0=aG:=rfl
 have tn:nm≠ah nm:=(CA nm).symm
 have other: ∀ {A B:DiskL} {kind:Int} {s:List UInt8} {e:Nat},FulS A→StepD A kind aG (ah nm) s B e→ ∀x,x≠ah nm→(kind=4→x≠s)→bP B 0 x=bP A 0 x:=fun hA bF x hx h4=>zP hA.good bF (by decide) fun _=>⟨hx,h4⟩
 have used: ∀ {A B:DiskL} {kind:Int} {e:Nat},FulS A→StepD A kind aG (ah nm) [] B e→cy B≤cy A:=fun hA bF=>tZ hA.ok hA.uniq bF
 obtain⟨S1,⟨b0,h0⟩,a1,m1,v1,o1,u1⟩: ∃S1,(∃b,phT 0 (tk0 aG nm data true) S=⟨b,0,tk0 aG nm data true,S1⟩)∧FulS S1∧S1.max=S.max∧bP S1 0 (ah nm)=none∧(∀x,x≠ah nm→bP S1 0 x=bP S 0 x)∧cy S1≤cy S:=by
  have hr:=yn h.calm hk hf
  show∃S1,(∃b,tK (tk0 aG nm data true) S=_)∧_
  unfold tK
  cases hv:bP S 0 (ah nm) with
  |none=>
   rw[hv] at hr
   exact⟨S,⟨false,by rw[if_pos (by show(eh S aG (ah nm)).2≠0;rw[hr];simp)]⟩,h,rfl,hv,fun _ _=>rfl,Nat.le_refl _⟩
  |some d=>
   rw[hv] at hr
   obtain⟨r1,r2⟩:=YF h.calm hk hf hv
   have st:=wY S aG (ah nm) []
   refine⟨(jT S aG (ah nm)).1,⟨true, ?_⟩,h.step st,y8 st,r2,fun x hx=>other h st x hx fun e=>absurd e (by decide),used h st⟩
   rw[if_neg (by show¬ (eh S aG (ah nm)).2≠0;rw[hr];simp)]
   show PhR.mk true (jT S aG (ah nm)).2 _ _=_
   rw[r1];rfl
 obtain⟨r1,r2⟩:=LI a1.good a1.calm hk hf v1
 have st2:=GW S1 aG (ah nm) []
 have a2:=a1.step st2
 have m2:=(y8 st2).trans m1
 have o2:=fun x hx=>other a1 st2 x hx fun e=>absurd e (by decide)
 have u2:=Nat.le_trans (used a1 st2) u1
 have h1:phT 1 (tkN aG nm data true 1 false) S1=⟨true,0,tkN aG nm data true 1 true,(jU S1 aG (ah nm)).1⟩:=by
  show PhR.mk true (jU S1 aG (ah nm)).2 {tkN aG nm data true 1 false with made:=(jU S1 aG (ah nm)).2==0} _=_
  rw[r1];rfl
 clear st2
 generalize (jU S1 aG (ah nm)).1=S2 at*
 have st3:=GM S2 aG (ah nm) data
 have a3:=a2.step st3
 have m3:=(y8 st3).trans m2
 have o3:=fun x hx=>other a2 st3 x hx fun e=>absurd e (by decide)
 have u3:=tZ a2.ok a2.uniq st3
 have h2:phT 2 (tkN aG nm data true 2 true) S2=⟨true,(gf S2 aG (ah nm) data).2,tkN aG nm data true 2 true,(gf S2 aG (ah nm) data).1⟩:=rfl
 have hp:pubV S aG nm data true=phG 4 (tkN aG nm data true 2 true) S2:=by
  unfold pubV
  rw[FK (t':=tkN aG nm data true 1 false) h0 rfl rfl rfl,FK (t':=tkN aG nm data true 2 true) h1 rfl rfl rfl]
 rcases KI a2.good a2.calm hk hf r2 data with⟨b1,b2⟩ | ⟨b1,b2⟩
 ·have st4:=wY S2 aG (ah nm) []
  obtain⟨-,w2⟩:=YF a2.calm hk hf r2
  refine⟨8,(jT S2 aG (ah nm)).1, ?_,a2.step st4,(y8 st4).trans m2,fun x _ hx=>(other a2 st4 x hx fun e=>absurd e (by decide)).trans ((o2 x hx).trans (o1 x hx)), ?_,w2, .inr ⟨rfl,(other a2 st4 nm tn fun e=>absurd e (by decide)).trans ((o2 nm tn).trans (o1 nm tn)),fun hr=> ?_⟩⟩
  ·rw[hp,Pe h2 (by show(gf S2 aG (ah nm) data).2≠0;rw[b1];simp)]
   unfold gq
   rw[if_pos ⟨rfl,by show(gf S2 aG (ah nm) data).2≠9;rw[b1];simp⟩]
   show((gf S2 aG (ah nm) data).2,(jT (gf S2 aG (ah nm) data).1 aG (ah nm)).1)=_
   rw[b1,b2]
  ·have:=used a2 st4;omega
  ·exact LJ a2.calm hk hf r2 data (by have:=hr.1;simp;omega) (by rw[m2];have:=hr.2;omega) b1
 ·rw[List.nil_append] at b2
  clear st3
  generalize (gf S2 aG (ah nm) data).1=S3 at*
  have h3:phT 3 (tkN aG nm data true 3 true) S3=⟨false,0,tkN aG nm data true 3 true,S3⟩:=rfl
  obtain⟨c1,c2,c3⟩:=Kk a3.good a3.calm hk hf hn (CA nm) b2
  have st5:=GR S3 aG (ah nm) nm
  have h4:phT 4 (tkN aG nm data true 4 true) S3=⟨true,0,tkN aG nm data true 4 false,(j8 S3 aG (ah nm) nm).1⟩:=by
   show PhR.mk true (j8 S3 aG (ah nm) nm).2 {tkN aG nm data true 4 true with made:=true&& (j8 S3 aG (ah nm) nm).2 !=0} _=_
   rw[c1];rfl
  have u5:=tZ a3.ok a3.uniq st5
  refine⟨0,(j8 S3 aG (ah nm) nm).1, ?_,a3.step st5,(y8 st5).trans m3,fun x hx wD=>(other a3 st5 x wD fun _=>hx).trans ((o3 x wD).trans ((o2 x wD).trans (o1 x wD))),by omega,c3, .inl ⟨rfl,c2⟩⟩
  rw[hp,FK (t':=tkN aG nm data true 3 true) h2 b1 rfl rfl]
  show phG 3 _ S3=_
  rw[FK (t':=tkN aG nm data true 4 true) h3 rfl rfl rfl,UQ h4 rfl rfl]
theorem Z2 {S:DiskL} (h:FulS S) {nm d:List UInt8} (hn:dE nm=true) (hv:bP S 0 nm=some d):
  (ct S aG nm).2=0∧(fQ (ct S aG nm).1 aG).2=0∧FulS (fQ (ct S aG nm).1 aG).1∧(∀x,bP (fQ (ct S aG nm).1 aG).1 0 x=bP S 0 x)∧(fQ (ct S aG nm).1 aG).1.dir 0=⟨(S.dir 0).seen,(S.dir 0).seen,[]⟩∧ ∃n,KeepS (fQ (ct S aG nm).1 aG).1 0 nm n d:=by
 have hk:bv aG=some 0:=rfl
 have st1:=xY S aG nm []
 have a1:=h.step st1
 have st2:=xj (ct S aG nm).1 aG [] []
 obtain⟨s1,s2⟩:=OP h.good h.calm hk hn hv
 obtain⟨d1,d2⟩:=Jj a1.calm hk
 obtain⟨n,gE,hdn⟩:=wJ hv
 have da:=h.good.lt 0 (by decide) _ (fp gE)
 have h0:dF S aG [nm]=0:=by rw[pu h.calm hk,if_neg (by simp[hn])]
 have e1: (ct S aG nm).1=ez S n ⟨(aH S n).data,(aH S n).data.length⟩:=by
  unfold ct
  rw[if_neg (by rw[h0];simp),ky hk,gE]
  simp only
  rw[ox h.calm,if_neg (by simp)]
 have e2: (fQ (ct S aG nm).1 aG).1=oz (ct S aG nm).1 0:=by
  have h1:dF (ct S aG nm).1 aG []=0:=by rw[pu a1.calm hk,if_neg (by simp)]
  unfold fQ
  rw[if_neg (by rw[h1];simp),ox a1.calm,if_neg (by simp),hk]
  rfl
 refine⟨s1,d1,a1.step st2,fun x=>(d2 0 x).trans ?_,by rw[e2,e1];rfl,n, ?_⟩
 ·by_cases hx:x=nm
  ·rw[hx,s2,hv]
  ·exact zP h.good st1 (by decide) fun _=>⟨hx,fun e=>absurd e (by decide)⟩
 ·have hf:aH (ez S n ⟨(aH S n).data,(aH S n).data.length⟩) n=⟨(aH S n).data,(aH S n).data.length⟩:=by rw[su _ _ da,if_pos rfl]
  rw[e2,e1]
  refine⟨?_, ?_, ?_, ?_,fun c hc=>by cases hc⟩
  ·show n< (ez S n _).files.length
   unfold ez
   simpa using da
  ·show(aH (ez S n _) n).data=d
   rw[hf];exact hdn
  ·show(aH (ez S n _) n).stl=(aH (ez S n _) n).data.length
   rw[hf]
  ·show aR (S.dir 0).seen nm=some n
   exact gE
theorem LZ {S:DiskL} (h:FulS S) {nm x d:List UInt8} {n:Nat} (aO:x≠nm) (hK:KeepS S 0 x n d):KeepS (fQ (ct S aG nm).1 aG).1 0 x n d:=by
 have st1:=xY S aG nm []
 have a1:=h.step st1
 have st2:=xj (ct S aG nm).1 aG nm []
 have k1:=H9 h.ok h.hist h.uniq h.calm (by decide) hK (fun ht=>by
  obtain⟨-,h2⟩:=ht
  rcases h2 with h2| ⟨h2,-⟩
  ·exact aO h2.symm
  ·cases h2) st1
 exact H9 a1.ok a1.hist a1.uniq a1.calm (by decide) k1 (fun ht=>by
  obtain⟨-,h2⟩:=ht
  rcases h2 with h2| ⟨h2,-⟩
  ·exact aO h2.symm
  ·cases h2) st2
end Go.Proofs
end
section
open Go Go.Proofs Go.Sx Go.Dig
namespace Go.Proofs
set_option maxRecDepth 10000
set_option maxHeartbeats 4000000
set_option linter.unusedSimpArgs false
set_option linter.defProp false
def bW:=And.intro (And.intro (@ay) (@ax)) (And.intro (@Sx.tup2_0) (@Sx.tup2_1))
theorem A1 (b:UInt8) (w:World):Rets Tryz.prog 157 #[v8 b] w (fun v D=>v=vi (gr b)∧D= []):=by
 refine Rets.enterV Tryz.func157 rfl (rs:= [.tmp 2]) Tryz.results157 Tryz.ntmps157 ?_
 refine kf ?_
 first|with_reducible refine ks [] @bW ?_|refine kp @bW ?_
 refine Cw.loopG (G:=Nat) [5,6,3,7,8,9,10,11,2,12,4] (fun g=> [(4,vi g)]) (fun g=> []) (fun g=>g≤16∧ ∀i,i<g→hexL.getD i 0≠b) (fun g=>16 - g) 0 rfl rfl ?_ ?_
 ·exact⟨by omega,by omega⟩
 intro g j hg
 refine kv ?_
 obtain⟨hg,aO⟩:=hg
 by_cases aD:g<16
 ·cases hb: (hexL.getD g 0==b)
  ·have dK:=hb
   simp only[hexL] at dK
   first|with_reducible refine ks [] (And.intro @bW @dK) ?_|refine kp (And.intro @bW @dK) ?_
   refine Again.mk (g+1) (by omega) ⟨by omega, ?_⟩ rfl rfl
   intro i hi
   by_cases he:i=g
   ·subst he;simpa using hb
   ·exact aO i (by omega)
  ·have dK:=hb
   simp only[hexL] at dK
   first|with_reducible refine ks [] (And.intro @bW @dK) ?_|refine kp (And.intro @bW @dK) ?_
   exact⟨_,rfl,trivial,by rw[UD b g aD hb];rfl⟩
 ·first|with_reducible refine ks [] @bW ?_|refine kp @bW ?_
  exact⟨_,rfl,trivial,by rw[Si b (fun i hi=>aO i (by omega))];rfl⟩
theorem Mi (l:List UInt8) (w:World):Rets Tryz.prog 114 #[vs l] w (fun v D=>v= .tuple #[.agg (a8 (nc l)), .bool (mz l)]∧D= []):=by
 refine Rets.enterV Tryz.func114 rfl (rs:= [.cell 2 84, .tmp 3]) Tryz.results114 Tryz.ntmps114 ?_
 refine kf ?_
 first|with_reducible refine ks [] @bW ?_|refine kp @bW ?_
 refine Ow.alloc rfl rfl Tryz.zr84 fun b1 _ aF=> ?_
 refine ko @bW ?_
 first|with_reducible refine ks [] @bW ?_|refine kp @bW ?_
 refine Ow.alloc rfl rfl Tryz.zr84 fun b2 aZ bH=> ?_
 obtain⟨n4,-⟩:=aZ
 refine ko @bW ?_
 by_cases li:l.length=64
 ·first|with_reducible refine ks [] @bW ?_|refine kp @bW ?_
  refine Cw.loopG (G:=Nat) [13,14,5,15,16,17,18,19,20,21,22,23,24,25,6,7,26,27,28,29,30,31,32,3,33,34,35,36,37,38,39,40,12] (fun g=> [(12,vi g),(3, .bool false)]) (fun g=> [(b1, .cells (a8 (List.replicate 32 0)) 84),(b2, .cells (a8 (si l g)) 84)]) (fun g=>g≤32∧ ∀i,i<2*g→0≤gr (l.getD i 0)) (fun g=>32 - g) 0 rfl rfl ?_ ?_
  ·exact⟨by omega,by omega⟩
  intro g j hg
  refine kv ?_
  obtain⟨hg,hd⟩:=hg
  have aL:=Kk_ l g hg
  by_cases aD:g<32
  ·have d1:=zl (l.getD (2*g) 0)
   have d2:=zl (l.getD (2*g+1) 0)
   first|with_reducible refine ks [] @bW ?_|refine kp @bW ?_
   refine Cw.regionO [0,1,2,3,5,6,7,8,9,4,10,11,12] [] rfl (by kernel_rfl) (by kernel_rfl) ?_
   simp only[ap, ↓ao, ↓ac, ↓aj, ↓ai,ad]
   refine kq @bW ?_
   refine Ow.callFV rfl Tryz.call157 (fun w' _=>A1 _ w') ?_
   refine kq @bW ?_
   refine Ow.callFV rfl Tryz.call157 (fun w' _=>A1 _ w') ?_
   refine kq @bW ?_
   by_cases lx:gr (l.getD (2*g) 0)<0
   ·have e1:=decide_eq_true lx
    first|with_reducible refine ks [] (And.intro @bW @e1) ?_|refine kp (And.intro @bW @e1) ?_
    refine Ow.build (.agg (a8 (List.replicate 32 0))) rfl (by kernel_rfl) ?_
    refine ko @bW ?_
    first|with_reducible refine ks [] @bW ?_|refine kp @bW ?_
    have ho:=AR l (2*g) li (by omega) lx
    refine⟨_,(ke @bW),⟨aF,bH,trivial⟩, ?_⟩
    rw[nc,ho];rfl
   ·have e1:=decide_eq_false lx
    by_cases nJ:gr (l.getD (2*g+1) 0)<0
    ·have e2:=decide_eq_true nJ
     first|with_reducible refine ks [] (And.intro @bW (And.intro @e1 (@e2))) ?_|refine kp (And.intro @bW (And.intro @e1 (@e2))) ?_
     refine Ow.build (.agg (a8 (List.replicate 32 0))) rfl (by kernel_rfl) ?_
     refine ko @bW ?_
     first|with_reducible refine ks [] @bW ?_|refine kp @bW ?_
     have ho:=AR l (2*g+1) li (by omega) nJ
     refine⟨_,(ke @bW),⟨aF,bH,trivial⟩, ?_⟩
     rw[nc,ho];rfl
    ·have e2:=decide_eq_false nJ
     have hb:=nib (gr (l.getD (2*g) 0)) (gr (l.getD (2*g+1) 0)) (by omega) (by omega) (by omega)
     first|with_reducible refine ks [] (And.intro @bW (And.intro @e1 (And.intro @e2 (@hb)))) ?_|refine kp (And.intro @bW (And.intro @e1 (And.intro @e2 (@hb)))) ?_
     refine Again.mk (g+1) (by omega) ⟨by omega, ?_⟩ ?_ rfl
     ·intro i hi
      rcases Nat.lt_or_ge i (2*g) with h|h
      ·exact hd i h
      ·rcases Nat.eq_or_lt_of_le h with h|h
       ·rw[←h];omega
       ·have:i=2*g+1:=by omega
        rw[this];omega
     ·exact congrArg (fun z=> [(b1,Obj.cells (a8 (List.replicate 32 0)) 84),(b2,Obj.cells (a8 z) 84)]) (IU l g aD _ rfl)
  ·have oH:g=32:=by omega
   subst oH
   first|with_reducible refine ks [] @bW ?_|refine kp @bW ?_
   have ho:=zE l li (fun i hi=>hd i (by omega))
   refine⟨_,(ke @bW),⟨aF,bH,trivial⟩, ?_⟩
   rw[nc,ho];show Value.tuple #[.agg (a8 (si l 32)),_]=_;simp[si]
 ·first|with_reducible refine ks [] @bW ?_|refine kp @bW ?_
  refine⟨_,(ke @bW),⟨aF,bH,trivial⟩, ?_⟩
  rw[zy l li,nc,zy l li];rfl
def cutV (s p:List UInt8):List UInt8×Bool:=if(decide (p.length≤s.length)&& (s.take p.length==p))=true then(s.drop p.length,true) else(s,false)
theorem Iw (s p:List UInt8) (w:World) (hs:s.length<1099511627776):Rets Tryz.prog 137 #[vs s,vs p] w (fun v D=>v= .tuple #[vs (cutV s p).1, .bool (cutV s p).2]∧D= []):=by
 refine Rets.enterV Tryz.func137 rfl (rs:= [.tmp 4, .tmp 5]) Tryz.results137 Tryz.ntmps137 ?_
 refine kf ?_
 first|with_reducible refine ks [] @bW ?_|refine kp @bW ?_
 refine Ow.callFV rfl Tryz.call174 (fun w' aB=>I9 s p w' hs) ?_
 refine ko @bW ?_
 unfold cutV
 cases h: (decide (p.length≤s.length)&& (s.take p.length==p))
 ·first|with_reducible refine ks [] @bW ?_|refine kp @bW ?_
  refine⟨_,(ke @bW),trivial, ?_⟩
  rfl
 ·have dN:p.length≤s.length:=by
   rw[Bool.and_eq_true,decide_eq_true_eq] at h;exact h.1
  first|with_reducible refine ks [] @bW ?_|refine kp @bW ?_
  refine⟨_,(ke @bW),trivial, ?_⟩
  rfl
theorem KT (s p:List UInt8) (w:World) (hs:s.length<1099511627776):Rets Tryz.prog 102 #[vs s,vs p] w (fun v D=>v= .tuple #[vs (cutV s p).1, .bool (cutV s p).2]∧D= []):=by
 refine Rets.enterV Tryz.func102 rfl (rs:= [.tmp 4, .tmp 5]) Tryz.results102 Tryz.ntmps102 ?_
 refine kf ?_
 first|with_reducible refine ks [] @bW ?_|refine kp @bW ?_
 refine Ow.callFV rfl Tryz.call137 (fun w' aB=>Iw s p w' hs) ?_
 refine Ow.go rfl ?_
 simp(disch:=(first|assumption|omega| (simp only[cT,cS,UInt64.reduceToNat];try omega))) only[↓Sx.S0,Sx.S1,Tryz.fx,bW,Nat.reduceAdd,Nat.reducePow,Int.reducePow,Nat.reduceBEq, ↓reduceIte,UInt8.reduceToNat,UInt16.reduceToNat,UInt32.reduceToNat,UInt64.reduceToNat,Int.reduceToNat,Sx.tup2_0,Sx.tup2_1]
 first|with_reducible refine ks [] @bW ?_|refine kp @bW ?_
 refine⟨_,(ke @bW),trivial, ?_⟩
 rfl
end Go.Proofs
end
section
open Go Go.Proofs Go.Sx Go.Dig
namespace Go.Proofs
set_option maxRecDepth 10000
set_option maxHeartbeats 1000000
set_option linter.unusedSimpArgs false
set_option linter.defProp false
def iv:=And.intro (And.intro (@ay) (@ax)) (And.intro (@Sx.tup2_0) (@Sx.tup2_1))
theorem FH {w:World} (h:GlobC w): (2:Nat)<w.heap.size:=by
 obtain⟨e,f,h⟩:=h
 exact(Array.getElem?_eq_some_iff.1 h).1
def eD (k:Int) (t:List UInt8):List UInt8:=kl (83::76::79::49::dk k t)
theorem xi (id:List UInt8) (iP:id.length=32) (w:World):Rets Tryz.prog 52 #[.agg (a8 id)] w (fun v D=>v=vs (aK id)∧D= []):=by
 refine Rets.enterV Tryz.func52 rfl (rs:= [.tmp 2]) Tryz.results52 Tryz.ntmps52 ?_
 refine kf ?_
 first|with_reducible refine ks [] @iv ?_|refine kp @iv ?_
 refine Ow.box rfl rfl fun b1 aQ aF=> ?_
 refine ko @iv ?_
 first|with_reducible refine ks [] @iv ?_|refine kp @iv ?_
 refine Ow.callFV rfl Tryz.call107 (fun w' aB=>Sb id iP w') ?_
 refine ko @iv ?_
 first|with_reducible refine ks [] @iv ?_|refine kp @iv ?_
 refine⟨_,(ke @iv),⟨aF,trivial⟩, ?_⟩
 rfl
set_option linter.defProp false
def k9:=And.intro (And.intro (And.intro (@ay) (@ax)) (And.intro (@Sx.tup2_0) (And.intro (@Sx.tup2_1) (@jV)))) (And.intro (And.intro (@jY) (@jX)) (And.intro (@jW) (And.intro (@A5) (@A3))))
theorem Jl (k:Int) (t:List UInt8) (w:World) (hG:GlobC w):Rets Tryz.prog 49 #[obV k t] w (XS w [] (fun v _=>v=if bS k t then .tuple #[vs (eD k t),vi 0] else .tuple #[vs [],vi 1])):=by
 refine Rets.enterX Tryz.func49 rfl (rs:= [.tmp 2, .tmp 3]) Tryz.results49 Tryz.ntmps49 (fun p hp=>by cases hp) (by simp[keys]) ?_
 refine kf ?_
 first|with_reducible refine ks [] @k9 ?_|refine kp @k9 ?_
 refine Ow.box rfl rfl fun b1 aQ aF=> ?_
 simp only[d9,cu,d8,aV,List.nil_append]
 refine ko @k9 ?_
 first|with_reducible refine ks [] @k9 ?_|refine kp @k9 ?_
 refine Ow.callC rfl rfl Tryz.call99 (fun w' aB=>YG k t w') (fun B2 v2 D2 bz dI eP be=> ?_)
 have uz:New w.heap.size ((b1,Obj.cells #[vi k,vs t] 82 (0,0))::D2):=⟨aF,eP.mono dI⟩
 cases hr:bS k t
 ·rw[hr,if_neg (by simp)] at be
  subst be
  have h1: ((1:Int) !=0)=true:=rfl
  refine ko (And.intro @k9 @h1) ?_
  first|with_reducible refine ks [] (And.intro @k9 @h1) ?_|refine kp (And.intro @k9 @h1) ?_
  refine⟨_,(ke @k9), ?_⟩
  exact⟨Ext.of_new uz,rfl⟩
 ·rw[hr,if_pos rfl] at be
  subst be
  obtain⟨dr,aW,me⟩:=wi hr
  have fv:=YY hr
  have cN: (83::76::79::49::dk k t).length<1099511627776:=by simp only[List.length_cons];omega
  have h1: ((0:Int) !=0)=false:=rfl
  refine ko (And.intro @k9 @h1) ?_
  first|with_reducible refine ks [] (And.intro @k9 @h1) ?_|refine kp (And.intro @k9 @h1) ?_
  refine Ow.callFV rfl Tryz.call100 (fun w' aB=>yd (83::76::79::49::dk k t) w' (hG.of aB (uz.not (FH hG))) cN) ?_
  refine ko @k9 ?_
  first|with_reducible refine ks [] @k9 ?_|refine kp @k9 ?_
  refine⟨_,(ke @k9), ?_⟩
  exact⟨Ext.of_new uz,rfl⟩
end Go.Proofs
end
section
open Go Go.Proofs Go.Sx Go.Dig
namespace Go.Proofs
set_option maxRecDepth 10000
set_option maxHeartbeats 1000000
set_option linter.unusedSimpArgs false
def looS (b:List UInt8):List UInt8:=(cutV (dX b).1 [83,76,79,49]).1
def iH (name b:List UInt8):Bool:=(dX b).2&& (cutV (dX b).1 [83,76,79,49]).2&&eu (looS b)&& (aK (idV (frK (looS b)) (frT (looS b)).1).l==name)
def looK (name b:List UInt8):Int:=if iH name b then frK (looS b) else 0
def iM (name b:List UInt8):List UInt8:=if iH name b then(frT (looS b)).1 else []
theorem SZ (b:List UInt8): (looS b).length≤b.length:=by
 unfold looS cutV dX
 split<;>split<;>(try split)<;>simp<;>omega
set_option linter.defProp false
def cj:=And.intro (And.intro (And.intro (@jV) (@jY)) (And.intro (@jX) (@jW))) (And.intro (And.intro (@Sx.tup2_0) (@Sx.tup2_1)) (And.intro (@ay) (@ax)))
theorem LC (name b:List UInt8) (w:World) (hG:GlobC w) (hE:GlobE w) (hb:b.length<1099511627776):Rets Tryz.prog 50 #[vs name,vs b] w (fun v D=>v= .tuple #[obV (looK name b) (iM name b), .bool (iH name b)]∧D= []):=by
 have hul: (dX b).1.length≤b.length:=by
  unfold dX
  split
  ·simp
  ·split<;>simp
 have cN:=SZ b
 refine Rets.enterV Tryz.func50 rfl (rs:= [.cell 4 82, .tmp 5]) Tryz.results50 Tryz.ntmps50 ?_
 refine kf ?_
 first|with_reducible refine ks [] @cj ?_|refine kp @cj ?_
 refine Ow.alloc rfl rfl eb fun b4 gS dg=> ?_
 simp only[aV,List.nil_append,List.cons_append]
 refine ko @cj ?_
 first|with_reducible refine ks [] @cj ?_|refine kp @cj ?_
 have eI:New w.heap.size [(b4,Obj.cells #[vi 0,vs []] 82 (0,0))]:=⟨dg,trivial⟩
 refine Ow.callFV rfl Tryz.call101 (fun w' aB=>Ib b w' (hG.of aB (eI.not (FH hG))) (by omega)) ?_
 obtain⟨us,og⟩: ∃us,(dX b).1=us:=⟨_,rfl⟩
 obtain⟨u2,GE⟩: ∃u2,(dX b).2=u2:=⟨_,rfl⟩
 rw[og,GE]
 rw[og] at hul
 refine ko @cj ?_
 first|with_reducible refine ks [] @cj ?_|refine kp @cj ?_
 refine Ow.callFV rfl Tryz.call102 (fun w' aB=>KT us [83,76,79,49] w' (by omega)) ?_
 obtain⟨cs,dZ⟩: ∃cs,(cutV us [83,76,79,49]).1=cs:=⟨_,rfl⟩
 obtain⟨c2,dL⟩: ∃c2,(cutV us [83,76,79,49]).2=c2:=⟨_,rfl⟩
 have Wn:looS b=cs:=by unfold looS;rw[og,dZ]
 rw[dZ,dL]
 rw[Wn] at cN
 refine ko @cj ?_
 first|with_reducible refine ks [] @cj ?_|refine kp @cj ?_
 refine Ow.callFV rfl Tryz.call103 (fun w' aB=>MF cs w' (by omega)) ?_
 obtain⟨K,hK⟩: ∃K,(if eu cs=true then frK cs else 0)=K:=⟨_,rfl⟩
 obtain⟨T,hT⟩: ∃T,(if eu cs=true then(frT cs).1 else [])=T:=⟨_,rfl⟩
 rw[hK,hT]
 refine ko @cj ?_
 refine Ow.alloc rfl rfl eb fun b10 qx j6=> ?_
 simp only[aV,List.nil_append,List.cons_append]
 have h410:b4<b10:=ae qx (by simp[keys])
 refine ko @cj ?_
 first|with_reducible refine ks [] @cj ?_|refine kp @cj ?_
 have hNA:New w.heap.size [(b4,Obj.cells #[vi 0,vs []] 82 (0,0)),(b10,Obj.cells #[vi K,vs T] 82 (0,0))]:=⟨dg,j6,trivial⟩
 refine Ow.callFV rfl Tryz.call104 (fun w' aB=>Ax K T w' (hE.new aB hNA)) ?_
 refine ko @cj ?_
 refine Ow.alloc rfl rfl iV fun b12 vH mi=> ?_
 simp only[aV,List.nil_append,List.cons_append]
 have h412:b4<b12:=ae vH (by simp[keys])
 have ZQ:b10<b12:=ae vH (by simp[keys])
 have gW:=(idV K T).h
 have r6:=id0.h
 refine ko @cj ?_
 have pf:fW (cg Tryz.prog 82) (am Tryz.prog 82) []=some (obV 0 []):=id (by kernel_rfl)
 have Co:New w.heap.size [(b4,Obj.cells #[vi 0,vs []] 82 (0,0)),(b10,Obj.cells #[vi K,vs T] 82 (0,0)),(b12,Obj.cells (a8 (idV K T).l) 84 (0,0))]:=⟨dg,j6,mi,trivial⟩
 have e0: ((0:Int) !=0)=false:=rfl
 have e2: ((2:Int) !=0)=true:=rfl
 have hO:iH name b=(u2&&c2&&eu cs&& (aK (idV (frK cs) (frT cs).1).l==name)):=by
  unfold iH
  rw[GE,og,dL,Wn]
 cases u2 with
 |false=>
  have gF:iH name b=false:=by rw[hO];rfl
  ((try with_reducible refine Cw.go [] ?_);(try simp(disch:=(first|assumption|omega| (simp only[cT,cS,UInt64.reduceToNat];try omega))) only[↓Sx.S0,Sx.S1,Tryz.fx,cj,Nat.reduceAdd,Nat.reducePow,Int.reducePow,Nat.reduceBEq, ↓reduceIte,UInt8.reduceToNat,UInt16.reduceToNat,UInt32.reduceToNat,UInt64.reduceToNat,Int.reduceToNat,Bool.not_false,Bool.not_true,e0]))
  refine Ow.build _ rfl pf ?_
  refine ko @cj ?_
  first|with_reducible refine ks [] @cj ?_|refine kp @cj ?_
  refine⟨_,(ke @cj),Co, ?_⟩
  rw[looK,iM,gF];rfl
 |true=>
  cases c2 with
  |false=>
   have gF:iH name b=false:=by rw[hO];rfl
   ((try with_reducible refine Cw.go [] ?_);(try simp(disch:=(first|assumption|omega| (simp only[cT,cS,UInt64.reduceToNat];try omega))) only[↓Sx.S0,Sx.S1,Tryz.fx,cj,Nat.reduceAdd,Nat.reducePow,Int.reducePow,Nat.reduceBEq, ↓reduceIte,UInt8.reduceToNat,UInt16.reduceToNat,UInt32.reduceToNat,UInt64.reduceToNat,Int.reduceToNat,Bool.not_false,Bool.not_true,e0]))
   refine Ow.build _ rfl pf ?_
   refine ko @cj ?_
   first|with_reducible refine ks [] @cj ?_|refine kp @cj ?_
   refine⟨_,(ke @cj),Co, ?_⟩
   rw[looK,iM,gF];rfl
  |true=>
   cases hf:eu cs with
   |false=>
    have gF:iH name b=false:=by rw[hO,hf];rfl
    rw[show(if(false:Bool)=true then(0:Int) else 2)=2 from rfl]
    ((try with_reducible refine Cw.go [] ?_);(try simp(disch:=(first|assumption|omega| (simp only[cT,cS,UInt64.reduceToNat];try omega))) only[↓Sx.S0,Sx.S1,Tryz.fx,cj,Nat.reduceAdd,Nat.reducePow,Int.reducePow,Nat.reduceBEq, ↓reduceIte,UInt8.reduceToNat,UInt16.reduceToNat,UInt32.reduceToNat,UInt64.reduceToNat,Int.reduceToNat,Bool.not_false,Bool.not_true,e2]))
    refine Ow.build _ rfl pf ?_
    refine ko @cj ?_
    first|with_reducible refine ks [] @cj ?_|refine kp @cj ?_
    refine⟨_,(ke @cj),Co, ?_⟩
    rw[looK,iM,gF];rfl
   |true=>
    rw[show(if(true:Bool)=true then(0:Int) else 2)=0 from rfl]
    rw[hf,if_pos rfl] at hK hT
    have hr:bS K T=true:=by
     rw[←hK,←hT]
     unfold eu at hf
     rw[Bool.and_eq_true] at hf
     exact hf.2
    rw[hr]
    rw[hf,hK,hT,Bool.true_and,Bool.true_and,Bool.true_and] at hO
    ((try with_reducible refine Cw.go [] ?_);(try simp(disch:=(first|assumption|omega| (simp only[cT,cS,UInt64.reduceToNat];try omega))) only[↓Sx.S0,Sx.S1,Tryz.fx,cj,Nat.reduceAdd,Nat.reducePow,Int.reducePow,Nat.reduceBEq, ↓reduceIte,UInt8.reduceToNat,UInt16.reduceToNat,UInt32.reduceToNat,UInt64.reduceToNat,Int.reduceToNat,Bool.not_false,Bool.not_true,e0]))
    refine Ow.callFV rfl Tryz.call52 (fun w' aB=>xi (idV K T).l gW w') ?_
    cases hq: (aK (idV K T).l==name) with
    |false=>
     have xE: (aK (idV K T).l !=name)=true:=by simp[bne,hq]
     have gF:iH name b=false:=by rw[hO,hq]
     refine ko (And.intro @cj @xE) ?_
     first|with_reducible refine ks [] @cj ?_|refine kp @cj ?_
     refine Ow.build _ rfl pf ?_
     refine ko @cj ?_
     first|with_reducible refine ks [] @cj ?_|refine kp @cj ?_
     refine⟨_,(ke @cj),Co, ?_⟩
     rw[looK,iM,gF];rfl
    |true=>
     have xE: (aK (idV K T).l !=name)=false:=by simp[bne,hq]
     have gF:iH name b=true:=by rw[hO,hq]
     refine ko (And.intro @cj @xE) ?_
     first|with_reducible refine ks [] @cj ?_|refine kp @cj ?_
     refine⟨_,(ke @cj),Co, ?_⟩
     rw[looK,iM,gF,if_pos rfl,if_pos rfl,Wn,hK,hT];rfl
end Go.Proofs
end
namespace Go.Dig
open Go.Sx
theorem Ao (id:List UInt8) (i:Nat) (h:i<id.length): (aK id).getD (2*i) 0=hexD ((id.getD i 0).toNat / 16)∧(aK id).getD (2*i+1) 0=hexD ((id.getD i 0).toNat%16):=by
 induction id generalizing i with
 |nil=>cases h
 |cons b r ih=>
  have e:aK (b::r)=hexD (b.toNat / 16)::hexD (b.toNat%16)::aK r:=rfl
  rw[e]
  cases i with
  |zero=>exact⟨rfl,rfl⟩
  |succ i=>
   have:=ih i (by simpa using h)
   rw[show 2* (i+1)=2*i+1+1 from by omega]
   simpa using this
theorem GN (n:Nat) (h:n<16):gr (hexD n)=n:=by
 have: ∀i:Fin 16,gr (hexD i.val)=(i.val:Int):=by decide+kernel
 exact this ⟨n,h⟩
theorem ya (id:List UInt8) (h:id.length=32):mz (aK id)=true:=by
 apply zE _ (by rw[pw,h])
 intro i hi
 have hb:=(id.getD (i / 2) 0).toNat_lt
 have:=Ao id (i / 2) (by omega)
 rcases Nat.mod_two_eq_zero_or_one i with h2|h2
 ·rw[show i=2* (i / 2) by omega,this.1,GN _ (by omega)];omega
 ·rw[show i=2* (i / 2)+1 by omega,this.2,GN _ (by omega)];omega
theorem Nu (b:UInt8):UInt8.ofInt (((b.toNat / 16:Nat):Int)*16+ ((b.toNat%16:Nat):Int))=b:=by
 apply UInt8.toNat.inj
 have hb:=b.toNat_lt
 rw[show∀n:Int,UInt8.ofInt n=UInt8.ofNat (n%2^8).toNat from fun _=>rfl,UInt8.toNat_ofNat']
 omega
theorem Hz (id:List UInt8) (h:id.length=32):nc (aK id)=id:=by
 unfold nc
 rw[ya id h,if_pos rfl]
 apply List.ext_getElem
 ·simp[pK,h]
 intro i h1 h2
 have hi:i<32:=by omega
 have:=Ao id i (by omega)
 have hb:=(id.getD i 0).toNat_lt
 simp only[pK,List.getElem_map,List.getElem_range]
 rw[this.1,this.2,GN _ (by omega),GN _ (by omega),Nu]
 simp[List.getD_eq_getElem?_getD,h,hi]
theorem I3 (l:List UInt8): (nc l).length=32:=by
 unfold nc;split<;>simp[pK]
end Go.Dig
section
open Go Go.Proofs Go.Sx Go.StP Go.Dig
namespace Go.Proofs
set_option maxRecDepth 10000
set_option maxHeartbeats 1000000
set_option linter.unusedSimpArgs false
theorem BA: ∀n:Fin 16,fR (hexD n.val)=false:=by decide+kernel
theorem Qf (id:List UInt8): (aK id).any fR=false:=by
 rw[List.any_eq_false]
 intro c hc
 obtain⟨b,-,hb⟩:=List.mem_flatMap.1 hc
 have aD:=b.toNat_lt
 unfold hexB at hb
 rcases List.mem_cons.1 hb with rfl|hb
 ·simpa using BA ⟨b.toNat / 16,by omega⟩
 ·rw[List.mem_singleton.1 hb]
  simpa using BA ⟨b.toNat%16,by omega⟩
theorem rZ (x:IdL):dE (aK x.l)=true∧dE (ah (aK x.l))=true:=by
 have hl: (aK x.l).length=64:=by rw[pw,x.h]
 have hb:=Qf x.l
 have hn: ∀s:List UInt8,64≤s.length→(s== [])=false:=fun s h=>by
  cases s with
  |nil=>simp at h
  |cons a t=>rfl
 unfold dE ah
 rw[hn _ (by omega),hn _ (by rw[List.length_append];omega),List.any_append,hb,List.length_append,hl]
 exact⟨rfl,rfl⟩
theorem BZ {x y:IdL} (h:x.l=y.l):x=y:=by cases x;cases y;cases h;rfl
theorem qE {x y:IdL} (h:aK x.l=aK y.l):x=y:=BZ (by rw[←Hz x.l x.h,h,Hz y.l y.h])
theorem BR (x y:IdL):aK x.l≠ah (aK y.l):=fun h=>by
 have:=congrArg List.length h
 unfold ah at this
 rw[List.length_append,pw,pw,x.h,y.h] at this
 simp at this
theorem JP (s:List UInt8):dX (kl s)=(s,true):=by
 have hl:=Hr s
 have ht: (kl s).take ((kl s).length - 4)=s:=by rw[hl,Nat.add_sub_cancel];unfold kl;rw[List.take_left]
 unfold dX
 rw[if_neg (by omega),ht,if_pos rfl]
theorem IN {b:List UInt8} (h: (dX b).2=true):kl (dX b).1=b:=by
 unfold dX at h ⊢
 split at h
 ·cases h
 ·rename_i h0
  rw[if_neg h0]
  split at h
  ·rename_i h1;rw[if_pos h1];exact h1
  ·cases h
theorem Bm {k:Int} (h:1≤k∧k≤3): ∃c,jx k= [c]∧Lib.indexByte letL c=k:=by
 rcases(show k=1∨k=2∨k=3 by omega) with rfl|rfl|rfl
 ·exact⟨98,rfl,rfl⟩
 ·exact⟨116,rfl,rfl⟩
 ·exact⟨99,rfl,rfl⟩
theorem M1 {k:Int} {t:List UInt8} (h:bS k t=true):eu (dk k t)=true∧frK (dk k t)=k∧(frT (dk k t)).1=t:=by
 obtain⟨h1,h2,h3⟩:=wi h
 obtain⟨c,hc,hi⟩:=Bm ⟨h1,h2⟩
 have e:dk k t=c::eo t:=by unfold dk;rw[hc];rfl
 have hk:frK (c::eo t)=k:=by
  have:frK (c::eo t)=Lib.indexByte letL c:=by unfold frK;rw[tj];rfl
  rw[this,hi]
 have ht:=MW [] t [] 4096 (by omega) (by omega)
 rw[List.nil_append,List.append_nil,List.length_nil,Nat.zero_add] at ht
 have hl:lfT (eo t)=(t,(eo t).length,0):=ht
 rw[e]
 refine⟨?_,hk, ?_⟩
 ·unfold eu
  rw[hk,wo,Ht,hl]
  simp[bR,h]
 ·rw[wo,hl]
theorem Nh {s:List UInt8} (h:eu s=true):bS (frK s) (frT s).1=true∧dk (frK s) (frT s).1=s:=by
 have h0:=h
 unfold eu at h0
 simp only[Bool.and_eq_true,beq_iff_eq] at h0
 refine⟨h0.2, ?_⟩
 cases s with
 |nil=>rw[qO (k:=frK []) (by decide)] at h0;cases h0.2
 |cons c r=>
  rw[wo,Ht] at h0
  obtain⟨h1,h2⟩:=Ez h0.1
  obtain⟨-,h3⟩:=HZ (s:=r) (a:=0) (most:=4096) (Nat.zero_le _) h1
  rcases AM c r with⟨-,h5⟩ | ⟨-,h5,h6⟩
  ·rw[qO h5] at h0;cases h0.2
  ·unfold dk
   rw[h5,h6,wo]
   have h7:r.drop (an r 0 0 4096).2.1= []:=List.drop_eq_nil_of_le h2
   rw[h7,List.append_nil,List.drop_zero] at h3
   show [c]++eo (an r 0 0 4096).1=c::r
   rw[←h3];rfl
theorem Bf (s:List UInt8):cutV (83::76::79::49::s) [83,76,79,49]=(s,true):=by
 unfold cutV
 rw[if_pos (by simp)]
 rfl
theorem SD (k:Int) (t:List UInt8): (dX (eD k t))=(83::76::79::49::dk k t,true)∧looS (eD k t)=dk k t:=by
 have h1:=JP (83::76::79::49::dk k t)
 refine⟨h1, ?_⟩
 unfold looS eD
 rw[h1,Bf]
theorem Ah {k:Int} {t:List UInt8} (h:bS k t=true):iH (aK (idV k t).l) (eD k t)=true∧looK (aK (idV k t).l) (eD k t)=k∧iM (aK (idV k t).l) (eD k t)=t:=by
 obtain⟨e1,e2⟩:=SD k t
 obtain⟨f1,f2,f3⟩:=M1 h
 have ho:iH (aK (idV k t).l) (eD k t)=true:=by
  unfold iH
  rw[e1,e2,f1,f2,f3,Bf,beq_self_eq_true]
  rfl
 unfold looK iM
 rw[ho,if_pos rfl,if_pos rfl,e2]
 exact⟨rfl,f2,f3⟩
structure LooI (nm d:List UInt8):Prop where
 right:bS (looK nm d) (iM nm d)=true
 name:aK (idV (looK nm d) (iM nm d)).l=nm
 bytes:d=eD (looK nm d) (iM nm d)
 obj: (⟨looK nm d,iM nm d⟩:ObL)∈ru d
theorem uV {nm d:List UInt8} (h:iH nm d=true):LooI nm d:=by
 have ek:looK nm d=frK (looS d):=by unfold looK;rw[h,if_pos rfl]
 have et:iM nm d=(frT (looS d)).1:=by unfold iM;rw[h,if_pos rfl]
 have h0:=h
 unfold iH at h0
 simp only[Bool.and_eq_true,beq_iff_eq] at h0
 obtain⟨⟨⟨h1,h2⟩,h3⟩,h4⟩:=h0
 obtain⟨f1,f2⟩:=Nh h3
 obtain⟨dA,dL,hs⟩:4≤ (dX d).1.length∧(dX d).1.take 4= [83,76,79,49]∧looS d=(dX d).1.drop 4:=by
  unfold looS
  unfold cutV at h2 ⊢
  split at h2
  ·rename_i hc
   rw[if_pos hc]
   simp only[Bool.and_eq_true,beq_iff_eq,decide_eq_true_eq] at hc
   exact⟨hc.1,hc.2,rfl⟩
  ·cases h2
 have hu: (dX d).1=83::76::79::49::looS d:=by
  have e:=(List.take_append_drop 4 (dX d).1).symm
  rw[dL,←hs] at e
  exact e
 refine⟨by rw[ek,et];exact f1,by rw[ek,et];exact h4, ?_, ?_⟩
 ·rw[ek,et]
  unfold eD
  rw[f2,←hu,IN h1]
 ·rw[ek,et]
  unfold ru
  rw[if_pos ⟨h1,dA,dL,by rw[←hs];exact h3⟩,←hs]
  unfold jZ
  rw[h3]
  exact List.mem_singleton.2 rfl
theorem SM {k:Int} {t:List UInt8} (h:bS k t=true): (eD k t).length≤4200:=by
 obtain⟨h1,h2,h3⟩:=wi h
 obtain⟨c,hc,-⟩:=Bm ⟨h1,h2⟩
 have:=nY (t.length:Int)
 unfold eD dk eo
 rw[Hr,hc]
 simp only[List.length_cons,List.length_append,List.length_nil]
 omega
structure GotR where
 k:Int
 t:List UInt8
 e:Nat
def fA (S:DiskL) (x:IdL):GotR:=
 if(eh S aG (aK x.l)).2≠0 then⟨0,[],(eh S aG (aK x.l)).2⟩ else if iH (aK x.l) (eh S aG (aK x.l)).1=true then⟨looK (aK x.l) (eh S aG (aK x.l)).1,iM (aK x.l) (eh S aG (aK x.l)).1,0⟩ else⟨0,[],17⟩
structure PutR where
 x:IdL
 e:Nat
 S:DiskL
def putL (S:DiskL) (k:Int) (t:List UInt8):PutR:=
 if bS k t=false then⟨id0,1,S⟩ else if(fA S (idV k t)).e=0 then⟨idV k t,0,S⟩ else if(pubV S aG (aK (idV k t).l) (eD k t) true).1=0 then⟨idV k t,0,(pubV S aG (aK (idV k t).l) (eD k t) true).2⟩ else⟨id0,(pubV S aG (aK (idV k t).l) (eD k t) true).1,(pubV S aG (aK (idV k t).l) (eD k t) true).2⟩
def hexI (s:List UInt8):IdL:=⟨nc s,I3 s⟩
def looP (S:DiskL) (s:List UInt8):Bool:=mz s&& (fA S (hexI s)).e==0
def nZ (S:DiskL) (l:List (List UInt8)):List IdL:=(l.filter (looP S)).map hexI
def n3 (S:DiskL):List IdL:=nZ S (my S aG)
def jb:List IdL→DiskL→Nat×DiskL
 | [],S=>(0,S)
 |x::l,S=>if(ct S aG (aK x.l)).2≠0∧(ct S aG (aK x.l)).2≠6 then((ct S aG (aK x.l)).2,(ct S aG (aK x.l)).1) else jb l (ct S aG (aK x.l)).1
def py (l:List IdL) (S:DiskL):Nat×DiskL:=
 if(jb l S).1≠0 then jb l S else if l= [] then(0,(jb l S).2) else((fQ (jb l S).2 aG).2,(fQ (jb l S).2 aG).1)
theorem uI {S:DiskL} {k:Int} {t:List UInt8} (h:bS k t=true) (hr:eh S aG (aK (idV k t).l)=(eD k t,0)):fA S (idV k t)=⟨k,t,0⟩:=by
 obtain⟨h1,h2,h3⟩:=Ah h
 unfold fA
 rw[hr,if_neg (by simp),if_pos h1,h2,h3]
theorem Bi {S:DiskL} {x:IdL} (h: (fA S x).e=0): ∃d,eh S aG (aK x.l)=(d,0)∧iH (aK x.l) d=true∧fA S x=⟨looK (aK x.l) d,iM (aK x.l) d,0⟩:=by
 unfold fA at h ⊢
 generalize eh S aG (aK x.l)=q at h ⊢
 obtain⟨d,e⟩:=q
 simp only at h ⊢
 by_cases h0:e≠0
 ·rw[if_pos h0] at h
  exact absurd h h0
 ·obtain rfl:e=0:=by simpa using h0
  rw[if_neg h0] at h ⊢
  cases hl:iH (aK x.l) d with
  |false=>rw[hl,if_neg (by simp)] at h;cases h
  |true=>exact⟨d,rfl,hl,by rw[if_pos rfl]⟩
theorem Br {S:DiskL} {x:IdL} (h: (fA S x).e=0):bS (fA S x).k (fA S x).t=true∧idV (fA S x).k (fA S x).t=x:=by
 obtain⟨d,-,h2,h3⟩:=Bi h
 have hi:=uV h2
 rw[h3]
 exact⟨hi.right,qE hi.name⟩
theorem HL {S:DiskL} (hc:gw S) (x:IdL):eh S aG (aK x.l)=match bP S 0 (aK x.l) with|none=>([],6) |some d=>(d,0):=yn hc (dir:=aG) rfl (rZ x).1
theorem Pb {S:DiskL} (hc:gw S) {x:IdL} {d:List UInt8} (h:eh S aG (aK x.l)=(d,0)):bP S 0 (aK x.l)=some d:=by
 rw[HL hc] at h
 cases hv:bP S 0 (aK x.l) with
 |none=>rw[hv] at h;cases h
 |some d'=>rw[hv] at h;cases h;rfl
theorem Bw {S:DiskL} {x:IdL} (h:x∈n3 S): (fA S x).e=0:=by
 obtain⟨s,hs,rfl⟩:=List.mem_map.1 h
 have:=(List.mem_filter.1 hs).2
 unfold looP at this
 simp only[Bool.and_eq_true,beq_iff_eq] at this
 exact this.2
theorem Yk {all:List ObL}: ∀ {i:Nat} {had:List ObL},lT all i=some had→(∀j,j<i→kS (all.getD j ob0).k (all.getD j ob0).t=true→all.getD j ob0∈had)∧(∀p,p∈had→ ∀q,q∈had→(idQ p).l=(idQ q).l→p=q)
 |0,had,h=>by cases h;exact⟨fun j hj=>by omega,fun p hp=>by cases hp⟩
 |i+1,had,h=>by
  unfold lT at h
  cases hc:lT all i with
  |none=>rw[hc] at h;cases h
  |some Cz=>
   obtain⟨h1,h2⟩:=Yk hc
   rw[hc] at h
   simp only at h
   split at h
   ·rename_i hr
    split at h
    ·cases h
    ·rename_i hn
     cases h
     have aw: ∀p,p∈Cz→(idQ p).l≠ (idQ (all.getD i ob0)).l:=fun p hp e=>hn (List.any_eq_true.2 ⟨p,hp,by simpa using e⟩)
     refine⟨fun j hj Fx=> ?_,fun p hp q hq e=> ?_⟩
     ·by_cases nG:j=i
      ·subst nG;exact List.mem_append_right _ (List.mem_singleton.2 rfl)
      ·exact List.mem_append_left _ (h1 j (by omega) Fx)
     ·rcases List.mem_append.1 hp with hp|hp<;>rcases List.mem_append.1 hq with hq|hq
      ·exact h2 p hp q hq e
      ·rw[List.mem_singleton.1 hq] at e
       exact absurd e (aw p hp)
      ·rw[List.mem_singleton.1 hp] at e
       exact absurd e.symm (aw q hq)
      ·rw[List.mem_singleton.1 hp,List.mem_singleton.1 hq]
   ·rename_i hr
    cases h
    refine⟨fun j hj Fx=> ?_,h2⟩
    by_cases nG:j=i
    ·subst nG
     exact Classical.byContradiction fun hm=>hr ⟨Fx,hm⟩
    ·exact h1 j (by omega) Fx
theorem Ab {all:List ObL} (h:qC all=false) {a b:ObL} (ha:a∈all) (hb:b∈all) (ra:bS a.k a.t=true) (rb:bS b.k b.t=true) (iP:idV a.k a.t=idV b.k b.t):a=b:=by
 unfold qC at h
 cases hc:lT all all.length with
 |none=>rw[hc] at h;cases h
 |some had=>
  obtain⟨h1,h2⟩:=Yk hc
  have hm: ∀ {c:ObL},c∈all→bS c.k c.t=true→c∈had:=fun{c} hc hr=>by
   obtain⟨j,hj,e⟩:=List.mem_iff_getElem.1 hc
   have e2:all.getD j ob0=c:=by rw[List.getD_eq_getElem?_getD,List.getElem?_eq_getElem hj];exact e
   have:=h1 j hj (by rw[e2,←Gw];exact hr)
   rw[e2] at this
   exact this
  refine h2 a (hm ha ra) b (hm hb rb) ?_
  have hq: ∀ {c:ObL},bS c.k c.t=true→(idQ c).l=(idV c.k c.t).l:=fun{c} hr=>by
   have e:idV c.k c.t=⟨Dig.shaR (dk c.k c.t),rW _⟩:=if_pos hr
   rw[e]
   exact congrArg Dig.shaR (Eb hr)
  rw[hq ra,hq rb,iP]
end Go.Proofs
end
section
open Go Go.Proofs Go.Sx Go.StP Go.Dig
namespace Go.Proofs
set_option maxRecDepth 10000
set_option maxHeartbeats 1000000
set_option linter.unusedSimpArgs false
theorem Og {S:DiskL} (ok:DkOk S) (dir nm:List UInt8): (eh S dir nm).1.length≤1048576:=by
 unfold eh
 split
 ·simp
 ·cases hb: (bv dir).bind fun k=>aR (S.dir k).seen nm with
  |none=>simp
  |some n=>
   simp only
   rw[List.getD_eq_getElem?_getD]
   cases hf:S.files[n]? with
   |none=>simp[dw]
   |some f=>exact(ok.file f (List.mem_of_getElem? hf)).1
set_option linter.defProp false
def fD:=And.intro (And.intro (And.intro (@jV) (@jY)) (And.intro (@jX) (@jW))) (And.intro (And.intro (@Sx.tup2_0) (@Sx.tup2_1)) (And.intro (@ay) (And.intro (@ax) (@pC))))
theorem wV (w:World) (G:DkG) (S:DiskL) (x:IdL) (hD:DkW w G S) (ok:DkOk S) (hC:GlobC w) (hE:GlobE w):
  Rets Tryz.prog 62 #[vp G.bd 0, .agg (a8 x.l)] w (fun v D=>v= .tuple #[obV (fA S x).k (fA S x).t,vi ((fA S x).e:Nat)]∧D= []):=by
 have hx:=x.h
 have gp: (aK x.l).length=64:=by rw[pw,x.h]
 have lQ:=Og ok aG (aK x.l)
 have pf:fW (cg Tryz.prog 82) (am Tryz.prog 82) []=some (obV 0 []):=id (by kernel_rfl)
 refine Rets.enterV Tryz.func62 rfl (rs:= [.cell 4 82, .tmp 5]) Tryz.results62 Tryz.ntmps62 ?_
 refine kf ?_
 first|with_reducible refine ks [] @fD ?_|refine kp @fD ?_
 refine Ow.box rfl rfl fun b3 ed gI=> ?_
 simp only[d9,cu,d8,aV,List.nil_append]
 refine ko @fD ?_
 refine Ow.alloc rfl rfl eb fun b4 gS dg=> ?_
 simp only[aV,List.nil_append,List.cons_append]
 have Fc:b3<b4:=ae gS (by simp[keys])
 have eI:New w.heap.size [(b3,Obj.cells (a8 x.l) 84 (0,0)),(b4,Obj.cells #[vi 0,vs []] 82 (0,0))]:=⟨gI,dg,trivial⟩
 refine ko @fD ?_
 first|with_reducible refine ks [] @fD ?_|refine kp @fD ?_
 refine Ow.callFV rfl Tryz.call52 (fun w' aB=>xi x.l hx w') ?_
 refine ko @fD ?_
 refine Ow.callFV rfl Tryz.call23 (fun w' aB=>Ys w' G S aG (aK x.l) (hD.old aB eI) (by omega)) ?_
 have hg:fA S x=(if(eh S aG (aK x.l)).2≠0 then⟨0,[],(eh S aG (aK x.l)).2⟩ else if iH (aK x.l) (eh S aG (aK x.l)).1=true then⟨looK (aK x.l) (eh S aG (aK x.l)).1,iM (aK x.l) (eh S aG (aK x.l)).1,0⟩ else⟨0,[],17⟩):=rfl
 rw[hg]
 clear hg
 generalize eh S aG (aK x.l)=q at*
 obtain⟨d,e⟩:=q
 simp only at lQ ⊢
 by_cases he:e≠0
 ·have e1:=kP he
  rw[if_pos he]
  refine ko @fD ?_
  first|with_reducible refine ks [] (And.intro @fD @e1) ?_|refine kp (And.intro @fD @e1) ?_
  refine Ow.build _ rfl pf ?_
  refine ko @fD ?_
  first|with_reducible refine ks [] @fD ?_|refine kp @fD ?_
  refine⟨_,(ke @fD),eI, ?_⟩
  rfl
 ·obtain rfl:e=0:=by simpa using he
  have e1: (((0:Nat):Int) !=0)=false:=rfl
  rw[if_neg he]
  refine ko @fD ?_
  first|with_reducible refine ks [] (And.intro @fD @e1) ?_|refine kp (And.intro @fD @e1) ?_
  refine Ow.callFV rfl Tryz.call52 (fun w' aB=>xi x.l hx w') ?_
  refine ko @fD ?_
  refine Ow.callFV rfl Tryz.call50 (fun w' aB=>LC (aK x.l) d w' (hC.of aB (eI.not (FH hC))) (hE.new aB eI) (by omega)) ?_
  refine ko @fD ?_
  refine Ow.alloc rfl rfl eb fun b8 jN oq=> ?_
  simp only[aV,List.nil_append,List.cons_append]
  have h38:b3<b8:=ae jN (by simp[keys])
  have h48:b4<b8:=ae jN (by simp[keys])
  have Fg:New w.heap.size [(b3,Obj.cells (a8 x.l) 84 (0,0)),(b4,Obj.cells #[vi 0,vs []] 82 (0,0)),(b8,Obj.cells #[vi (looK (aK x.l) d),vs (iM (aK x.l) d)] 82 (0,0))]:=⟨gI,dg,oq,trivial⟩
  refine ko @fD ?_
  cases gF:iH (aK x.l) d with
  |false=>
   rw[if_neg (by simp)]
   first|with_reducible refine ks [] @fD ?_|refine kp @fD ?_
   refine Ow.build _ rfl pf ?_
   refine ko @fD ?_
   first|with_reducible refine ks [] @fD ?_|refine kp @fD ?_
   refine⟨_,(ke @fD),Fg, ?_⟩
   rfl
  |true=>
   rw[if_pos rfl]
   first|with_reducible refine ks [] @fD ?_|refine kp @fD ?_
   refine⟨_,(ke @fD),Fg, ?_⟩
   rfl
end Go.Proofs
end
namespace Go.Sx
open Go
theorem Ext.perm {w:World} {X D D':aA} (h:Ext w X D) (hp:D'.Perm D):Ext w X D':=
 ⟨fun c hc=>h.new c ((hp.map Prod.fst).mem_iff.1 hc),fun c hc=>(hp.map Prod.fst).mem_iff.2 (h.all c hc)⟩
section
variable {P:Program} {w0:World} {f:Fr} {L:aA} {N:Fr→aA→Prop} {ops:Array Oper} {rest:List Oper} {md:Md} {d:Option Tmp} {ty:TypeId} {ps:String} {af:Array Edge} {g:Option (Nat×Bool)}
theorem Ow.callFnX2 {x y y2:Operand} {b b2:Value} {ts:Array TypeId} {k:FuncId} {X Y:aA} {S:Value→aA→Prop} {md':Md} (hL:L=X++Y) (he:md.turn=some md')
  (hs:bA ops f ⟨d, .call ⟨.value x, #[y,y2],ts⟩,ty,ps,af,g⟩=false)
  (hx:ev f x= .func (.func k) #[] #[]) (hy:ev f y=b) (xL:ev f y2=b2)
  (hk: ∀a w,(callFunc k a).run P w= .ok (.enter k a) w)
  (hc: ∀w,Hp w0 L w→(∀p,p∈X→w.heap[p.1]? =some p.2)→(keys X).Nodup→Rets P k #[b,b2] w (XS w X S))
  (hn: ∀v D,Came w0 L X D→S v D→Ow P w0 ops md' rest (aS f d v) (D++Y) N):
  Ow P w0 ops md (⟨d, .call ⟨.value x, #[y,y2],ts⟩,ty,ps,af,g⟩::rest) f L N:=by
 subst hL
 have bE: ∀w,Hp w0 (X++Y) w→(keys X).Nodup∧ ∀c,c∈keys Y→c∉keys X:=by
  intro w hw
  have:=hw.nodup
  rw[bM,List.nodup_append] at this
  exact⟨this.1,fun c hc hx=>this.2.2 c hx c hc rfl⟩
 refine Ow.call (S:=fun B v D=>((∀c,c∈keys D→c∈keys X∨B≤c)∧(∀c,c∈keys X→c∈keys D)∧S v D)∧ ∃w,Hp w0 (X++Y) w∧w.heap.size=B) he hs hx hk (fun w hw=> ?_) ?_
 ·show Rets P k (#[]++ #[y,y2].map (ev f)++ #[]) w _
  rw[show(#[]++ #[y,y2].map (ev f)++ #[]:Array Value)= #[b,b2] by simp[hy,xL]]
  refine Calls.mono (hc w hw (fun p hp=>hw.has _ _ (List.mem_append_left _ hp)) (bE w hw).1) ?_
  rintro e w' ⟨v,D,he,hp,hS⟩
  exact⟨v,D,he,hp,⟨hS.1.new,hS.1.all,hS.2⟩,w,hw,rfl⟩
 ·rintro B v D jM hB ⟨⟨h1,h2,h3⟩,w1,aF,Xs⟩
  refine⟨D++Y, ?_,hn v D ⟨fun c hc=>(h1 c hc).imp id fun h=>⟨gh fun b hb=>by have:=aF.lt hb;omega,by have:=aF.size;omega⟩,h2⟩ h3⟩
  intro w w' EE h k
  have ht:=h.trans k
  have hY: ∀c,c∈keys Y→c∉keys D:=by
   intro c hc hd
   rcases h1 c hd with hx|hx
   ·exact(bE w h).2 c hc hx
   ·have:=h.lt (b:=c) (by rw[bM];exact List.mem_append_right _ hc)
    omega
  have e1:X.filter (fun p=> !(keys D).contains p.1)= []:=by
   rw[List.filter_eq_nil_iff]
   intro p hp
   have:=h2 p.1 (List.mem_map.2 ⟨p,hp,rfl⟩)
   simpa using this
  have e2:Y.filter (fun p=> !(keys D).contains p.1)=Y:=xV hY
  rw[List.filter_append,e1,e2,List.nil_append] at ht
  refine ht.same (fun p=>by simp[or_comm]) ?_
  have:=ht.nodup
  rw[bM] at this ⊢
  exact(List.perm_append_comm.nodup_iff).1 this
end
end Go.Sx
section
open Go Go.Proofs Go.Sx Go.StP
namespace Go.Proofs
set_option maxRecDepth 10000
set_option maxHeartbeats 400000
set_option linter.unusedSimpArgs false
def tkO (t:TkL):Obj:= .cells #[vs t.dir,vs t.name,vs t.data, .bool t.light,vi (t.next:Int), .bool t.made, .bool t.ended] 193 (0,0)
theorem Aw (t:TkL) (n:Nat):aI (some (false,n)) (some (tkO t)) 0=some (vs t.dir):=(rfl)
theorem BE (t:TkL) (n:Nat):aI (some (false,n)) (some (tkO t)) 1=some (vs t.name):=(rfl)
theorem AI (t:TkL) (n:Nat):aI (some (false,n)) (some (tkO t)) 2=some (vs t.data):=(rfl)
theorem BH (t:TkL) (n:Nat):aI (some (false,n)) (some (tkO t)) 3=some (.bool t.light):=(rfl)
theorem Av (t:TkL) (n:Nat):aI (some (false,n)) (some (tkO t)) 4=some (vi (t.next:Int)):=(rfl)
theorem BG (t:TkL) (n:Nat):aI (some (false,n)) (some (tkO t)) 5=some (.bool t.made):=(rfl)
theorem Aa (t:TkL) (n:Nat):aI (some (false,n)) (some (tkO t)) 6=some (.bool t.ended):=(rfl)
theorem zk (t:TkL) (x:Nat) (a:Bool):ab (some (a,1)) (some (tkO t)) 4 (vi (x:Int))=some (tkO {t with next:=x}):=gj [vs t.dir,vs t.name,vs t.data, .bool t.light] [vi (t.next:Int)] [vi (x:Int)] [.bool t.made, .bool t.ended] a _ 193 rfl rfl rfl rfl rfl
theorem P6 (t:TkL) (x:Bool) (a:Bool):ab (some (a,1)) (some (tkO t)) 5 (.bool x)=some (tkO {t with made:=x}):=gj [vs t.dir,vs t.name,vs t.data, .bool t.light,vi (t.next:Int)] [.bool t.made] [.bool x] [.bool t.ended] a _ 193 rfl rfl rfl rfl rfl
theorem HJ (t:TkL) (x:Bool) (a:Bool):ab (some (a,1)) (some (tkO t)) 6 (.bool x)=some (tkO {t with ended:=x}):=gj [vs t.dir,vs t.name,vs t.data, .bool t.light,vi (t.next:Int), .bool t.made] [.bool t.ended] [.bool x] [] a _ 193 rfl rfl rfl rfl rfl
structure TkB (t:TkL):Prop where
 name:t.name.length≤900000
 data:t.data.length≤1000000
theorem wS {t:TkL} (h:TkB t): (ah t.name).length≤900004:=by
 unfold ah
 rw[List.length_append]
 have:=h.name
 simp
 omega
theorem DkA.step {X X':aA} {G G':DkG} {S S':DiskL} {N:Nat} {kind:Int} {dir name s:List UInt8} {e:Nat} (h:DkA X G S N) (hP:DkP X' G' S') (bF:StepD S kind dir name s S' e) (hn:name.length≤1000000) (hs:s.length≤1000000):DkA X' G' S' (N+1):=⟨hP,zK h.H bF,AQ h.B hn hs bF⟩
theorem DkA.up {X:aA} {G:DkG} {S:DiskL} {N:Nat} (h:DkA X G S N):DkA X G S (N+1):=⟨h.P,h.H,h.B.mono (Nat.le_succ N)⟩
def PhS (G:DkG) (bt:Nat) (r:PhR) (N:Nat) (v:Value) (D:aA):Prop:=v= .tuple #[.bool r.did,vi (r.e:Nat)]∧ ∃X' G',(X'++ [(bt,tkO r.t)]).Perm D∧G'.bd=G.bd∧DkA X' G' r.S N
theorem Vj (b o:Nat):aT Tryz.prog .eql 154 (vp b o) (.pointer none)=some (.bool false):=by
 simp[aT,eqX,eM,eA,Tryz.underlying154,vp]
theorem mC {X:aA} {bt:Nat} {t:TkL} (hn: (keys (X++ [(bt,tkO t)])).Nodup):bt∉keys X∧ ∀X' o,bt∉keys X'→ ∀w,aP w (X'++ [(bt,o)]) bt=some o:=by
 rw[bM,List.nodup_append] at hn
 refine⟨fun hm=>hn.2.2 bt hm bt (by simp[keys]) rfl,fun X' o h w=>aY (@Y3 _ [] _ _ h)⟩
set_option linter.defProp false
def bT:=And.intro (And.intro (And.intro (@ay) (And.intro (@ax) (@Aw))) (And.intro (And.intro (@BE) (@AI)) (And.intro (@BH) (@Av)))) (And.intro (And.intro (@BG) (And.intro (@Aa) (@zk))) (And.intro (And.intro (@P6) (@HJ)) (And.intro (@Sx.tup2_0) (@Sx.tup2_1))))
theorem MK (X:aA) (G:DkG) (S:DiskL) (N bt:Nat) (t:TkL) (w:World) (hX: ∀p,p∈X++ [(bt,tkO t)]→w.heap[p.1]? =some p.2) (hn: (keys (X++ [(bt,tkO t)])).Nodup) (hA:DkA X G S N) (hN:N<900000) (hB:TkB t):
  Rets Tryz.prog 195 #[vp bt 0,vp G.bd 0] w (XS w (X++ [(bt,tkO t)]) (PhS G bt (tK t S) (N+1))):=by
 refine Rets.enterX Tryz.func195 rfl (rs:= [.tmp 4, .tmp 5]) Tryz.results195 Tryz.ntmps195 hX hn ?_
 refine kf ?_
 have jl:=(mC hn).1
 have rdt:=(mC hn).2 X (tkO t) jl w
 have da:=wS hB
 have bE:t.name.length≤900000:=hB.name
 have jn:=hB.data
 have lO:=hA.pend (by omega)
 have og:=hA.used (by omega)
 unfold tK
 first|with_reducible refine ks [] @bT ?_|refine kp @bT ?_
 refine Cw.regionO [0,1,2,3,5,6,7,4,8,9,10,11,12,13,14,15] [] rfl (by kernel_rfl) (by kernel_rfl) ?_
 simp only[ap, ↓ao, ↓ac, ↓aj, ↓ai,ad]
 refine kq (And.intro @bT @rdt) ?_
 refine Ow.callFV rfl Tryz.call23 (fun w' aB=>Ys w' G S t.dir (ah t.name) ⟨X,fun b o hb=>aB.has b o (List.mem_append_left _ (cO hb)),hA.P⟩ (by omega)) ?_
 refine kq @bT ?_
 by_cases h0: (eh S t.dir (ah t.name)).2≠0
 ·have e1:=kP h0
  rw[if_pos h0]
  first|with_reducible refine ks [] (And.intro @bT @e1) ?_|refine kp (And.intro @bT @e1) ?_
  refine⟨_,(ke @bT), ?_⟩
  exact⟨Ext.refl w _,rfl,X,G,List.Perm.refl _,rfl,hA.up⟩
 ·have h0': (eh S t.dir (ah t.name)).2=0:=by simpa using h0
  have e1: (((eh S t.dir (ah t.name)).2:Int) !=0)=false:=by rw[h0'];rfl
  rw[if_neg h0]
  first|with_reducible refine ks [] (And.intro @bT @e1) ?_|refine kp (And.intro @bT @e1) ?_
  refine Cw.regionO [0,1,2,3,5,6,7,4,8,9,10,11,12] [10] rfl (by kernel_rfl) (by kernel_rfl) ?_
  simp only[ap, ↓ao, ↓ac, ↓aj, ↓ai,ad]
  refine kq (And.intro @bT @rdt) ?_
  refine Ow.callX (X:=X) (Y:= [(bt,tkO t)]) rfl rfl rfl Tryz.call77 (fun w' aB bD aw=>ZH X G S t.dir (ah t.name) w' bD aw hA.P (by omega) lO) (fun v4 D4 cv bK=> ?_)
  obtain⟨rfl,G',cW,mS⟩:=bK
  refine kq @bT ?_
  first|with_reducible refine ks [] @bT ?_|refine kp @bT ?_
  refine⟨_,(ke @bT), ?_⟩
  exact⟨(Ext.refl w _).came cv,rfl,D4,G',List.Perm.refl _,cW,hA.step mS (wY S _ _ []) (by omega) (Nat.zero_le _)⟩
theorem IQ (X:aA) (G:DkG) (S:DiskL) (N bt:Nat) (t:TkL) (w:World) (hX: ∀p,p∈X++ [(bt,tkO t)]→w.heap[p.1]? =some p.2) (hn: (keys (X++ [(bt,tkO t)])).Nodup) (hA:DkA X G S N) (hN:N<900000) (hB:TkB t):
  Rets Tryz.prog 196 #[vp bt 0,vp G.bd 0] w (XS w (X++ [(bt,tkO t)]) (PhS G bt (u6 t S) (N+1))):=by
 refine Rets.enterX Tryz.func196 rfl (rs:= [.tmp 4, .tmp 5]) Tryz.results196 Tryz.ntmps196 hX hn ?_
 refine kf ?_
 have jl:=(mC hn).1
 have rdt:=(mC hn).2 X (tkO t) jl w
 have da:=wS hB
 have bE:t.name.length≤900000:=hB.name
 have jn:=hB.data
 have lO:=hA.pend (by omega)
 have og:=hA.used (by omega)
 unfold u6
 first|with_reducible refine ks [2] @bT ?_|refine kp @bT ?_
 refine Cw.regionO [0,1,2,3,5,6,7,4,8,9,10,11] [10] rfl (by kernel_rfl) (by kernel_rfl) ?_
 simp only[ap, ↓ao, ↓ac, ↓aj, ↓ai,ad]
 refine kq (And.intro @bT @rdt) ?_
 refine Ow.callX (X:=X) (Y:= [(bt,tkO t)]) rfl rfl rfl Tryz.call72 (fun w' aB bD aw=>JB X G S t.dir (ah t.name) w' bD aw hA.P (by omega) lO) (fun v4 D4 cv bK=> ?_)
 obtain⟨rfl,G',cW,mS⟩:=bK
 refine kq @bT ?_
 refine Cw.permL (M:=(bt,tkO t)::D4) (by classical exact List.perm_iff_count.2 fun a=>by simp only[List.count_append,List.count_cons,List.count_nil]<;>omega) ?_
 have pL:=hA.step mS (GW S _ _ []) (by omega) (Nat.zero_le _)
 have hE:=(Ext.refl w (X++ [(bt,tkO t)])).came cv
 generalize jU S t.dir (ah t.name)=q at*
 obtain⟨S',e⟩:=q
 simp only at pL ⊢
 have hi: ((e:Int)==0)=(e==0):=by
  cases e with
  |zero=>rfl
  |succ n=>rfl
 first|with_reducible refine ks [] (And.intro @bT @hi) ?_|refine kp (And.intro @bT @hi) ?_
 refine⟨_,(ke @bT), ?_⟩
 exact⟨(hE.perm (List.perm_append_comm (l₁:= [(bt,tkO t)]) (l₂:=D4))).keys rfl,rfl,D4,G',List.perm_append_comm (l₁:=D4) (l₂:= [_]),cW,pL⟩
theorem IC (X:aA) (G:DkG) (S:DiskL) (N bt:Nat) (t:TkL) (w:World) (hX: ∀p,p∈X++ [(bt,tkO t)]→w.heap[p.1]? =some p.2) (hn: (keys (X++ [(bt,tkO t)])).Nodup) (hA:DkA X G S N) (hN:N<900000) (hB:TkB t):
  Rets Tryz.prog 197 #[vp bt 0,vp G.bd 0] w (XS w (X++ [(bt,tkO t)]) (PhS G bt (uG t S) (N+1))):=by
 refine Rets.enterX Tryz.func197 rfl (rs:= [.tmp 4, .tmp 5]) Tryz.results197 Tryz.ntmps197 hX hn ?_
 refine kf ?_
 have jl:=(mC hn).1
 have rdt:=(mC hn).2 X (tkO t) jl w
 have da:=wS hB
 have bE:t.name.length≤900000:=hB.name
 have jn:=hB.data
 have lO:=hA.pend (by omega)
 have og:=hA.used (by omega)
 unfold uG
 first|with_reducible refine ks [] @bT ?_|refine kp @bT ?_
 refine Cw.regionO [0,1,2,3,5,6,7,10,11,12,4,8,9,13,14,15,16] [14] rfl (by kernel_rfl) (by kernel_rfl) ?_
 simp only[ap, ↓ao, ↓ac, ↓aj, ↓ai,ad]
 refine kq (And.intro @bT @rdt) ?_
 refine Ow.callX (X:=X) (Y:= [(bt,tkO t)]) rfl rfl rfl Tryz.call73 (fun w' aB bD aw=>If X G S t.dir (ah t.name) t.data w' bD aw hA.P (by omega) (by omega) og) (fun v4 D4 cv bK=> ?_)
 obtain⟨rfl,mS⟩:=bK
 refine kq @bT ?_
 first|with_reducible refine ks [] @bT ?_|refine kp @bT ?_
 refine⟨_,(ke @bT), ?_⟩
 exact⟨(Ext.refl w _).came cv,rfl,D4,G,List.Perm.refl _,rfl,hA.step mS (GM S _ _ _) (by omega) (by omega)⟩
theorem KW (X:aA) (G:DkG) (S:DiskL) (N bt:Nat) (t:TkL) (w:World) (hX: ∀p,p∈X++ [(bt,tkO t)]→w.heap[p.1]? =some p.2) (hn: (keys (X++ [(bt,tkO t)])).Nodup) (hA:DkA X G S N) (hN:N<900000) (hB:TkB t):
  Rets Tryz.prog 198 #[vp bt 0,vp G.bd 0] w (XS w (X++ [(bt,tkO t)]) (PhS G bt (o7 t S) (N+1))):=by
 refine Rets.enterX Tryz.func198 rfl (rs:= [.tmp 4, .tmp 5]) Tryz.results198 Tryz.ntmps198 hX hn ?_
 refine kf ?_
 have jl:=(mC hn).1
 have rdt:=(mC hn).2 X (tkO t) jl w
 have da:=wS hB
 have bE:t.name.length≤900000:=hB.name
 have jn:=hB.data
 have lO:=hA.pend (by omega)
 have og:=hA.used (by omega)
 unfold o7
 by_cases hl:t.light=true
 ·rw[if_pos hl]
  first|with_reducible refine ks [] (And.intro @bT (And.intro @rdt (@hl))) ?_|refine kp (And.intro @bT (And.intro @rdt (@hl))) ?_
  refine⟨_,(ke @bT), ?_⟩
  exact⟨Ext.refl w _,rfl,X,G,List.Perm.refl _,rfl,hA.up⟩
 ·rw[if_neg hl]
  have lG:t.light=false:=by simpa using hl
  first|with_reducible refine ks [] (And.intro @bT (And.intro @rdt (@lG))) ?_|refine kp (And.intro @bT (And.intro @rdt (@lG))) ?_
  refine Cw.regionO [0,1,2,3,5,6,7,4,8,9,10,11,12] [10] rfl (by kernel_rfl) (by kernel_rfl) ?_
  simp only[ap, ↓ao, ↓ac, ↓aj, ↓ai,ad]
  refine kq (And.intro @bT @rdt) ?_
  refine Ow.callX (X:=X) (Y:= [(bt,tkO t)]) rfl rfl rfl Tryz.call20 (fun w' aB bD aw=>Yy X G S t.dir (ah t.name) w' bD aw hA.P (by omega)) (fun v4 D4 cv bK=> ?_)
  obtain⟨rfl,mS⟩:=bK
  refine kq @bT ?_
  first|with_reducible refine ks [] @bT ?_|refine kp @bT ?_
  refine⟨_,(ke @bT), ?_⟩
  exact⟨(Ext.refl w _).came cv,rfl,D4,G,List.Perm.refl _,rfl,hA.step mS (xY S _ _ []) (by omega) (Nat.zero_le _)⟩
theorem IJ (X:aA) (G:DkG) (S:DiskL) (N bt:Nat) (t:TkL) (w:World) (hX: ∀p,p∈X++ [(bt,tkO t)]→w.heap[p.1]? =some p.2) (hn: (keys (X++ [(bt,tkO t)])).Nodup) (hA:DkA X G S N) (hN:N<900000) (hB:TkB t):
  Rets Tryz.prog 200 #[vp bt 0,vp G.bd 0] w (XS w (X++ [(bt,tkO t)]) (PhS G bt (yC t S) (N+1))):=by
 refine Rets.enterX Tryz.func200 rfl (rs:= [.tmp 4, .tmp 5]) Tryz.results200 Tryz.ntmps200 hX hn ?_
 refine kf ?_
 have jl:=(mC hn).1
 have rdt:=(mC hn).2 X (tkO t) jl w
 have da:=wS hB
 have bE:t.name.length≤900000:=hB.name
 have jn:=hB.data
 have lO:=hA.pend (by omega)
 have og:=hA.used (by omega)
 unfold yC
 by_cases hl:t.light=true
 ·rw[if_pos hl]
  first|with_reducible refine ks [] (And.intro @bT (And.intro @rdt (@hl))) ?_|refine kp (And.intro @bT (And.intro @rdt (@hl))) ?_
  refine⟨_,(ke @bT), ?_⟩
  exact⟨Ext.refl w _,rfl,X,G,List.Perm.refl _,rfl,hA.up⟩
 ·rw[if_neg hl]
  have lG:t.light=false:=by simpa using hl
  first|with_reducible refine ks [] (And.intro @bT (And.intro @rdt (@lG))) ?_|refine kp (And.intro @bT (And.intro @rdt (@lG))) ?_
  refine kq (And.intro @bT @rdt) ?_
  refine Ow.callX (X:=X) (Y:= [(bt,tkO t)]) rfl rfl rfl Tryz.call21 (fun w' aB bD aw=>YS X G S t.dir w' bD aw hA.P) (fun v4 D4 cv bK=> ?_)
  obtain⟨rfl,G',cW,mS⟩:=bK
  refine kq @bT ?_
  first|with_reducible refine ks [] @bT ?_|refine kp @bT ?_
  refine⟨_,(ke @bT), ?_⟩
  exact⟨(Ext.refl w _).came cv,rfl,D4,G',List.Perm.refl _,cW,hA.step mS (xj S _ [] []) (Nat.zero_le _) (Nat.zero_le _)⟩
theorem I2 (X:aA) (G:DkG) (S:DiskL) (N bt:Nat) (t:TkL) (w:World) (hX: ∀p,p∈X++ [(bt,tkO t)]→w.heap[p.1]? =some p.2) (hn: (keys (X++ [(bt,tkO t)])).Nodup) (hA:DkA X G S N) (hN:N<900000) (hB:TkB t):
  Rets Tryz.prog 199 #[vp bt 0,vp G.bd 0] w (XS w (X++ [(bt,tkO t)]) (PhS G bt (u4 t S) (N+1))):=by
 refine Rets.enterX Tryz.func199 rfl (rs:= [.tmp 4, .tmp 5]) Tryz.results199 Tryz.ntmps199 hX hn ?_
 refine kf ?_
 have jl:=(mC hn).1
 have rdt:=(mC hn).2 X (tkO t) jl w
 have da:=wS hB
 have bE:t.name.length≤900000:=hB.name
 have jn:=hB.data
 have lO:=hA.pend (by omega)
 have og:=hA.used (by omega)
 unfold u4
 first|with_reducible refine ks [2] @bT ?_|refine kp @bT ?_
 refine Cw.regionO [0,1,2,3,5,6,7,10,11,12,4,8,9,13,14,15] [14] rfl (by kernel_rfl) (by kernel_rfl) ?_
 simp only[ap, ↓ao, ↓ac, ↓aj, ↓ai,ad]
 refine kq (And.intro @bT @rdt) ?_
 refine Ow.callX (X:=X) (Y:= [(bt,tkO t)]) rfl rfl rfl Tryz.call76 (fun w' aB bD aw=>K0 X G S t.dir (ah t.name) t.name w' bD aw hA.P (by omega) (by omega) lO) (fun v4 D4 cv bK=> ?_)
 obtain⟨rfl,G',cW,mS⟩:=bK
 refine kq @bT ?_
 refine Cw.permL (M:=(bt,tkO t)::D4) (by classical exact List.perm_iff_count.2 fun a=>by simp only[List.count_append,List.count_cons,List.count_nil]<;>omega) ?_
 have pL:=hA.step mS (GR S _ _ _) (by omega) (by omega)
 have hE:=(Ext.refl w (X++ [(bt,tkO t)])).came cv
 generalize j8 S t.dir (ah t.name) t.name=q at*
 obtain⟨S',e⟩:=q
 simp only at pL ⊢
 have hi: ((e:Int) !=0)=(e !=0):=by
  cases e with
  |zero=>rfl
  |succ n=>rfl
 cases hm:t.made with
 |true=>
  rw[Bool.true_and]
  first|with_reducible refine ks [] (And.intro @bT (And.intro @hi (@hm))) ?_|refine kp (And.intro @bT (And.intro @hi (@hm))) ?_
  refine⟨_,(ke @bT), ?_⟩
  exact⟨(hE.perm (List.perm_append_comm (l₁:= [(bt,tkO t)]) (l₂:=D4))).keys rfl,rfl,D4,G',List.perm_append_comm (l₁:=D4) (l₂:= [_]),cW,pL⟩
 |false=>
  rw[Bool.false_and]
  first|with_reducible refine ks [] (And.intro @bT (And.intro @hi (@hm))) ?_|refine kp (And.intro @bT (And.intro @hi (@hm))) ?_
  refine⟨_,(ke @bT), ?_⟩
  exact⟨(hE.perm (List.perm_append_comm (l₁:= [(bt,tkO t)]) (l₂:=D4))).keys rfl,rfl,D4,G',List.perm_append_comm (l₁:=D4) (l₂:= [_]),cW,pL⟩
end Go.Proofs
end
section
open Go Go.Proofs Go.Sx Go.StP
namespace Go.Proofs
set_option maxRecDepth 10000
set_option maxHeartbeats 1000000
set_option linter.unusedSimpArgs false
def phF (n:Nat):FuncId:=match n with
 |0=>195
 |1=>196
 |2=>197
 |3=>198
 |4=>199
 |_=>200
def stV:List Value:= [.func (.func (phF 0)) #[] #[], .func (.func (phF 1)) #[] #[], .func (.func (phF 2)) #[] #[], .func (.func (phF 3)) #[] #[], .func (.func (phF 4)) #[] #[], .func (.func (phF 5)) #[] #[]]
def stO:Obj:= .cells stV.toArray 236 (0,0)
theorem U7 (n m:Nat) (h:n<6):aI (some (false,m)) (some stO) n=some (.func (.func (phF n)) #[] #[]):=by
 rcases(by omega:n=0∨n=1∨n=2∨n=3∨n=4∨n=5) with rfl|rfl|rfl|rfl|rfl|rfl<;>rfl
theorem T3 (n:Nat) (h:n<6) (X:aA) (G:DkG) (S:DiskL) (N bt:Nat) (t:TkL) (w:World) (hX: ∀p,p∈X++ [(bt,tkO t)]→w.heap[p.1]? =some p.2) (hn: (keys (X++ [(bt,tkO t)])).Nodup) (hA:DkA X G S N) (hN:N<900000) (hB:TkB t):
  Rets Tryz.prog (phF n) #[vp bt 0,vp G.bd 0] w (XS w (X++ [(bt,tkO t)]) (PhS G bt (phT n t S) (N+1))):=by
 rcases(by omega:n=0∨n=1∨n=2∨n=3∨n=4∨n=5) with rfl|rfl|rfl|rfl|rfl|rfl
 ·exact MK X G S N bt t w hX hn hA hN hB
 ·exact IQ X G S N bt t w hX hn hA hN hB
 ·exact IC X G S N bt t w hX hn hA hN hB
 ·exact KW X G S N bt t w hX hn hA hN hB
 ·exact I2 X G S N bt t w hX hn hA hN hB
 ·exact IJ X G S N bt t w hX hn hA hN hB
theorem U2 (n:Nat) (h:n<6): ∀a w,(callFunc (phF n) a).run Tryz.prog w= .ok (.enter (phF n) a) w:=by
 rcases(by omega:n=0∨n=1∨n=2∨n=3∨n=4∨n=5) with rfl|rfl|rfl|rfl|rfl|rfl
 ·exact Tryz.call195
 ·exact Tryz.call196
 ·exact Tryz.call197
 ·exact Tryz.call198
 ·exact Tryz.call199
 ·exact Tryz.call200
theorem IR (bt:Nat) (t:TkL) (w:World) (hX:w.heap[bt]? =some (tkO t)):Rets Tryz.prog 166 #[vp bt 0] w (fun v D=>v= .bool t.ended∧D= []):=by
 have da:=Vj bt 0
 refine Rets.enterV Tryz.func166 rfl (rs:= [.tmp 2]) Tryz.results166 Tryz.ntmps166 ?_
 refine kf ?_
 first|with_reducible refine ks [] (And.intro @hX @da) ?_|refine kp (And.intro @hX @da) ?_
 refine⟨_,(ke @Nat.add_zero),trivial, ?_⟩
 rfl
theorem QX:fW (cg Tryz.prog 236) (am Tryz.prog 236) [(0, .func (.func (phF 0)) #[] #[]),(1, .func (.func (phF 1)) #[] #[]),(2, .func (.func (phF 2)) #[] #[]),(3, .func (.func (phF 3)) #[] #[]),(4, .func (.func (phF 4)) #[] #[]),(5, .func (.func (phF 5)) #[] #[])]=some (.agg stV.toArray):=by
 rw[show cg Tryz.prog 236=some [(0,1),(1,1),(2,1),(3,1),(4,1),(5,1)] from id (by kernel_rfl),Tryz.zr236];rfl
theorem F7:ab (some (true,6)) (some (.cells #[.nilFunc, .nilFunc, .nilFunc, .nilFunc, .nilFunc, .nilFunc] 236 (0,0))) 0 (.agg stV.toArray)=some stO:=(rfl)
theorem MR (w:World):Rets Tryz.prog 167 #[] w (fun v D=>v= .agg stV.toArray∧D= []):=by
 refine Rets.enterV Tryz.func167 rfl (rs:= [.cell 0 236]) Tryz.results167 Tryz.ntmps167 ?_
 refine kf ?_
 first|with_reducible refine ks [] @Nat.add_zero ?_|refine kp @Nat.add_zero ?_
 refine Ow.alloc rfl rfl Tryz.zr236 fun b1 aQ aF=> ?_
 refine ko @Nat.add_zero ?_
 refine Ow.build (.agg stV.toArray) rfl QX ?_
 refine ko @F7 ?_
 first|with_reducible refine ks [] @F7 ?_|refine kp @F7 ?_
 refine⟨_,(ke @Nat.add_zero),⟨aF,trivial⟩, ?_⟩
 rfl
set_option linter.defProp false
def cC:=And.intro (And.intro (And.intro (@ay) (@ax)) (And.intro (@Aw) (And.intro (@BE) (@AI)))) (And.intro (And.intro (@BH) (And.intro (@Av) (@BG))) (And.intro (@Aa) (And.intro (@Sx.tup2_0) (@Sx.tup2_1))))
theorem ibeq (n k:Nat): ((n:Int)==(k:Int))=(n==k):=by
 rw[Bool.eq_iff_iff,beq_iff_eq,beq_iff_eq]
 omega
structure SG where
 lab:Nat
 did:Bool
 e:Nat
 t:TkL
 S:DiskL
 G:DkG
 X:aA
 b8:Nat
 c:Nat
def SJ (w:World) (L0:aA) (n bd bt N:Nat) (R:StR) (g:SG):Prop:=
 Ext w L0 ((bt,tkO g.t):: (g.b8,stO)::g.X)∧(keys ((bt,tkO g.t):: (g.b8,stO)::g.X)).Nodup∧n≤g.b8∧g.G.bd=bd∧DkA g.X g.G g.S (N+g.c)∧TkB g.t∧
 ((g.lab=0∧g.c+ (6 - g.t.next)≤6∧g.t.next<6∧fI (6 - g.t.next) g.t g.S=R)∨
 (g.lab=1∧g.c≤6∧ ∃r:PhR,g.t=nxT r∧g.S=r.S∧g.e=r.e∧gq r=R))
def SL (g:SG):Nat:=match g.lab with
 |0=>0
 |_=>1
theorem SL0 (a b c d e f g h):SL ⟨0,a,b,c,d,e,f,g,h⟩=0:=rfl
def SS (g:SG):List (Nat×Value):= [(6, .bool g.did),(7,vi (g.e:Nat)),(8,vp g.b8 0)]
def SH (bt:Nat) (g:SG):aA:=(bt,tkO g.t):: (g.b8,stO)::g.X
def StS (G:DkG) (bt:Nat) (R:StR) (N:Nat) (v:Value) (D:aA):Prop:=v= .tuple #[.bool R.done,vi (R.e:Nat)]∧ ∃X' G',(X'++ [(bt,tkO R.t)]).Perm D∧G'.bd=G.bd∧DkA X' G' R.S N
set_option maxHeartbeats 12000000 in
theorem O8 (X:aA) (G:DkG) (S:DiskL) (N bt:Nat) (t:TkL) (w:World) (hX: ∀p,p∈X++ [(bt,tkO t)]→w.heap[p.1]? =some p.2) (hn: (keys (X++ [(bt,tkO t)])).Nodup) (hA:DkA X G S N) (hN:N<800000) (hB:TkB t) (aO:t.ended=false→t.next<6):
  Rets Tryz.prog 129 #[vp bt 0,vp G.bd 0] w (XS w (X++ [(bt,tkO t)]) (StS G bt (fO t S) (N+7))):=by
 refine Rets.enterX Tryz.func129 rfl (rs:= [.tmp 4, .tmp 5]) Tryz.results129 Tryz.ntmps129 hX hn ?_
 refine kf ?_
 have jl:=(mC hn).1
 have rdt:=(mC hn).2 X (tkO t) jl w
 unfold fO
 first|with_reducible refine ks [] @cC ?_|refine kp @cC ?_
 refine Cw.scopeL (G:=SG) (fun g=>SL g) [9,10,4,5,6,7,11,8,13,14,15,16,17,18,19,20,21,12,22,23,24,25,26,27,28,29,30,31,32,33,34,35,36,37,38,39,40,41,42,43,44,45,46,47,48,49,50,51,52,53,54,55,56,57,58,59,60,61,62,63,64,65,66,67,68,69,70,71,72,73,74,75,76,77,78,79,80,81,82,83,84,85,86,87,88,89] (fun g=>SS g) (fun g=>SH bt g) (fun g=>SJ w (X++ [(bt,tkO t)]) w.heap.size G.bd bt N (if t.ended=true then⟨false,15,t,S⟩ else fI (6 - t.next) t S) g) (fun g=>(if g.lab=0 then 6 - g.t.next+1 else 0)) ?_ ?_ ?_
 ·intro g
  unfold SL
  split<;>rfl
 ·intro g j hg
  obtain⟨lab,did,e,t1,S1,G1,X1,b8,c⟩:=g
  obtain⟨hE,bE,jN,cW,fa,fK,hg⟩:=hg
  simp only at hE bE jN cW fa fK hg
  rcases hg with⟨rfl,hc,dO,hR⟩ | ⟨rfl,hc,r,rfl,rfl,rfl,hR⟩
  ·simp only[SL,SS,SH]
   simp only[kA,hasL,Bool.or_false,Bool.false_or,Bool.or_true,Bool.true_or,Nat.reduceBEq,beq_self_eq_true, ↓reduceIte,Bool.false_eq_true]
   refine kv ?_
   try with_reducible refine GL ?_
   have hk:=bE
   simp only[keys,List.map_cons,List.nodup_cons,List.mem_cons,not_or] at hk
   have ed:bt≠b8:=hk.1.1
   have aQ:bt∉keys X1:=hk.1.2
   have aZ:b8∉keys X1:=hk.2.1
   have rd8: ∀o w,aP w ((bt,o):: (b8,stO)::X1) b8=some stO:=fun o w=>aY (by simp[Sx.look,ed])
   have Fw: ∀m,lZ (.arr 6 m) (vp b8 0) (some (t1.next:Int))=some (vp b8 (t1.next*m.2)):=fun m=>by
    rw[YR _ _ _ _ _ ⟨by omega,by omega⟩];simp
   have rA: ∀m,aI (some (false,m)) (some stO) t1.next=some (.func (.func (phF t1.next)) #[] #[]):=fun m=>U7 _ m dO
   first|with_reducible refine ks [] (And.intro @cC (And.intro @rd8 (And.intro @Fw (@rA)))) ?_|refine kp (And.intro @cC (And.intro @rd8 (And.intro @Fw (@rA)))) ?_
   refine Ow.permL (M:=(X1++ [(bt,tkO t1)])++ [(b8,stO)]) (by classical exact List.perm_iff_count.2 fun a=>by simp only[List.count_append,List.count_cons,List.count_nil]<;>omega) ?_
   refine Ow.callFnX2 (X:=X1++ [(bt,tkO t1)]) (Y:= [(b8,stO)]) (b:=vp bt 0) (b2:=vp G.bd 0) rfl rfl rfl rfl rfl rfl (U2 t1.next dO) (fun w' aB bD aw=>by rw[←cW];exact T3 t1.next dO X1 G1 S1 (N+c) bt t1 w' bD aw fa (by omega) fK) (fun v4 D4 cv bK=> ?_)
   obtain⟨rfl,X2,G2,lN,cr,bz⟩:=bK
   obtain⟨oW,ly,sV,XY,G6,pb⟩:=nv t1.next t1 S1
   have dI:TkB (phT t1.next t1 S1).t:=⟨by rw[ly];exact fK.name,by rw[sV];exact fK.data⟩
   have Vz:TkB (nxT (phT t1.next t1 S1)):=⟨dI.name,dI.data⟩
   have ZW:TkB (gN (phT t1.next t1 S1)):=⟨dI.name,dI.data⟩
   obtain⟨q,hq⟩: ∃q,6 - t1.next=q+1:=⟨5 - t1.next,by omega⟩
   rw[hq] at hR
   replace hR: (if(phT t1.next t1 S1).e≠0 then gq (phT t1.next t1 S1)
    else if(phT t1.next t1 S1).did=false∧endT (nxT (phT t1.next t1 S1))=false then fI q (gN (phT t1.next t1 S1)) (phT t1.next t1 S1).S
    else⟨endT (nxT (phT t1.next t1 S1)),0,gN (phT t1.next t1 S1),(phT t1.next t1 S1).S⟩)=_:=hR
   generalize phT t1.next t1 S1=r at*
   have hp3: ((bt,tkO r.t):: (b8,stO)::X2).Perm (D4++ [(b8,stO)]):=(by simpa using(List.perm_append_comm (l₁:= [(bt,tkO r.t),(b8,stO)]) (l₂:=X2)): ((bt,tkO r.t):: (b8,stO)::X2).Perm (X2++ [(bt,tkO r.t),(b8,stO)])).trans (by simpa using lN.append_right [(b8,stO)])
   have cm:Ext w (X++ [(bt,tkO t)]) ((X1++ [(bt,tkO t1)])++ [(b8,stO)]):=hE.perm (by classical exact List.perm_iff_count.2 fun a=>by simp only[List.count_append,List.count_cons,List.count_nil]<;>omega)
   have cP:Ext w (X++ [(bt,tkO t)]) ((bt,tkO r.t):: (b8,stO)::X2):=(Ext.came cm cv).perm hp3
   refine Ow.permL hp3 ?_
   refine Ow.world fun w9 ED=> ?_
   have mZ: (keys ((bt,tkO r.t):: (b8,stO)::X2)).Nodup:=ED.nodup
   have cK: ∀a,ab (some (a,1)) (some (tkO r.t)) 4 (vi ((r.t.next:Int)+1))=some (tkO (nxT r)):=fun a=>zk r.t (r.t.next+1) a
   have hnx2:r.t.next<6:=by omega
   have ew:DkA (X2++ [(b8,stO)]) G2 r.S (N+7):=⟨bz.P.mono (X':=X2++ [(b8,stO)]) fun b o h=>bL h,bz.H,bz.B.mono (by omega)⟩
   refine ko @cC ?_
   by_cases he:r.e=0
   ·have e0: ((r.e:Int) !=0)=false:=by rw[he];rfl
    rw[if_neg (fun h=>h he)] at hR
    have dD: ∀a,ab (some (a,1)) (some (tkO (nxT r))) 6 (.bool (endT (nxT r)))=some (tkO (gN r)):=fun a=>HJ (nxT r) _ a
    have eQ: (gN r).ended=endT (nxT r):=rfl
    have mV:endT (nxT r)=((nxT r).next==6|| ((nxT r).light&& (nxT r).next==5)):=rfl
    have i6: (((nxT r).next:Int)==6)=((nxT r).next==6):=ibeq _ 6
    have i5: (((nxT r).next:Int)==5)=((nxT r).next==5):=ibeq _ 5
    cases c6: ((nxT r).next==6) with
    |true=>
     have h9:endT (nxT r)=true:=by rw[mV,c6];rfl
     rw[c6] at i6
     rw[h9] at dD eQ hR
     rw[if_neg (fun h=>by cases h.2)] at hR
     cases hd:r.did with
     |true=>
      first|with_reducible refine ks [] (And.intro @cC (And.intro @cK (And.intro @e0 (And.intro @dD (And.intro @i6 (@eQ)))))) ?_|refine kp (And.intro @cC (And.intro @cK (And.intro @e0 (And.intro @dD (And.intro @i6 (@eQ)))))) ?_
      refine⟨_,(ke @cC), ?_⟩
      rw[←hR]
      exact⟨cP.keys rfl,rfl,X2++ [(b8,stO)],G2,(by classical exact List.perm_iff_count.2 fun a=>by simp only[List.count_append,List.count_cons,List.count_nil]<;>omega),cr.trans cW,ew⟩
     |false=>
      first|with_reducible refine ks [] (And.intro @cC (And.intro @cK (And.intro @e0 (And.intro @dD (And.intro @i6 (@eQ)))))) ?_|refine kp (And.intro @cC (And.intro @cK (And.intro @e0 (And.intro @dD (And.intro @i6 (@eQ)))))) ?_
      refine⟨_,(ke @cC), ?_⟩
      rw[←hR]
      exact⟨cP.keys rfl,rfl,X2++ [(b8,stO)],G2,(by classical exact List.perm_iff_count.2 fun a=>by simp only[List.count_append,List.count_cons,List.count_nil]<;>omega),cr.trans cW,ew⟩
    |false=>
     have G5:r.t.next+1≠6:=beq_eq_false_iff_ne.1 c6
     rw[c6] at i6
     cases cl: (nxT r).light with
     |false=>
      have h9:endT (nxT r)=false:=by rw[mV,c6,cl];rfl
      rw[h9] at dD eQ hR
      cases hd:r.did with
      |true=>
       rw[hd,if_neg (fun h=>by cases h.1)] at hR
       first|with_reducible refine ks [] (And.intro @cC (And.intro @cK (And.intro @e0 (And.intro @dD (And.intro @i6 (And.intro @cl (@eQ))))))) ?_|refine kp (And.intro @cC (And.intro @cK (And.intro @e0 (And.intro @dD (And.intro @i6 (And.intro @cl (@eQ))))))) ?_
       refine⟨_,(ke @cC), ?_⟩
       rw[←hR]
       exact⟨cP.keys rfl,rfl,X2++ [(b8,stO)],G2,(by classical exact List.perm_iff_count.2 fun a=>by simp only[List.count_append,List.count_cons,List.count_nil]<;>omega),cr.trans cW,ew⟩
      |false=>
       rw[hd,if_pos ⟨rfl,rfl⟩] at hR
       first|with_reducible refine ks [] (And.intro @cC (And.intro @cK (And.intro @e0 (And.intro @dD (And.intro @i6 (And.intro @cl (@eQ))))))) ?_|refine kp (And.intro @cC (And.intro @cK (And.intro @e0 (And.intro @dD (And.intro @i6 (And.intro @cl (@eQ))))))) ?_
       exact Jump.mk ⟨0,false,r.e,gN r,r.S,G2,X2,b8,c+1⟩ rfl (by show 6 - (r.t.next+1)+1<6 - t1.next+1;omega) ⟨cP.keys rfl,mZ,jN,cr.trans cW,bz,ZW, .inl ⟨rfl,by show c+1+ (6 - (r.t.next+1))≤6;omega,by show r.t.next+1<6;omega,by show fI (6 - (r.t.next+1)) _ _=_;rw[show 6 - (r.t.next+1)=q by omega];exact hR⟩⟩ rfl rfl
     |true=>
      cases c5: ((nxT r).next==5) with
      |true=>
       have h9:endT (nxT r)=true:=by rw[mV,c6,cl,c5];rfl
       rw[c5] at i5
       rw[h9] at dD eQ hR
       rw[if_neg (fun h=>by cases h.2)] at hR
       cases hd:r.did with
       |true=>
        first|with_reducible refine ks [] (And.intro @cC (And.intro @cK (And.intro @e0 (And.intro @dD (And.intro @i6 (And.intro @i5 (And.intro @cl (@eQ)))))))) ?_|refine kp (And.intro @cC (And.intro @cK (And.intro @e0 (And.intro @dD (And.intro @i6 (And.intro @i5 (And.intro @cl (@eQ)))))))) ?_
        refine⟨_,(ke @cC), ?_⟩
        rw[←hR]
        exact⟨cP.keys rfl,rfl,X2++ [(b8,stO)],G2,(by classical exact List.perm_iff_count.2 fun a=>by simp only[List.count_append,List.count_cons,List.count_nil]<;>omega),cr.trans cW,ew⟩
       |false=>
        first|with_reducible refine ks [] (And.intro @cC (And.intro @cK (And.intro @e0 (And.intro @dD (And.intro @i6 (And.intro @i5 (And.intro @cl (@eQ)))))))) ?_|refine kp (And.intro @cC (And.intro @cK (And.intro @e0 (And.intro @dD (And.intro @i6 (And.intro @i5 (And.intro @cl (@eQ)))))))) ?_
        refine⟨_,(ke @cC), ?_⟩
        rw[←hR]
        exact⟨cP.keys rfl,rfl,X2++ [(b8,stO)],G2,(by classical exact List.perm_iff_count.2 fun a=>by simp only[List.count_append,List.count_cons,List.count_nil]<;>omega),cr.trans cW,ew⟩
      |false=>
       have h9:endT (nxT r)=false:=by rw[mV,c6,cl,c5];rfl
       rw[c5] at i5
       rw[h9] at dD eQ hR
       cases hd:r.did with
       |true=>
        rw[hd,if_neg (fun h=>by cases h.1)] at hR
        first|with_reducible refine ks [] (And.intro @cC (And.intro @cK (And.intro @e0 (And.intro @dD (And.intro @i6 (And.intro @i5 (And.intro @cl (@eQ)))))))) ?_|refine kp (And.intro @cC (And.intro @cK (And.intro @e0 (And.intro @dD (And.intro @i6 (And.intro @i5 (And.intro @cl (@eQ)))))))) ?_
        refine⟨_,(ke @cC), ?_⟩
        rw[←hR]
        exact⟨cP.keys rfl,rfl,X2++ [(b8,stO)],G2,(by classical exact List.perm_iff_count.2 fun a=>by simp only[List.count_append,List.count_cons,List.count_nil]<;>omega),cr.trans cW,ew⟩
       |false=>
        rw[hd,if_pos ⟨rfl,rfl⟩] at hR
        first|with_reducible refine ks [] (And.intro @cC (And.intro @cK (And.intro @e0 (And.intro @dD (And.intro @i6 (And.intro @i5 (And.intro @cl (@eQ)))))))) ?_|refine kp (And.intro @cC (And.intro @cK (And.intro @e0 (And.intro @dD (And.intro @i6 (And.intro @i5 (And.intro @cl (@eQ)))))))) ?_
        exact Jump.mk ⟨0,false,r.e,gN r,r.S,G2,X2,b8,c+1⟩ rfl (by show 6 - (r.t.next+1)+1<6 - t1.next+1;omega) ⟨cP.keys rfl,mZ,jN,cr.trans cW,bz,ZW, .inl ⟨rfl,by show c+1+ (6 - (r.t.next+1))≤6;omega,by show r.t.next+1<6;omega,by show fI (6 - (r.t.next+1)) _ _=_;rw[show 6 - (r.t.next+1)=q by omega];exact hR⟩⟩ rfl rfl
   ·have e0: ((r.e:Int) !=0)=true:=by
     rw[bne_iff_ne];omega
    rw[if_pos he] at hR
    first|with_reducible refine ks [] (And.intro @cC (And.intro @cK (@e0))) ?_|refine kp (And.intro @cC (And.intro @cK (@e0))) ?_
    exact Jump.mk ⟨1,r.did,r.e,nxT r,r.S,G2,X2,b8,c+1⟩ rfl (by show 0<6 - t1.next+1;omega) ⟨cP.keys rfl,mZ,jN,cr.trans cW,bz,Vz, .inr ⟨rfl,by show c+1≤6;omega,r,rfl,rfl,rfl,hR⟩⟩ rfl rfl
  ·simp only[SL,SS,SH]
   simp only[kA,hasL,Bool.or_false,Bool.false_or,Bool.or_true,Bool.true_or,Nat.reduceBEq,beq_self_eq_true, ↓reduceIte,Bool.false_eq_true]
   refine kv ?_
   try with_reducible refine GL ?_
   have hk:=bE
   simp only[keys,List.map_cons,List.nodup_cons,List.mem_cons,not_or] at hk
   have ed:bt≠b8:=hk.1.1
   have aQ:bt∉keys X1:=hk.1.2
   have aZ:b8∉keys X1:=hk.2.1
   have rd8: ∀o w,aP w ((bt,o):: (b8,stO)::X1) b8=some stO:=fun o w=>aY (by simp[Sx.look,ed])
   obtain⟨T1,wx⟩: ∃T1,T1=({nxT r with ended:=true}:TkL):=⟨_,rfl⟩
   have bF: ∀a,ab (some (a,1)) (some (tkO (nxT r))) 6 (.bool true)=some (tkO T1):=fun a=>by rw[wx];exact HJ (nxT r) true a
   have d1:T1.dir=r.t.dir:=by rw[wx];rfl
   have d2:T1.name=r.t.name:=by rw[wx];rfl
   have d3:T1.made=(nxT r).made:=by rw[wx]
   have hnd1:T1.name.length≤900000:=by rw[d2];exact fK.name
   have hBT: (ah T1.name).length≤900004:=by rw[d2];exact wS (t:=nxT r) fK
   have ew:DkA (X1++ [(b8,stO)]) G1 r.S (N+7):=⟨fa.P.mono (X':=X1++ [(b8,stO)]) fun b o h=>bL h,fa.H,fa.B.mono (by omega)⟩
   by_cases hm: (nxT r).made=true∧r.e≠9
   ·have m1:T1.made=true:=d3.trans hm.1
    have e9: ((r.e:Int) !=9)=true:=by
     rw[bne_iff_ne]
     have:=hm.2
     omega
    have hw:gq r=⟨false,r.e,T1,(jT r.S T1.dir (ah T1.name)).1⟩:=by
     unfold gq
     rw[if_pos hm,d1,d2,wx]
    first|with_reducible refine ks [] (And.intro @cC (And.intro @bF (And.intro @m1 (@e9)))) ?_|refine kp (And.intro @cC (And.intro @bF (And.intro @m1 (@e9)))) ?_
    refine Cw.permL (M:=X1++ [(bt,tkO T1),(b8,stO)]) (by classical exact List.perm_iff_count.2 fun a=>by simp only[List.count_append,List.count_cons,List.count_nil]<;>omega) ?_
    have rdT:aP w (X1++ [(bt,tkO T1),(b8,stO)]) bt=some (tkO T1):=aY (by rw[gi aQ];simp[Sx.look])
    have wA:=fun(w':World) (bD: ∀p,p∈X1→w'.heap[p.1]? =some p.2) (aw: (keys X1).Nodup)=>ZH X1 G1 r.S T1.dir (ah T1.name) w' bD aw fa.P (by omega) (fa.pend (by omega))
    simp only[cW] at wA
    refine Cw.regionO [0,1,2,3,5,6,7,4,8,9,10] [10] rfl (by kernel_rfl) (by kernel_rfl) ?_
    simp only[ap, ↓ao, ↓ac, ↓aj, ↓ai,ad]
    refine kq (And.intro @cC @rdT) ?_
    refine Ow.callX (X:=X1) (Y:= [(bt,tkO T1),(b8,stO)]) rfl rfl rfl Tryz.call77 (fun w' aB bD aw=>wA w' bD aw) (fun v4 D4 cv bK=> ?_)
    obtain⟨rfl,G',WI,mS⟩:=bK
    refine kq @cC ?_
    first|with_reducible refine ks [] @cC ?_|refine kp @cC ?_
    refine⟨_,(ke @cC), ?_⟩
    rw[←hR,hw]
    have i1:=fa.step mS (wY r.S T1.dir (ah T1.name) []) (by omega) (Nat.zero_le _)
    have cm:Ext w (X++ [(bt,tkO t)]) (X1++ [(bt,tkO T1),(b8,stO)]):=(hE.keys (D':=(bt,tkO T1):: (b8,stO)::X1) rfl).perm (by classical exact List.perm_iff_count.2 fun a=>by simp only[List.count_append,List.count_cons,List.count_nil]<;>omega)
    exact⟨cm.came cv,rfl,D4++ [(b8,stO)],G',(by classical exact List.perm_iff_count.2 fun a=>by simp only[List.count_append,List.count_cons,List.count_nil]<;>omega),WI,i1.P.mono (X':=D4++ [(b8,stO)]) fun b o h=>bL h,i1.H,i1.B.mono (by omega)⟩
   ·have hw:gq r=⟨false,r.e,T1,r.S⟩:=by
     unfold gq
     rw[if_neg hm,wx]
    by_cases fV: (nxT r).made=true
    ·have h9:r.e=9:=Decidable.byContradiction fun h=>hm ⟨fV,h⟩
     have m1:T1.made=true:=d3.trans fV
     have e9: ((r.e:Int) !=9)=false:=by rw[h9];rfl
     first|with_reducible refine ks [] (And.intro @cC (And.intro @bF (And.intro @m1 (@e9)))) ?_|refine kp (And.intro @cC (And.intro @bF (And.intro @m1 (@e9)))) ?_
     refine⟨_,(ke @cC), ?_⟩
     rw[←hR,hw]
     exact⟨hE.keys rfl,rfl,X1++ [(b8,stO)],G1,(by classical exact List.perm_iff_count.2 fun a=>by simp only[List.count_append,List.count_cons,List.count_nil]<;>omega),cW,ew⟩
    ·have m1:T1.made=false:=d3.trans (by simpa using fV)
     first|with_reducible refine ks [] (And.intro @cC (And.intro @bF (@m1))) ?_|refine kp (And.intro @cC (And.intro @bF (@m1))) ?_
     refine⟨_,(ke @cC), ?_⟩
     rw[←hR,hw]
     exact⟨hE.keys rfl,rfl,X1++ [(b8,stO)],G1,(by classical exact List.perm_iff_count.2 fun a=>by simp only[List.count_append,List.count_cons,List.count_nil]<;>omega),cW,ew⟩
 ·intro key
  repeat ((try with_reducible refine Cw.go [999999] ?_);(simp(disch:=(first|assumption|omega| (simp only[cT,cS,UInt64.reduceToNat];try omega))) only[↓Sx.S0,Sx.S1,Tryz.fx,cC,Nat.reduceAdd,Nat.reducePow,Int.reducePow,Nat.reduceBEq, ↓reduceIte,UInt8.reduceToNat,UInt16.reduceToNat,UInt32.reduceToNat,UInt64.reduceToNat,Int.reduceToNat]))
  refine Ow.callFV rfl Tryz.call166 (fun w' aB=>IR bt t w' (aB.has _ _ (List.mem_append_right _ (List.mem_singleton.2 rfl)))) ?_
  have htf:t.ended=true∨t.ended=false:=by cases t.ended<;>simp
  rcases htf with sY|sY
  ·refine ko (And.intro @cC @sY) ?_
   repeat ((try with_reducible refine Cw.go [999999] ?_);(simp(disch:=(first|assumption|omega| (simp only[cT,cS,UInt64.reduceToNat];try omega))) only[↓Sx.S0,Sx.S1,Tryz.fx,cC,Nat.reduceAdd,Nat.reducePow,Int.reducePow,Nat.reduceBEq, ↓reduceIte,UInt8.reduceToNat,UInt16.reduceToNat,UInt32.reduceToNat,UInt64.reduceToNat,Int.reduceToNat,sY]))
   refine⟨_,(ke @cC), ?_⟩
   rw[if_pos sY]
   exact⟨Ext.refl w _,rfl,X,G,List.Perm.refl _,rfl,hA.P,hA.H,hA.B.mono (by omega)⟩
  ·have r7: (if t.ended=true then(⟨false,15,t,S⟩:StR) else fI (6 - t.next) t S)=fI (6 - t.next) t S:=by rw[if_neg (by rw[sY];simp)]
   refine ko (And.intro @cC @sY) ?_
   repeat ((try with_reducible refine Cw.go [999999] ?_);(simp(disch:=(first|assumption|omega| (simp only[cT,cS,UInt64.reduceToNat];try omega))) only[↓Sx.S0,Sx.S1,Tryz.fx,cC,Nat.reduceAdd,Nat.reducePow,Int.reducePow,Nat.reduceBEq, ↓reduceIte,UInt8.reduceToNat,UInt16.reduceToNat,UInt32.reduceToNat,UInt64.reduceToNat,Int.reduceToNat,sY]))
   refine Ow.callFV rfl Tryz.call167 (fun w' aB=>MR w') ?_
   refine ko @cC ?_
   repeat ((try with_reducible refine Cw.go [999999] ?_);(simp(disch:=(first|assumption|omega| (simp only[cT,cS,UInt64.reduceToNat];try omega))) only[↓Sx.S0,Sx.S1,Tryz.fx,cC,Nat.reduceAdd,Nat.reducePow,Int.reducePow,Nat.reduceBEq, ↓reduceIte,UInt8.reduceToNat,UInt16.reduceToNat,UInt32.reduceToNat,UInt64.reduceToNat,Int.reduceToNat]))
   refine Ow.alloc rfl rfl Tryz.zr236 fun b8 jN oq=> ?_
   rw[aV]
   refine Ow.permL (M:=(b8, .cells #[.nilFunc, .nilFunc, .nilFunc, .nilFunc, .nilFunc, .nilFunc] 236 (0,0)):: (X++ [(bt,tkO t)])) (by classical exact List.perm_iff_count.2 fun a=>by simp only[List.count_append,List.count_cons,List.count_nil]<;>omega) ?_
   refine ko (And.intro @cC @F7) ?_
   repeat ((try with_reducible refine Cw.go [999999] ?_);(simp(disch:=(first|assumption|omega| (simp only[cT,cS,UInt64.reduceToNat];try omega))) only[↓Sx.S0,Sx.S1,Tryz.fx,cC,Nat.reduceAdd,Nat.reducePow,Int.reducePow,Nat.reduceBEq, ↓reduceIte,UInt8.reduceToNat,UInt16.reduceToNat,UInt32.reduceToNat,UInt64.reduceToNat,Int.reduceToNat]))
   refine Cw.permL (M:=(bt,tkO t):: (b8,stO)::X) (by classical exact List.perm_iff_count.2 fun a=>by simp only[List.count_append,List.count_cons,List.count_nil]<;>omega) ?_
   refine Cw.world fun w9 ED=> ?_
   have XE:=ED.nodup
   have key0:=fun f'=>key (⟨0,false,0,t,S,G,X,b8,0⟩) f'
   simp only[kA,hasL,Bool.or_false,Bool.false_or,Bool.or_true,Bool.true_or,Nat.reduceBEq,beq_self_eq_true, ↓reduceIte,Bool.false_eq_true] at key0
   clear key
   simp only[SL0,kA,hasL,Bool.or_false,Bool.false_or,Bool.or_true,Bool.true_or,Nat.reduceBEq,beq_self_eq_true, ↓reduceIte,Bool.false_eq_true] at key0
   refine Cw.label ?_
   refine key0 _ ?_ ?_
   ·refine⟨(((Ext.refl w (X++ [(bt,tkO t)])).app (o:=stO) oq).perm (by classical exact List.perm_iff_count.2 fun a=>by simp only[List.count_append,List.count_cons,List.count_nil]<;>omega)),XE,oq,rfl,hA,hB, .inl ⟨rfl,by show 0+ (6 - t.next)≤6;omega,aO sY,r7.symm⟩⟩
   ·rfl
end Go.Proofs
end
section
open Go Go.Proofs Go.Sx Go.StP
namespace Go.Proofs
set_option maxRecDepth 10000
set_option maxHeartbeats 1000000
set_option linter.unusedSimpArgs false
theorem tz: ∀ (f:Nat) (t:TkL) (S:DiskL),(fI f t S).t.name=t.name∧(fI f t S).t.data=t.data
 |0,_,_=>⟨rfl,rfl⟩
 |f+1,t,S=>by
  obtain⟨-,h2,h3,-⟩:=nv t.next t S
  have hw: (gq (phT t.next t S)).t.name=t.name∧(gq (phT t.next t S)).t.data=t.data:=by
   unfold gq
   split<;>exact⟨h2,h3⟩
  obtain⟨-,f2,f3,-⟩:=u7 t.next t S
  have ih:=tz f (gN (phT t.next t S)) (phT t.next t S).S
  rw[f2,f3] at ih
  unfold fI
  split
  ·exact hw
  ·split
   ·exact ih
   ·exact⟨f2,f3⟩
theorem U8 {t:TkL} (h:TkB t) (S:DiskL):TkB (fO t S).t:=by
 unfold fO
 split
 ·exact h
 ·exact⟨by rw[(tz _ t S).1];exact h.name,by rw[(tz _ t S).2];exact h.data⟩
theorem Oy {t:TkL} {S:DiskL} (he:t.ended=false) (hn:t.next<6): ((fO t S).done=true∨(fO t S).e≠0)∨((fO t S).t.ended=false∧t.next< (fO t S).t.next∧(fO t S).t.next<6):=by
 have hs:fO t S=fI (6 - t.next) t S:=by unfold fO;rw[if_neg (by rw[he];simp)]
 rw[hs]
 rcases uJ (6 - t.next) t S (by omega) (by omega) with⟨h1,-⟩ | ⟨-,h2,-⟩ | ⟨-,-,h3,h4,h5,-⟩
 ·exact .inl (.inr h1)
 ·exact .inl (.inl h2)
 ·exact .inr ⟨h3,h4,h5⟩
theorem Ua (f:Nat) (t:TkL) (S:DiskL):runG (f+1) t S=(if(fO t S).done=true∨(fO t S).e≠0 then((fO t S).e,(fO t S).t,(fO t S).S) else runG f (fO t S).t (fO t S).S):=rfl
set_option linter.defProp false
def kg:=And.intro (And.intro (@ay) (@ax)) (And.intro (@Sx.tup2_0) (@Sx.tup2_1))
structure RnG where
 f:Nat
 t:TkL
 S:DiskL
 G:DkG
 X:aA
def RnS (G:DkG) (bt:Nat) (R:Nat×TkL×DiskL) (N:Nat) (v:Value) (D:aA):Prop:=v=vi (R.1:Nat)∧ ∃X' G',(X'++ [(bt,tkO R.2.1)]).Perm D∧G'.bd=G.bd∧DkA X' G' R.2.2 N
theorem Rw (X:aA) (G:DkG) (S:DiskL) (N bt:Nat) (t:TkL) (w:World) (hX: ∀p,p∈X++ [(bt,tkO t)]→w.heap[p.1]? =some p.2) (hn: (keys (X++ [(bt,tkO t)])).Nodup) (hA:DkA X G S N) (hN:N<700000) (hB:TkB t) (he:t.ended=false) (aO:t.next<6):
  Rets Tryz.prog 94 #[vp G.bd 0,vp bt 0] w (XS w (X++ [(bt,tkO t)]) (RnS G bt (runG 6 t S) (N+42))):=by
 refine Rets.enterX Tryz.func94 rfl (rs:= [.tmp 4]) Tryz.results94 Tryz.ntmps94 hX hn ?_
 refine kf ?_
 first|with_reducible refine ks [] @kg ?_|refine kp @kg ?_
 refine Cw.loopG (G:=RnG) [8,9,10,7,11,12,5,6,13,14,15,16,17,18,4] (fun g=> []) (fun g=>g.X++ [(bt,tkO g.t)]) (fun g=>runG g.f g.t g.S=runG 6 t S∧6 - g.t.next≤g.f∧g.t.ended=false∧g.t.next<6∧g.G.bd=G.bd∧DkA g.X g.G g.S (N+7* (6 - g.f))∧TkB g.t∧g.f≤6∧Ext w (X++ [(bt,tkO t)]) (g.X++ [(bt,tkO g.t)])) (fun g=>g.f) ⟨6,t,S,G,X⟩ rfl rfl ?_ ?_
 ·exact⟨rfl,by show 6 - t.next≤6;omega,he,aO,rfl,hA,hB,Nat.le_refl 6,Ext.refl w _⟩
 ·intro g j hg
  refine kv ?_
  obtain⟨f,t1,S1,G1,X1⟩:=g
  obtain⟨hR,hf,mV,dO,cW,fa,fK,hf6,hE⟩:=hg
  simp only at hR hf mV dO cW fa fK hf6 hE
  obtain⟨f,rfl⟩: ∃q,f=q+1:=⟨f - 1,by omega⟩
  rw[Ua] at hR
  first|with_reducible refine ks [] @kg ?_|refine kp @kg ?_
  have wA:=fun(w':World) (bD: ∀p,p∈X1++ [(bt,tkO t1)]→w'.heap[p.1]? =some p.2) (aw: (keys (X1++ [(bt,tkO t1)])).Nodup)=>O8 X1 G1 S1 (N+7* (6 - (f+1))) bt t1 w' bD aw fa (by omega) fK (fun _=>dO)
  simp only[cW] at wA
  refine Ow.callX (X:=X1++ [(bt,tkO t1)]) (Y:= []) (List.append_nil _).symm rfl rfl Tryz.call129 (fun w' aB bD aw=>wA w' bD aw) (fun v4 D4 cv bK=> ?_)
  obtain⟨rfl,X2,G2,lN,cr,bz⟩:=bK
  rw[List.append_nil]
  have cP:=(hE.came0 cv).perm lN
  have bF:=Oy (S:=S1) mV dO
  have hsB:=U8 fK S1
  refine Ow.permL lN ?_
  generalize fO t1 S1=r at*
  have ew:DkA X2 G2 r.S (N+42):=⟨bz.P,bz.H,bz.B.mono (by omega)⟩
  by_cases hd:r.done=true
  ·rw[if_pos (.inl hd)] at hR
   refine ko (And.intro @kg @hd) ?_
   first|with_reducible refine ks [] (And.intro @kg @hd) ?_|refine kp (And.intro @kg @hd) ?_
   refine⟨_,(ke @kg), ?_⟩
   rw[←hR]
   exact⟨cP,rfl,X2,G2,List.Perm.refl _,cr.trans cW,ew⟩
  ·have iz:r.done=false:=by simpa using hd
   by_cases sN:r.e=0
   ·have e0: ((r.e:Int) !=0)=false:=by rw[sN];rfl
    rw[if_neg (fun h=>by rcases h with h|h;exact hd h;exact h sN)] at hR
    obtain⟨s1,s2,s3⟩:=bF.resolve_left (fun h=>by rcases h with h|h;exact hd h;exact h sN)
    refine ko (And.intro @kg (And.intro @iz (@e0))) ?_
    first|with_reducible refine ks [] (And.intro @kg (And.intro @iz (@e0))) ?_|refine kp (And.intro @kg (And.intro @iz (@e0))) ?_
    exact Again.mk ⟨f,r.t,r.S,G2,X2⟩ (Nat.lt_succ_self f) ⟨hR,by show 6 - r.t.next≤f;omega,s1,s3,cr.trans cW,⟨bz.P,bz.H,bz.B.mono (by show _≤N+7* (6 - f);omega)⟩,hsB,by show f≤6;omega,cP⟩ rfl rfl
   ·have e0: ((r.e:Int) !=0)=true:=by
     rw[bne_iff_ne];omega
    rw[if_pos (.inr sN)] at hR
    refine ko (And.intro @kg (And.intro @iz (@e0))) ?_
    first|with_reducible refine ks [] (And.intro @kg (And.intro @iz (@e0))) ?_|refine kp (And.intro @kg (And.intro @iz (@e0))) ?_
    refine⟨_,(ke @kg), ?_⟩
    rw[←hR]
    exact⟨cP,rfl,X2,G2,List.Perm.refl _,cr.trans cW,ew⟩
end Go.Proofs
end
section
open Go Go.Proofs Go.Sx Go.StP
namespace Go.Proofs
set_option maxRecDepth 10000
set_option maxHeartbeats 400000
set_option linter.unusedSimpArgs false
theorem Rs (dir name data:List UInt8) (light:Bool):fW (cg Tryz.prog 193) (am Tryz.prog 193) [(0,vs dir),(1,vs name),(2,vs data),(3, .bool light)]=some (.agg #[vs dir,vs name,vs data, .bool light,vi 0, .bool false, .bool false]):=by
 rw[show cg Tryz.prog 193=some [(0,1),(1,1),(2,1),(3,1),(4,1),(5,1),(6,1)] from id (by kernel_rfl),Tryz.zr193];rfl
theorem MN (dir name data:List UInt8) (light:Bool) (w:World):
  Rets Tryz.prog 95 #[vs dir,vs name,vs data, .bool light] w (fun v D=> ∃b,w.heap.size≤b∧v=vp b 0∧D= [(b,tkO (tk0 dir name data light))]):=by
 refine Rets.enter Tryz.func95 rfl (rs:= [.tmp 8]) Tryz.results95 Tryz.ntmps95 ?_
 refine kf ?_
 first|with_reducible refine ks [] @Nat.add_zero ?_|refine kp @Nat.add_zero ?_
 refine Ow.build (.agg #[vs dir,vs name,vs data, .bool light,vi 0, .bool false, .bool false]) rfl (Rs dir name data light) ?_
 refine Ow.box rfl rfl fun b1 aQ aF=> ?_
 refine ko @Nat.add_zero ?_
 first|with_reducible refine ks [] @Nat.add_zero ?_|refine kp @Nat.add_zero ?_
 exact⟨_,rfl,b1,aF,rfl,rfl⟩
end Go.Proofs
end
section
open Go Go.Proofs Go.Sx Go.StP
namespace Go.Proofs
set_option maxRecDepth 10000
set_option maxHeartbeats 1000000
set_option linter.unusedSimpArgs false
def PubS (G:DkG) (R:Nat×DiskL) (N:Nat) (v:Value) (D:aA):Prop:=v=vi (R.1:Nat)∧ ∃G',G'.bd=G.bd∧DkA D G' R.2 N
theorem ML (X:aA) (G:DkG) (S:DiskL) (N:Nat) (dir name data:List UInt8) (w:World) (hX: ∀p,p∈X→w.heap[p.1]? =some p.2) (hn: (keys X).Nodup) (hA:DkA X G S N) (hN:N<700000) (kG:name.length≤900000) (DT:data.length≤1000000):
  Rets Tryz.prog 39 #[vp G.bd 0,vs dir,vs name,vs data] w (XS w X (PubS G (pubV S dir name data true) (N+42))):=by
 have hB:TkB (tk0 dir name data true):=⟨kG,DT⟩
 refine Rets.enterX Tryz.func39 rfl (rs:= [.tmp 8]) Tryz.results39 Tryz.ntmps39 hX hn ?_
 refine kf ?_
 first|with_reducible refine ks [] @Nat.add_zero ?_|refine kp @Nat.add_zero ?_
 refine Ow.callF rfl rfl Tryz.call95 (S:=fun B v D=> ∃b',B≤b'∧v=vp b' 0∧D= [(b',tkO (tk0 dir name data true))]) (fun w' aB=>MN dir name data true w') ?_
 rintro B v D jM uu ⟨b1,aQ,rfl,rfl⟩
 refine⟨_,Mrg.fresh (by intro q hq;simp only[keys,List.map_cons,List.map_nil,List.mem_singleton] at hq;omega), ?_⟩
 refine Ow.callX (X:=X++ [(b1,tkO (tk0 dir name data true))]) (Y:= []) (List.append_nil _).symm rfl rfl Tryz.call94 (fun w' aB bD aw=>Rw X G S N b1 (tk0 dir name data true) w' bD aw hA hN hB rfl (Nat.succ_pos 5)) (fun v4 D4 cv bK=> ?_)
 obtain⟨rfl,X2,G2,lN,cr,bz⟩:=bK
 rw[List.append_nil]
 have cP:=(((Ext.refl w X).app (o:=tkO (tk0 dir name data true)) (by omega)).came0 cv).perm lN
 refine Ow.permL lN ?_
 have hr:=UH S dir name data true
 rw[←hr]
 refine ko @Nat.add_zero ?_
 first|with_reducible refine ks [] @Nat.add_zero ?_|refine kp @Nat.add_zero ?_
 refine⟨_,(ke @Nat.add_zero), ?_⟩
 exact⟨cP,rfl,G2,cr,bz.P.mono fun b o h=>bL h,bz.H,bz.B⟩
end Go.Proofs
end
section
open Go Go.Proofs Go.Sx Go.StP
namespace Go.Proofs
set_option maxRecDepth 10000
set_option maxHeartbeats 400000
set_option linter.unusedSimpArgs false
theorem uM {S:DiskL} (hB:DkB S) (dir:List UInt8): (my S dir).length≤1000000∧ ∀s,s∈my S dir→s.length≤1000000:=by
 unfold my
 split
 ·exact⟨Nat.zero_le _,fun s hs=>by cases hs⟩
 ·rename_i h
  obtain⟨k,hk,-⟩:=Eq (S:=S) (dir:=dir) (names:= []) (by omega)
  rw[hk]
  have aW:=(dH hk).1
  refine⟨by rw[List.length_map];exact(hB k aW).1,fun s hs=> ?_⟩
  obtain⟨p,hp,rfl⟩:=List.mem_map.1 hs
  exact(hB k aW).2 p hp
set_option linter.defProp false
theorem xN {A B:aA} (h: (keys (A++B)).Nodup) {b:Nat} {o:Obj} (hb:Sx.look B b=some o):Sx.look (A++B) b=some o:=by
 rw[bM,List.nodup_append] at h
 rw[gi fun hm=>h.2.2 b hm b (List.mem_map.2 ⟨_,cO hb,rfl⟩) rfl]
 exact hb
structure ClnM (N k M:Nat):Prop where
 z:k=0→M≤N
 o:k≤1→M≤2*N
 t:k≤2→M≤4*N
 e:M≤8*N
theorem ClnM.next {N k M m:Nat} (h:ClnM N k M) (hk:k<3) (hm:m≤M):ClnM N (k+1) (M+m):=by
 obtain⟨a,b,c,d⟩:=h
 exact⟨by omega,by omega,by omega,by omega⟩
set_option linter.defProp false
end Go.Proofs
end
section
open Go Go.Proofs Go.Sx Go.StP Go.Dig
namespace Go.Proofs
set_option maxRecDepth 10000
set_option maxHeartbeats 1000000
set_option linter.unusedSimpArgs false
structure GlbA (w:World) (m:Nat):Prop where
 C:GlobC w
 E:GlobE w
 D:l5 w
 le:m≤w.heap.size
 c: (2:Nat)<m
 e: (4:Nat)<m
 d: (0:Nat)<m
theorem GlbA.mk0 {w:World} (hC:GlobC w) (hE:GlobE w) (hD:l5 w):GlbA w w.heap.size:=by
 have h1:=FH hC
 obtain⟨e0,e1,f0,f1,h2,h3⟩:=id hE
 obtain⟨e,fz,h4⟩:=id hD
 exact⟨hC,hE,hD,Nat.le_refl _,h1,(Array.getElem?_eq_some_iff.1 h3).1,(Array.getElem?_eq_some_iff.1 h4).1⟩
theorem GlbA.of {w w':World} {L:aA} {m:Nat} (h:GlbA w m) (hw:Hp w L w') (hL: ∀b,b∈keys L→m≤b):GlbA w' m:=
 ⟨h.C.of hw fun hm=>by have:=hL _ hm;have:=h.c;omega,h.E.of hw fun b hb=>by have:=hL _ hb;have:=h.e;omega,by
  obtain⟨e,fz,h4⟩:=id h.D
  exact⟨e,fz,(hw.old _ (Array.getElem?_eq_some_iff.1 h4).1 fun hm=>by have:=hL _ hm;have:=h.d;omega).trans h4⟩,Nat.le_trans h.le hw.size,h.c,h.e,h.d⟩
theorem GlbA.new {w w':World} {L:aA} {m:Nat} (h:GlbA w m) (hw:Hp w L w') (hn:New w.heap.size L):GlbA w' m:=h.of hw fun b hb=>Nat.le_trans h.le (hn.le b hb)
theorem GlbA.ext {w w':World} {X L:aA} {m:Nat} (h:GlbA w m) (hX: ∀b,b∈keys X→m≤b) (hw:Hp w L w') (hE:Ext w X L):GlbA w' m:=h.of hw fun b hb=>(hE.new b hb).elim (hX b) fun hb=>Nat.le_trans h.le hb
theorem tN {w:World} {X D E:aA} (h:Ext w X D) (hk:keys E=keys D):Ext w X E:=⟨fun c hc=>h.new c (by rw[←hk];exact hc),fun c hc=>by rw[hk];exact h.all c hc⟩
theorem AV {w:World} {X D E:aA} (h:Ext w X D) (hN:New w.heap.size E):Ext w X (D++E):=
 ⟨fun c hc=>by
  rw[bM] at hc
  exact(List.mem_append.1 hc).elim (h.new c) fun hc=> .inr (hN.le c hc),fun c hc=>by rw[bM];exact List.mem_append_left _ (h.all c hc)⟩
def LpS (G:DkG) (R:PutR) (N:Nat) (v:Value) (D:aA):Prop:=v= .tuple #[.agg (a8 R.x.l),vi (R.e:Nat)]∧ ∃G',G'.bd=G.bd∧DkA D G' R.S N
set_option linter.defProp false
def dc:=And.intro (And.intro (And.intro (@jV) (@jY)) (And.intro (@jX) (@jW))) (And.intro (And.intro (@Sx.tup2_0) (@Sx.tup2_1)) (And.intro (@ay) (And.intro (@ax) (@pC))))
theorem yS (X:aA) (G:DkG) (S:DiskL) (N m:Nat) (k:Int) (t:List UInt8) (w:World) (hX: ∀p,p∈X→w.heap[p.1]? =some p.2) (hn: (keys X).Nodup) (hA:DkA X G S N) (hN:N<700000) (hG:GlbA w m) (hm: ∀b,b∈keys X→m≤b):
  Rets Tryz.prog 60 #[vp G.bd 0,obV k t] w (XS w X (LpS G (putL S k t) (N+42))):=by
 have pf:fW (cg Tryz.prog 84) (am Tryz.prog 84) []=some (.agg (a8 id0.l)):=id (by kernel_rfl)
 have r6:=id0.h
 have pc: ∀ {Y:aA} {G':DkG} {S':DiskL},DkA Y G' S' N→DkA Y G' S' (N+42):=fun h=>⟨h.P,h.H,h.B.mono (by omega)⟩
 refine Rets.enterX Tryz.func60 rfl (rs:= [.cell 4 84, .tmp 5]) Tryz.results60 Tryz.ntmps60 hX hn ?_
 refine kf ?_
 first|with_reducible refine ks [] @dc ?_|refine kp @dc ?_
 refine Ow.box rfl rfl fun b3 ed gI=> ?_
 simp only[d9,cu,d8,aV,List.nil_append,List.cons_append]
 refine Ow.permL (M:=(b3, .cells #[vi k,vs t] 82 (0,0))::X) (by classical exact List.perm_iff_count.2 fun a=>by simp only[List.count_append,List.count_cons,List.count_nil]<;>omega) ?_
 refine ko @dc ?_
 refine Ow.alloc rfl rfl iV fun b4 gS dg=> ?_
 simp only[aV,List.nil_append,List.cons_append]
 have Fc:b3<b4:=ae gS (by simp[keys])
 refine Ow.permL (M:=(b4, .cells (a8 id0.l) 84 (0,0)):: (b3, .cells #[vi k,vs t] 82 (0,0))::X) (by classical exact List.perm_iff_count.2 fun a=>by simp only[List.count_append,List.count_cons,List.count_nil]<;>omega) ?_
 have gQ:Ext w X ((b4, .cells (a8 id0.l) 84 (0,0)):: (b3, .cells #[vi k,vs t] 82 (0,0))::X):=xq (xq (Ext.refl w X) gI) dg
 have ew:=hA.mono fun b o h=>xP (x:= .cells #[vi k,vs t] 82 (0,0)) ed h
 have i1:=ew.mono fun b o h=>xP (x:= .cells (a8 id0.l) 84 (0,0)) gS h
 refine ko @dc ?_
 first|with_reducible refine ks [] @dc ?_|refine kp @dc ?_
 refine Ow.callFV rfl Tryz.call104 (fun w' aB=>Ax k t w' (hG.ext hm aB gQ).E) ?_
 refine ko @dc ?_
 refine Ow.alloc rfl rfl iV fun b6 pS j7=> ?_
 simp only[aV,List.nil_append,List.cons_append]
 have h36:b3<b6:=ae pS (by simp[keys])
 have h46:b4<b6:=ae pS (by simp[keys])
 refine Ow.permL (M:=(b6, .cells (a8 id0.l) 84 (0,0)):: (b4, .cells (a8 id0.l) 84 (0,0)):: (b3, .cells #[vi k,vs t] 82 (0,0))::X) (by classical exact List.perm_iff_count.2 fun a=>by simp only[List.count_append,List.count_cons,List.count_nil]<;>omega) ?_
 have hP:putL S k t=if bS k t=false then⟨id0,1,S⟩ else if(fA S (idV k t)).e=0 then⟨idV k t,0,S⟩ else if(pubV S aG (aK (idV k t).l) (eD k t) true).1=0 then⟨idV k t,0,(pubV S aG (aK (idV k t).l) (eD k t) true).2⟩ else⟨id0,(pubV S aG (aK (idV k t).l) (eD k t) true).1,(pubV S aG (aK (idV k t).l) (eD k t) true).2⟩:=rfl
 have r9:=fun h=>SM (k:=k) (t:=t) h
 generalize idV k t=x at*
 have hx:=x.h
 have gp: (aK x.l).length=64:=by rw[pw,x.h]
 have pO:Ext w X ((b6, .cells (a8 x.l) 84 (0,0)):: (b4, .cells (a8 id0.l) 84 (0,0)):: (b3, .cells #[vi k,vs t] 82 (0,0))::X):=xq gQ j7
 have Cj:=i1.mono fun b o h=>xP (x:= .cells (a8 x.l) 84 (0,0)) pS h
 refine ko @dc ?_
 cases hr:bS k t with
 |false=>
  rw[hr,if_pos rfl] at hP
  first|with_reducible refine ks [] @dc ?_|refine kp @dc ?_
  refine Ow.build _ rfl pf ?_
  refine ko @dc ?_
  first|with_reducible refine ks [] @dc ?_|refine kp @dc ?_
  refine⟨_,(ke @dc), ?_⟩
  rw[hP]
  exact⟨pO,rfl,G,rfl,pc Cj⟩
 |true=>
  rw[hr,if_neg (by simp)] at hP
  have pW:=r9 hr
  first|with_reducible refine ks [] @dc ?_|refine kp @dc ?_
  refine Ow.callFV rfl Tryz.call62 (fun w' aB=>wV w' G S x (Cj.P.world aB) Cj.P.ok (hG.ext hm aB pO).C (hG.ext hm aB pO).E) ?_
  generalize fA S x=g at*
  obtain⟨gk,gt,ge⟩:=g
  simp only at hP ⊢
  refine ko @dc ?_
  refine Ow.alloc rfl rfl eb fun b8 jN oq=> ?_
  simp only[aV,List.nil_append,List.cons_append]
  have h38:b3<b8:=ae jN (by simp[keys])
  have h48:b4<b8:=ae jN (by simp[keys])
  have h68:b6<b8:=ae jN (by simp[keys])
  refine Ow.permL (M:=(b8, .cells #[vi 0,vs []] 82 (0,0)):: (b6, .cells (a8 x.l) 84 (0,0)):: (b4, .cells (a8 id0.l) 84 (0,0)):: (b3, .cells #[vi k,vs t] 82 (0,0))::X) (by classical exact List.perm_iff_count.2 fun a=>by simp only[List.count_append,List.count_cons,List.count_nil]<;>omega) ?_
  refine Ow.world fun wz jw=> ?_
  have bE:=jw.nodup
  clear jw
  have ux:Ext w X ((b8, .cells #[vi gk,vs gt] 82 (0,0)):: (b6, .cells (a8 x.l) 84 (0,0)):: (b4, .cells (a8 id0.l) 84 (0,0)):: (b3, .cells #[vi k,vs t] 82 (0,0))::X):=xq pO oq
  have hA8:=Cj.mono fun b o h=>xP (x:= .cells #[vi gk,vs gt] 82 (0,0)) jN h
  refine ko @dc ?_
  by_cases he:ge=0
  ·subst he
   rw[if_pos rfl] at hP
   have e1: (((0:Nat):Int)==0)=true:=rfl
   first|with_reducible refine ks [] (And.intro @dc @e1) ?_|refine kp (And.intro @dc @e1) ?_
   refine⟨_,(ke @dc), ?_⟩
   rw[hP]
   exact⟨tN ux rfl,rfl,G,rfl,pc (hA.mono fun b o h=>xN (A:= [(b8, .cells #[vi gk,vs gt] 82 (0,0)),(b6, .cells (a8 x.l) 84 (0,0)),(b4, .cells (a8 x.l) 84 (0,0)),(b3, .cells #[vi k,vs t] 82 (0,0))]) bE h)⟩
  ·rw[if_neg he] at hP
   have e1: ((ge:Int)==0)=false:=beq_eq_false_iff_ne.2 (by omega)
   first|with_reducible refine ks [] (And.intro @dc @e1) ?_|refine kp (And.intro @dc @e1) ?_
   refine Ow.callC rfl rfl Tryz.call49 (fun w' aB=>Jl k t w' (hG.ext hm aB ux).C) (fun B9 v9 D9 ZT Fe Cn Fh=> ?_)
   rw[hr,if_pos rfl] at Fh
   subst Fh
   have vA:New w.heap.size D9:=Cn.mono Fe
   refine ko @dc ?_
   have W6:Ext w X (X++ ((b8, .cells #[vi gk,vs gt] 82 (0,0)):: (b6, .cells (a8 x.l) 84 (0,0)):: (b4, .cells (a8 id0.l) 84 (0,0)):: (b3, .cells #[vi k,vs t] 82 (0,0))::D9)):=(AV ux vA).perm (by classical exact List.perm_iff_count.2 fun a=>by simp only[List.count_append,List.count_cons,List.count_nil]<;>omega)
   first|with_reducible refine ks [] @dc ?_|refine kp @dc ?_
   refine Ow.callFV rfl Tryz.call52 (fun w' aB=>xi x.l hx w') ?_
   refine ko @dc ?_
   refine Ow.permL (M:=X++ ((b8, .cells #[vi gk,vs gt] 82 (0,0)):: (b6, .cells (a8 x.l) 84 (0,0)):: (b4, .cells (a8 id0.l) 84 (0,0)):: (b3, .cells #[vi k,vs t] 82 (0,0))::D9)) (by classical exact List.perm_iff_count.2 fun a=>by simp only[List.count_append,List.count_cons,List.count_nil]<;>omega) ?_
   refine Ow.callX (X:=X) (Y:=(b8, .cells #[vi gk,vs gt] 82 (0,0)):: (b6, .cells (a8 x.l) 84 (0,0)):: (b4, .cells (a8 id0.l) 84 (0,0)):: (b3, .cells #[vi k,vs t] 82 (0,0))::D9) rfl rfl rfl Tryz.call39 (fun w' aB bD aw=>ML X G S N aG (aK x.l) (eD k t) w' bD aw hA hN (by omega) (by omega)) (fun v4 D4 cv bK=> ?_)
   obtain⟨rfl,G',cW,pL⟩:=bK
   generalize pubV S aG (aK x.l) (eD k t) true=q at*
   obtain⟨e,S'⟩:=q
   simp only at hP pL ⊢
   have Ck:Ext w X ((b8, .cells #[vi gk,vs gt] 82 (0,0)):: (b6, .cells (a8 x.l) 84 (0,0)):: (b4, .cells (a8 id0.l) 84 (0,0)):: (b3, .cells #[vi k,vs t] 82 (0,0)):: (D4++D9)):=(W6.came cv).perm (by classical exact List.perm_iff_count.2 fun a=>by simp only[List.count_append,List.count_cons,List.count_nil]<;>omega)
   refine Ow.permL (M:=(b8, .cells #[vi gk,vs gt] 82 (0,0)):: (b6, .cells (a8 x.l) 84 (0,0)):: (b4, .cells (a8 id0.l) 84 (0,0)):: (b3, .cells #[vi k,vs t] 82 (0,0)):: (D4++D9)) (by classical exact List.perm_iff_count.2 fun a=>by simp only[List.count_append,List.count_cons,List.count_nil]<;>omega) ?_
   refine Ow.world fun wz jw=> ?_
   have mZ:=jw.nodup
   clear jw
   refine ko @dc ?_
   by_cases sN:e=0
   ·subst sN
    rw[if_pos rfl] at hP
    have e2: (((0:Nat):Int) !=0)=false:=rfl
    first|with_reducible refine ks [] (And.intro @dc @e2) ?_|refine kp (And.intro @dc @e2) ?_
    refine⟨_,(ke @dc), ?_⟩
    rw[hP]
    exact⟨tN Ck rfl,rfl,G',cW,pL.mono fun b o h=>xN (A:= [(b8, .cells #[vi gk,vs gt] 82 (0,0)),(b6, .cells (a8 x.l) 84 (0,0)),(b4, .cells (a8 x.l) 84 (0,0)),(b3, .cells #[vi k,vs t] 82 (0,0))]) mZ (bL h)⟩
   ·rw[if_neg sN] at hP
    have e2:=kP sN
    first|with_reducible refine ks [] (And.intro @dc @e2) ?_|refine kp (And.intro @dc @e2) ?_
    refine Ow.build _ rfl pf ?_
    refine ko @dc ?_
    first|with_reducible refine ks [] @dc ?_|refine kp @dc ?_
    refine⟨_,(ke @dc), ?_⟩
    rw[hP]
    exact⟨tN Ck rfl,rfl,G',cW,pL.mono fun b o h=>xN (A:= [(b8, .cells #[vi gk,vs gt] 82 (0,0)),(b6, .cells (a8 x.l) 84 (0,0)),(b4, .cells (a8 id0.l) 84 (0,0)),(b3, .cells #[vi k,vs t] 82 (0,0))]) mZ (bL h)⟩
end Go.Proofs
end
section
open Go Go.Proofs Go.Sx Go.StP Go.Dig
namespace Go.Proofs
set_option maxRecDepth 10000
set_option maxHeartbeats 1000000
set_option linter.unusedSimpArgs false
set_option linter.defProp false
def fX:=And.intro (And.intro (And.intro (@jV) (@jY)) (And.intro (@jX) (@jW))) (And.intro (And.intro (@Sx.tup2_0) (@Sx.tup2_1)) (And.intro (@ay) (And.intro (@ax) (@pC))))
def LsS (G:DkG) (R:Nat×DiskL) (N:Nat) (v:Value) (D:aA):Prop:=v=vi (R.1:Nat)∧ ∃G',G'.bd=G.bd∧DkA D G' R.2 N
structure SetG where
 i:Nat
 S:DiskL
 G:DkG
 X:aA
 DG:aA
theorem O7 {ids:List IdL} {i:Nat} (hi:i<ids.length) (S:DiskL):jb (ids.drop i) S=if(ct S aG (aK (ids.getD i id0).l)).2≠0∧(ct S aG (aK (ids.getD i id0).l)).2≠6 then((ct S aG (aK (ids.getD i id0).l)).2,(ct S aG (aK (ids.getD i id0).l)).1) else jb (ids.drop (i+1)) (ct S aG (aK (ids.getD i id0).l)).1:=by
 rw[HK (z:=id0) hi]
 rfl
theorem YO (X:aA) (G:DkG) (S:DiskL) (N:Nat) (v:Value) (ids:List IdL) (b off:Nat) (arr:Array Value) (E:TypeId) (fz:Nat×Nat) (w:World) (hX: ∀p,p∈X→w.heap[p.1]? =some p.2) (hn: (keys X).Nodup) (hA:DkA X G S N) (hN:N+ids.length<700000) (hr:RowS 32 eZ id0 w v ids b off arr E fz) (WP:0<ids.length→b<w.heap.size) (vI:0<ids.length→b∉keys X):
  Rets Tryz.prog 63 #[vp G.bd 0,v] w (XS w X (LsS G (py ids S) (N+ids.length+1))):=by
 have ln:=fun x=>hr.len x
 have hS:py ids S=if(jb ids S).1≠0 then jb ids S else if ids= [] then(0,(jb ids S).2) else((fQ (jb ids S).2 aG).2,(fQ (jb ids S).2 aG).1):=rfl
 refine Rets.enterX Tryz.func63 rfl (rs:= [.tmp 4]) Tryz.results63 Tryz.ntmps63 hX hn ?_
 refine kf ?_
 first|with_reducible refine ks [] (And.intro @fX @ln) ?_|refine kp (And.intro @fX @ln) ?_
 refine Cw.permL (M:=X++ []) (by rw[List.append_nil]) ?_
 refine Cw.loopG (G:=SetG) [11,12,13,6,14,15,16,17,7,18,19,20,21,22,23,24,4,25,10] (fun g=> [(10,vi g.i)]) (fun g=>g.X++g.DG) (fun g=>g.i≤ids.length∧jb (ids.drop g.i) g.S=jb ids S∧g.G.bd=G.bd∧DkA g.X g.G g.S (N+g.i)∧Ext w X (g.X++g.DG)) (fun g=>ids.length - g.i) ⟨0,S,G,X,[]⟩ rfl rfl ?_ ?_
 ·exact⟨Nat.zero_le _,rfl,rfl,hA,by rw[List.append_nil];exact Ext.refl w X⟩
 intro g j hg
 refine kv ?_
 clear hA
 obtain⟨i,S1,G1,X1,DG⟩:=g
 simp only at hg ⊢
 obtain⟨hi,hR,cW,fa,hE⟩:=hg
 rw[←cW]
 by_cases aD:i<ids.length
 ·have d1:decide ((i:Int)< (ids.length:Int))=true:=decide_eq_true (by omega)
  have h0:0<ids.length:=by omega
  have rC:b∉keys (X1++DG):=fun hm=>(hE.new b hm).elim (vI h0) fun h=>by have:=WP h0;omega
  have rd:aP w (X1++DG) b=some (.cells arr E fz):=by rw[lW rC];exact hr.has h0
  have ix:=hr.idx true i aD
  have ld:=rz hr aD
  rw[O7 aD] at hR
  generalize ids.getD i id0=x at*
  have hx:=x.h
  have gp: (aK x.l).length=64:=by rw[pw,x.h]
  first|with_reducible refine ks [] (And.intro @fX (And.intro @d1 (And.intro @ln (And.intro @ix (And.intro @rd (@ld)))))) ?_|refine kp (And.intro @fX (And.intro @d1 (And.intro @ln (And.intro @ix (And.intro @rd (@ld)))))) ?_
  refine Ow.alloc rfl rfl iV fun b6 pS j7=> ?_
  simp only[aV,List.nil_append,List.cons_append]
  refine Ow.permL (M:=(b6, .cells (a8 id0.l) 84 (0,0)):: (X1++DG)) (by classical exact List.perm_iff_count.2 fun a=>by simp only[List.count_append,List.count_cons,List.count_nil]<;>omega) ?_
  have r6:=id0.h
  have pO:Ext w X (X1++ ((b6, .cells (a8 x.l) 84 (0,0))::DG)):=(xq (o:= .cells (a8 x.l) 84 (0,0)) hE j7).perm (by classical exact List.perm_iff_count.2 fun a=>by simp only[List.count_append,List.count_cons,List.count_nil]<;>omega)
  refine ko @fX ?_
  first|with_reducible refine ks [] @fX ?_|refine kp @fX ?_
  refine Ow.callFV rfl Tryz.call52 (fun w' aB=>xi x.l hx w') ?_
  refine ko @fX ?_
  refine Ow.permL (M:=X1++ ((b6, .cells (a8 x.l) 84 (0,0))::DG)) (by classical exact List.perm_iff_count.2 fun a=>by simp only[List.count_append,List.count_cons,List.count_nil]<;>omega) ?_
  refine Ow.callX (X:=X1) (Y:=(b6, .cells (a8 x.l) 84 (0,0))::DG) rfl rfl rfl Tryz.call20 (fun w' aB bD aw=>Yy X1 G1 S1 aG (aK x.l) w' bD aw fa.P (by omega)) (fun v4 D4 cv bK=> ?_)
  obtain⟨rfl,co⟩:=bK
  have gQ:=pO.came cv
  have bz:=fa.step co (xY S1 aG (aK x.l) []) (by omega) (by simp)
  generalize ct S1 aG (aK x.l)=q at*
  obtain⟨S2,e⟩:=q
  simp only at hR bz ⊢
  by_cases he:e≠0∧e≠6
  ·have e1:=kP he.1
   have e2: ((e:Int) !=6)=true:=bne_iff_ne.2 (by have:=he.2;omega)
   rw[if_pos he] at hR
   rw[←hR,if_pos he.1] at hS
   refine ko @fX ?_
   first|with_reducible refine ks [] (And.intro @fX (And.intro @e1 (@e2))) ?_|refine kp (And.intro @fX (And.intro @e1 (@e2))) ?_
   refine⟨_,(ke @fX), ?_⟩
   rw[hS]
   refine⟨gQ,rfl,G1,cW, ?_⟩
   exact⟨bz.P.mono fun b o h=>bL h,bz.H,bz.B.mono (show N+i+1≤N+ids.length+1 by omega)⟩
  ·rw[if_neg he] at hR
   by_cases e0:e=0
   ·subst e0
    have e1: (((0:Nat):Int) !=0)=false:=rfl
    refine ko @fX ?_
    first|with_reducible refine ks [] (And.intro @fX @e1) ?_|refine kp (And.intro @fX @e1) ?_
    exact Again.mk ⟨i+1,S2,G1,D4,(b6, .cells (a8 x.l) 84 (0,0))::DG⟩ (by show ids.length - (i+1)<ids.length - i;omega) ⟨aD,hR,rfl,bz,gQ⟩ rfl rfl
   ·obtain rfl:e=6:=Classical.byContradiction fun h6=>he ⟨e0,h6⟩
    have e1: (((6:Nat):Int) !=0)=true:=rfl
    have e2: (((6:Nat):Int) !=6)=false:=rfl
    refine ko @fX ?_
    first|with_reducible refine ks [] (And.intro @fX (And.intro @e1 (@e2))) ?_|refine kp (And.intro @fX (And.intro @e1 (@e2))) ?_
    exact Again.mk ⟨i+1,S2,G1,D4,(b6, .cells (a8 x.l) 84 (0,0))::DG⟩ (by show ids.length - (i+1)<ids.length - i;omega) ⟨aD,hR,rfl,bz,gQ⟩ rfl rfl
 ·obtain rfl:i=ids.length:=by omega
  have d1:decide ((ids.length:Int)< (ids.length:Int))=false:=decide_eq_false (by omega)
  rw[List.drop_length] at hR
  have hR1:jb ids S=(0,S1):=hR.symm
  rw[hR1,if_neg (by simp)] at hS
  by_cases h0:ids.length=0
  ·have h1:ids= []:=List.length_eq_zero_iff.1 h0
   have e1: ((ids.length:Int)==0)=true:=by rw[h0];rfl
   rw[if_pos h1] at hS
   first|with_reducible refine ks [] (And.intro @fX (And.intro @d1 (And.intro @ln (@e1)))) ?_|refine kp (And.intro @fX (And.intro @d1 (And.intro @ln (@e1)))) ?_
   refine⟨_,(ke @fX), ?_⟩
   rw[hS]
   exact⟨hE,rfl,G1,cW,(fa.mono fun b o h=>bL h).up⟩
  ·have h1:ids≠ []:=fun h=>h0 (by rw[h];rfl)
   have e1: ((ids.length:Int)==0)=false:=beq_eq_false_iff_ne.2 (by omega)
   rw[if_neg h1] at hS
   first|with_reducible refine ks [] (And.intro @fX (And.intro @d1 (And.intro @ln (@e1)))) ?_|refine kp (And.intro @fX (And.intro @d1 (And.intro @ln (@e1)))) ?_
   refine Ow.callX (X:=X1) (Y:=DG) rfl rfl rfl Tryz.call21 (fun w' aB bD aw=>YS X1 G1 S1 aG w' bD aw fa.P) (fun v4 D4 cv bK=> ?_)
   obtain⟨rfl,G2,cr,co⟩:=bK
   have gQ:=hE.came cv
   refine ko @fX ?_
   first|with_reducible refine ks [] @fX ?_|refine kp @fX ?_
   refine⟨_,(ke @fX), ?_⟩
   rw[hS]
   exact⟨gQ,rfl,G2,cr.trans cW,(fa.step co (xj S1 aG [] []) (by simp) (by simp)).mono fun b o h=>bL h⟩
end Go.Proofs
end
section
open Go Go.Proofs Go.Sx Go.StP Go.Dig
namespace Go.Proofs
set_option maxRecDepth 10000
set_option maxHeartbeats 1000000
set_option linter.unusedSimpArgs false
theorem NY (S:DiskL) {nms:List (List UInt8)} {k:Nat} (h:k<nms.length):nZ S (nms.take (k+1))=nZ S (nms.take k)++ (if looP S (nms.getD k [])=true then [hexI (nms.getD k [])] else []):=by
 unfold nZ
 rw[StP.take_snoc (z:= []) h,List.filter_append,List.map_append]
 generalize nms.getD k []=s
 cases hp:looP S s<;>simp[hp]
theorem HM (S:DiskL) (l:List (List UInt8)): (nZ S l).length≤l.length:=by
 unfold nZ
 rw[List.length_map]
 exact List.length_filter_le _ _
structure LilG where
 i:Nat
 v:Value
 D:aA
 DG:aA
set_option linter.defProp false
def gK:=And.intro (And.intro (And.intro (@jV) (@jY)) (And.intro (@jX) (@jW))) (And.intro (And.intro (@Sx.tup2_0) (@Sx.tup2_1)) (And.intro (@ay) (And.intro (@ax) (@pC))))
theorem Hy (G:DkG) (S:DiskL) (m:Nat) (w:World) (hD:DkW w G S) (ok:DkOk S) (hB:DkB S) (hG:GlbA w m):
  Rets Tryz.prog 64 #[vp G.bd 0] w (XS w [] (fun v D=>GrI D 84 32 v (n3 S).length ((n3 S).map eZ).flatten)):=by
 have hLL:n3 S=nZ S (my S aG):=rfl
 have r9:=uM hB aG
 refine Rets.enterX Tryz.func64 rfl (rs:= [.tmp 2]) Tryz.results64 Tryz.ntmps64 (fun p hp=>by cases hp) (by simp[keys]) ?_
 refine kf ?_
 first|with_reducible refine ks [] @gK ?_|refine kp @gK ?_
 refine Ow.callC rfl rfl Tryz.call79 (fun w' aB=>yk w' G S aG (hD.old aB trivial) hB) (fun B3 v3 D3 ew n8 gR nE=> ?_)
 rw[←yy] at nE
 rw[List.nil_append]
 generalize my S aG=nms at*
 have o8:New w.heap.size D3:=gR.mono n8
 have ln3:=rk nE
 refine ko (And.intro @gK @ln3) ?_
 refine Cw.world fun w1 aF=> ?_
 obtain⟨rb,off,arr,E,fz,sV,bl⟩:=nE.rowL (z:= []) rfl aF As
 have rd3: ∀ (Y:aA),0<nms.length→aP w (D3++Y) rb=some (.cells arr E fz):=fun Y h0=>aY (bL (bl h0))
 clear aF bl
 refine Cw.permL (M:=D3++ ([]++ [])) (by simp) ?_
 refine Cw.loopG (G:=LilG) [14,15,16,5,18,19,17,20,21,6,7,22,23,25,26,27,24,28,29,8,9,30,31,32,33,34,35,3,36,13] (fun g=> [(3,g.v),(13,vi g.i)]) (fun g=>D3++ (g.D++g.DG)) (fun g=>g.i≤nms.length∧New w.heap.size g.D∧New w.heap.size g.DG∧Gr g.D 84 32 g.v (nZ S (nms.take g.i)).length ((nZ S (nms.take g.i)).map eZ).flatten) (fun g=>nms.length - g.i) ⟨0, .slice none 0 0,[],[]⟩ rfl rfl ?_ ?_
 ·exact⟨Nat.zero_le _,trivial,trivial,Gr.nl⟩
 intro g j hg
 refine kv ?_
 obtain⟨i,vo,D,DG⟩:=g
 simp only at hg ⊢
 obtain⟨hi,hN,bQ,fL⟩:=hg
 by_cases aD:i<nms.length
 ·have d1:decide ((i:Int)< (nms.length:Int))=true:=decide_eq_true (by omega)
  have ix3:=sV.idx false i aD
  have ld3:=fun n=>uA sV aD n
  have rdj:=rd3 (D++DG) (by omega)
  have fi:=NY S aD
  have cN:=r9.2 _ (nX (z:= []) aD)
  have lL:=HM S (nms.take i)
  rw[List.length_take,Nat.min_eq_left (by omega)] at lL
  have nI:=r9.1
  generalize nms.getD i []=s at*
  generalize nZ S (nms.take i)=os at*
  first|with_reducible refine ks [6,8] (And.intro @gK (And.intro @d1 (And.intro @ln3 (And.intro @ix3 (And.intro @rdj (@ld3)))))) ?_|refine kp (And.intro @gK (And.intro @d1 (And.intro @ln3 (And.intro @ix3 (And.intro @rdj (@ld3)))))) ?_
  refine Ow.callFV rfl Tryz.call114 (fun w' aB=>Mi s w') ?_
  have hxu:nc s=(hexI s).l:=rfl
  have kI:looP S s=(mz s&& (fA S (hexI s)).e==0):=rfl
  rw[hxu]
  generalize hexI s=x at*
  have hx:=x.h
  have r6:=id0.h
  refine ko @gK ?_
  refine Ow.alloc rfl rfl iV fun b6 pS j7=> ?_
  simp only[aV,List.nil_append,List.cons_append]
  refine Ow.permL (M:=(b6, .cells (a8 id0.l) 84 (0,0)):: (D3++ (D++DG))) (by classical exact List.perm_iff_count.2 fun a=>by simp only[List.count_append,List.count_cons,List.count_nil]<;>omega) ?_
  refine ko @gK ?_
  cases bX:mz s with
  |false=>
   rw[bX,Bool.false_and] at kI
   rw[kI,if_neg (by simp),List.append_nil] at fi
   refine Cw.permL (M:=D3++ (D++ ((b6, .cells (a8 x.l) 84 (0,0))::DG))) (by classical exact List.perm_iff_count.2 fun a=>by simp only[List.count_append,List.count_cons,List.count_nil]<;>omega) ?_
   first|with_reducible refine ks [] @gK ?_|refine kp @gK ?_
   exact Again.mk ⟨i+1,vo,D,(b6, .cells (a8 x.l) 84 (0,0))::DG⟩ (by show nms.length - (i+1)<nms.length - i;omega) ⟨aD,hN,⟨j7,bQ⟩,by rw[fi];exact fL⟩ rfl rfl
  |true=>
   rw[bX,Bool.true_and] at kI
   first|with_reducible refine ks [] @gK ?_|refine kp @gK ?_
   have jL:New w.heap.size ((b6,Obj.cells (a8 x.l) 84 (0,0)):: (D3++ (D++DG))):=⟨j7,o8.app (hN.app bQ)⟩
   refine Ow.callFV rfl Tryz.call62 (fun w' aB=>wV w' G S x (hD.old aB jL) ok (hG.new aB jL).C (hG.new aB jL).E) ?_
   generalize fA S x=q at*
   obtain⟨gk,gt,ge⟩:=q
   simp only at kI ⊢
   refine ko @gK ?_
   refine Ow.alloc rfl rfl eb fun b8 jN oq=> ?_
   simp only[aV,List.nil_append,List.cons_append]
   have h68:b6<b8:=ae jN (by simp[keys])
   refine Ow.permL (M:=(b8, .cells #[vi 0,vs []] 82 (0,0)):: (b6, .cells (a8 x.l) 84 (0,0)):: (D3++ (D++DG))) (by classical exact List.perm_iff_count.2 fun a=>by simp only[List.count_append,List.count_cons,List.count_nil]<;>omega) ?_
   refine ko @gK ?_
   by_cases he:ge=0
   ·subst he
    have e1: (((0:Nat):Int)==0)=true:=rfl
    rw[show((0:Nat)==0)=true from rfl] at kI
    rw[kI,if_pos rfl] at fi
    first|with_reducible refine ks [] (And.intro @gK @e1) ?_|refine kp (And.intro @gK @e1) ?_
    refine Ow.buildSlice (e:=84) (a8 x.l) rfl rfl (lV (cs:=x.l.map v8) Tryz.underlying106 pI iV (by decide) (by simp[x.h])) fun ba pT ou=> ?_
    refine ko @gK ?_
    refine Ow.permL (M:=D++ (D3++ ((b8, .cells #[vi gk,vs gt] 82 (0,0)):: (b6, .cells (a8 x.l) 84 (0,0)):: (ba, .cells (a8 x.l) 84 (0,0))::DG))) (by classical exact List.perm_iff_count.2 fun a=>by simp only[List.count_append,List.count_cons,List.count_nil]<;>omega) ?_
    refine Ow.appendXG (e:=84) (k:=1) (new:=eZ x) (X:=D) vo rfl rfl rfl rfl Tryz.underlying106 pI (by kernel_rfl) iV (by rw[aV,rj,id0.h]) Tryz.underlying106 (by intro k h;cases h) fL (fun w' aB=>AppX.one1 (by rw[qH];exact aB.has ba (.cells (a8 x.l) 84 (0,0)) (by simp)) (pn _) (Ev _)) (by omega) (fun B4 v4 D4 i1 pM sB Wc va Wr=> ?_)
    have eI:New w.heap.size D4:=New.of_le fun q hq=>by
     rcases va q hq with h|h
     ·exact hN.le q h
     ·omega
    refine Ow.permL (M:=D3++ (D4++ ((b8, .cells #[vi gk,vs gt] 82 (0,0)):: (b6, .cells (a8 x.l) 84 (0,0)):: (ba, .cells (a8 x.l) 84 (0,0))::DG))) (by classical exact List.perm_iff_count.2 fun a=>by simp only[List.count_append,List.count_cons,List.count_nil]<;>omega) ?_
    refine ko @gK ?_
    first|with_reducible refine ks [] @gK ?_|refine kp @gK ?_
    exact Again.mk ⟨i+1,v4,D4,(b8, .cells #[vi gk,vs gt] 82 (0,0)):: (b6, .cells (a8 x.l) 84 (0,0)):: (ba, .cells (a8 x.l) 84 (0,0))::DG⟩ (by show nms.length - (i+1)<nms.length - i;omega) ⟨aD,eI,⟨oq,j7,ou,bQ⟩,by rw[fi];simpa using sB⟩ rfl rfl
   ·have e1: ((ge:Int)==0)=false:=beq_eq_false_iff_ne.2 (by omega)
    rw[show(ge==0)=false from beq_eq_false_iff_ne.2 he] at kI
    rw[kI,if_neg (by simp),List.append_nil] at fi
    refine Cw.permL (M:=D3++ (D++ ((b8, .cells #[vi gk,vs gt] 82 (0,0)):: (b6, .cells (a8 x.l) 84 (0,0))::DG))) (by classical exact List.perm_iff_count.2 fun a=>by simp only[List.count_append,List.count_cons,List.count_nil]<;>omega) ?_
    first|with_reducible refine ks [] (And.intro @gK @e1) ?_|refine kp (And.intro @gK @e1) ?_
    exact Again.mk ⟨i+1,vo,D,(b8, .cells #[vi gk,vs gt] 82 (0,0)):: (b6, .cells (a8 x.l) 84 (0,0))::DG⟩ (by show nms.length - (i+1)<nms.length - i;omega) ⟨aD,hN,⟨oq,j7,bQ⟩,by rw[fi];exact fL⟩ rfl rfl
 ·obtain rfl:i=nms.length:=by omega
  have d1:decide ((nms.length:Int)< (nms.length:Int))=false:=decide_eq_false (by omega)
  rw[List.take_length,←hLL] at fL
  first|with_reducible refine ks [] (And.intro @gK (And.intro @d1 (@ln3))) ?_|refine kp (And.intro @gK (And.intro @d1 (@ln3))) ?_
  refine⟨_,(ke @gK), ?_⟩
  exact⟨Ext.of_new (o8.app (hN.app bQ)),fL.i fun p hp=>by simp[hp]⟩
end Go.Proofs
end
