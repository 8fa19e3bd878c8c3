/-
  Part 4 of the walk: contracts of the functions that the law reaches, and the calculus they stand on.
  No conditions.
-/
import Derived.Test.YtjjiclcgdngfdaaGreatDoorL3
import Derived.ProofKit
import Derived.OpenShut
import Derived.WideKeyArgs
import Derived.ChangeSame
import Derived.ChangeMaps5
import Derived.Lib.LaidTab
import Derived.SliceStrings
import Derived.DataReads
import Derived.Deep.Strs
section
open Go Go.Proofs Go.Sx Go.StP
namespace Go.Proofs
set_option maxRecDepth 10000
set_option maxHeartbeats 400000
set_option linter.unusedSimpArgs false
structure NdR where
 s:List UInt8
 n:Int
def ndC (r:NdR):List Value:= [vs r.s]++ ([vi r.n])
def nd0:NdR:=⟨[],0⟩
theorem afJ_ (r:NdR): (ndC r).length=2:=by simp[ndC]
theorem Xu_ (r:NdR):Value.cells (.agg (ndC r).toArray)=(ndC r).toArray:=zd_ _
theorem aqs_ (r:NdR): (ndC r).all Value.oneCell'=true:=by
 unfold ndC
 simp only[List.all_append,List.all_cons,List.all_nil,wg_,Bool.and_true,Bool.true_and]
 rfl
theorem asN_ (r:NdR):ndC r=([]:List Value)++ (([vs r.s])++ ([vi r.n])):=by
 unfold ndC;simp only[List.append_assoc,List.nil_append,List.append_nil]
theorem aha_ (r:NdR) (n:Nat) (E:TypeId) (fz:Nat×Nat):zo_ (some (false,n)) (some (.cells (ndC r).toArray E fz)) 0=some (vs r.s):=by
 rw[asN_];exact zN_ _ _ _ n E fz (by simp)
theorem arZ_ (r:NdR):ndC r=(([vs r.s]))++ (([vi r.n])++ (([]:List Value))):=by
 unfold ndC;simp only[List.append_assoc,List.nil_append,List.append_nil]
theorem ahh_ (r:NdR) (n:Nat) (E:TypeId) (fz:Nat×Nat):zo_ (some (false,n)) (some (.cells (ndC r).toArray E fz)) 1=some (vi r.n):=by
 rw[arZ_];exact zN_ _ _ _ n E fz (by simp)
theorem amk_ (r:NdR) (E:TypeId) (fz:Nat×Nat):zo_ (some (true,2)) (some (.cells (ndC r).toArray E fz)) 0=some (.agg (ndC r).toArray):=jG_ _ E fz 2 (by rw[List.size_toArray,afJ_])
theorem aoJ_ (old:Array Value) (r:NdR) (a:Bool) (E:TypeId) (h:old.size=2):zn_ (some (a,2)) (some (.cells old E (0,0))) 0 (.agg (ndC r).toArray)=some (.cells (ndC r).toArray E (0,0)):=jv_ _ a old E (afJ_ r) (aqs_ r) h
theorem alK_ (r r':NdR) (a:Bool) (E:TypeId):zn_ (some (a,2)) (some (.cells (ndC r').toArray E (0,0))) 0 (.agg (ndC r).toArray)=some (.cells (ndC r).toArray E (0,0)):=aoJ_ _ r a E (by rw[List.size_toArray,afJ_])
structure KcR where
 kind:Int
 a:List UInt8
 b:List UInt8
 n:Int
def kcC (r:KcR):List Value:= [vi r.kind]++ ([vs r.a]++ ([vs r.b]++ ([vi r.n])))
def kc0:KcR:=⟨0,[],[],0⟩
theorem aeS_ (r:KcR): (kcC r).length=4:=by simp[kcC]
theorem age_ (r:KcR):Value.cells (.agg (kcC r).toArray)=(kcC r).toArray:=zd_ _
theorem ap9_ (r:KcR): (kcC r).all Value.oneCell'=true:=by
 unfold kcC
 simp only[List.all_append,List.all_cons,List.all_nil,wg_,Bool.and_true,Bool.true_and]
 rfl
theorem akN_ (r:KcR):kcC r=([]:List Value)++ (([vi r.kind])++ ([vs r.a]++ ([vs r.b]++ ([vi r.n])))):=by
 unfold kcC;simp only[List.append_assoc,List.nil_append,List.append_nil]
theorem agn_ (r:KcR) (n:Nat) (E:TypeId) (fz:Nat×Nat):zo_ (some (false,n)) (some (.cells (kcC r).toArray E fz)) 0=some (vi r.kind):=by
 rw[akN_];exact zN_ _ _ _ n E fz (by simp)
theorem ajD_ (r:KcR) (x:Int) (a:Bool) (E:TypeId):zn_ (some (a,1)) (some (.cells (kcC r).toArray E (0,0))) 0 (vi x)=some (.cells (kcC {r with kind:=x}).toArray E (0,0)):=by
 rw[akN_ r,akN_ {r with kind:=x}];exact zy_ _ _ _ _ a _ E (by simp) rfl (rfl) rfl (rfl)
theorem alq_ (r:KcR):kcC r=(([vi r.kind]))++ (([vs r.a])++ ([vs r.b]++ ([vi r.n]))):=by
 unfold kcC;simp only[List.append_assoc,List.nil_append,List.append_nil]
theorem agC_ (r:KcR) (n:Nat) (E:TypeId) (fz:Nat×Nat):zo_ (some (false,n)) (some (.cells (kcC r).toArray E fz)) 1=some (vs r.a):=by
 rw[alq_];exact zN_ _ _ _ n E fz (by simp)
theorem akJ_ (r:KcR) (x:List UInt8) (a:Bool) (E:TypeId):zn_ (some (a,1)) (some (.cells (kcC r).toArray E (0,0))) 1 (vs x)=some (.cells (kcC {r with a:=x}).toArray E (0,0)):=by
 rw[alq_ r,alq_ {r with a:=x}];exact zy_ _ _ _ _ a _ E (by simp) rfl (rfl) rfl (rfl)
theorem ajy_ (r:KcR):kcC r=(([vi r.kind])++ ([vs r.a]))++ (([vs r.b])++ ([vi r.n])):=by
 unfold kcC;simp only[List.append_assoc,List.nil_append,List.append_nil]
theorem agR_ (r:KcR) (n:Nat) (E:TypeId) (fz:Nat×Nat):zo_ (some (false,n)) (some (.cells (kcC r).toArray E fz)) 2=some (vs r.b):=by
 rw[ajy_];exact zN_ _ _ _ n E fz (by simp)
theorem alz_ (r:KcR) (x:List UInt8) (a:Bool) (E:TypeId):zn_ (some (a,1)) (some (.cells (kcC r).toArray E (0,0))) 2 (vs x)=some (.cells (kcC {r with b:=x}).toArray E (0,0)):=by
 rw[ajy_ r,ajy_ {r with b:=x}];exact zy_ _ _ _ _ a _ E (by simp) rfl (rfl) rfl (rfl)
theorem alc_ (r:KcR):kcC r=(([vi r.kind])++ ([vs r.a])++ ([vs r.b]))++ (([vi r.n])++ (([]:List Value))):=by
 unfold kcC;simp only[List.append_assoc,List.nil_append,List.append_nil]
theorem agh_ (r:KcR) (n:Nat) (E:TypeId) (fz:Nat×Nat):zo_ (some (false,n)) (some (.cells (kcC r).toArray E fz)) 3=some (vi r.n):=by
 rw[alc_];exact zN_ _ _ _ n E fz (by simp)
theorem alW_ (r:KcR) (x:Int) (a:Bool) (E:TypeId):zn_ (some (a,1)) (some (.cells (kcC r).toArray E (0,0))) 3 (vi x)=some (.cells (kcC {r with n:=x}).toArray E (0,0)):=by
 rw[alc_ r,alc_ {r with n:=x}];exact zy_ _ _ _ _ a _ E (by simp) rfl (rfl) rfl (rfl)
theorem al9_ (r:KcR) (E:TypeId) (fz:Nat×Nat):zo_ (some (true,4)) (some (.cells (kcC r).toArray E fz)) 0=some (.agg (kcC r).toArray):=jG_ _ E fz 4 (by rw[List.size_toArray,aeS_])
theorem aof_ (old:Array Value) (r:KcR) (a:Bool) (E:TypeId) (h:old.size=4):zn_ (some (a,4)) (some (.cells old E (0,0))) 0 (.agg (kcC r).toArray)=some (.cells (kcC r).toArray E (0,0)):=jv_ _ a old E (aeS_ r) (ap9_ r) h
theorem akP_ (r r':KcR) (a:Bool) (E:TypeId):zn_ (some (a,4)) (some (.cells (kcC r').toArray E (0,0))) 0 (.agg (kcC r).toArray)=some (.cells (kcC r).toArray E (0,0)):=aof_ _ r a E (by rw[List.size_toArray,aeS_])
structure FdR where
 data:List UInt8
 stl:Int
def fdC (r:FdR):List Value:= [vs r.data]++ ([vi r.stl])
def fd0:FdR:=⟨[],0⟩
theorem af5_ (r:FdR):Value.cells (.agg (fdC r).toArray)=(fdC r).toArray:=zd_ _
def ndOf (p:List UInt8×Nat):NdR:=⟨p.1,(p.2:Int)⟩
def kcOf (c:CallL):KcR:=⟨(c.kind:Int),c.a,c.b,(c.n:Int)⟩
def fdOf (f:FileL):FdR:=⟨f.data,(f.stl:Int)⟩
abbrev NdSl (w:World) (v:Value) (l:NmL):Prop:=SlV 2 ndC nd0 w v (l.map ndOf)
def NdG (D:za_) (v:Value) (l:NmL):Prop:=GrI D 144 2 v (l.map ndOf).length ((l.map ndOf).map ndC).flatten
def auI_ (s:List UInt8):Int:=match zG_ s with|some k=>(k:Int) |none=> -1
def avz_:Obj:= .cells #[vs zg_,vs Zv_,vs refD] 9 (0,0)
set_option linter.defProp false
def avO_:=And.intro (@zc_) (@zb_)
def awW_ (l:NmL) (s:List UInt8):Int:=match zx_ l s with|some n=>(n:Int) |none=> -1
set_option linter.defProp false
def avU_:=And.intro (And.intro (@zc_) (@zb_)) (And.intro (@amk_) (@Xu_))
structure WoG where
 k:Nat
 o:NmL
 v:Value
 D:za_
 DG:za_
end Go.Proofs
end
section
open Go Go.Proofs Go.Sx Go.StP
namespace Go.Proofs
set_option maxRecDepth 10000
set_option maxHeartbeats 400000
set_option linter.unusedSimpArgs false
def insR (d:Bool) (r:NmL) (x:List UInt8×Nat):NmL:=if d=true then qL_ r x.1 else insN (qL_ r x.1) x
structure PuG where
 k:Nat
 d:Bool
 o:NmL
 v:Value
 D:za_
 DG:za_
set_option linter.defProp false
def av5_:=And.intro (And.intro (@zc_) (And.intro (@zb_) (@amk_))) (And.intro (@aha_) (And.intro (@ahh_) (@Xu_)))
set_option linter.defProp false
def awg_:=And.intro (And.intro (And.intro (@zc_) (@zb_)) (And.intro (@al9_) (@agn_))) (And.intro (And.intro (@agC_) (@agR_)) (And.intro (@agh_) (@age_)))
end Go.Proofs
end
section
open Go Go.Proofs Go.Sx Go.StP
namespace Go.Proofs
set_option maxRecDepth 10000
set_option maxHeartbeats 400000
set_option linter.unusedSimpArgs false
structure DcG where
 bd:Nat
 s:Nat→Value
 t:Nat→Value
 p:Nat→Value
 f:Value
def ajS_ (S:DiskL):Int:=if S.fused=true then S.fuse else -1
def dcO (G:DcG) (S:DiskL):Obj:= .cells #[G.s 0,G.t 0,G.p 0,G.s 1,G.t 1,G.p 1,G.s 2,G.t 2,G.p 2,G.f,vi S.max,vi (ajS_ S), .bool S.off] 60 (0,0)
def apv_ (c:CallL):CallL:=if c.kind=0 then⟨0,c.a,[],c.n⟩ else if c.kind=1 then⟨1,c.a,c.b,0⟩ else⟨2,c.a,[],0⟩
def NdP (X:za_) (v:Value) (l:NmL):Prop:=Gr X 144 2 v (l.map ndOf).length ((l.map ndOf).map ndC).flatten
def KcP (X:za_) (v:Value) (l:List CallL):Prop:=Gr X 150 4 v (l.map kcOf).length ((l.map kcOf).map kcC).flatten
def FdP (X:za_) (v:Value) (l:List FileL):Prop:=Gr X 141 2 v (l.map fdOf).length ((l.map fdOf).map fdC).flatten
structure DcP (X:za_) (G:DcG) (S:DiskL):Prop where
 disk:Sx.look X G.bd=some (dcO G S)
 seen: ∀k,k<3→NdP X (G.s k) (S.dir k).seen
 stl: ∀k,k<3→NdP X (G.t k) (S.dir k).stl
 pend: ∀k,k<3→ ∃pl:List CallL,pl.map apv_=(S.dir k).pend.map apv_∧KcP X (G.p k) pl
 files:FdP X G.f S.files
 pdis: ∀i j,i<3→j<3→i≠j→ ∀b,slB (G.p i)=some b→slB (G.p j)≠some b
def DcW (w:World) (G:DcG) (S:DiskL):Prop:= ∃X,(∀b o,Sx.look X b=some o→w.heap[b]? =some o)∧DcP X G S
theorem Gr.keepTy {X L:za_} {E:TypeId} {m n:Nat} {v:Value} {cs:List Value} (h:Gr X E m v n cs) {c:Nat} {oc:Obj} (hc:Sx.look X c=some oc) (ht:tyO oc≠some E) (keep: ∀b o,b≠c→Sx.look X b=some o→Sx.look L b=some o):Gr L E m v n cs:=h.keep fun b o hb ho=>keep b o (by
 rintro rfl
 obtain⟨arr,ha⟩:=Ja_ h hb
 rw[hc] at ha;cases ha;exact ht rfl) ho
theorem DcP.mono {X X':za_} {G:DcG} {S:DiskL} (h:DcP X G S) (hk: ∀b o,Sx.look X b=some o→Sx.look X' b=some o):DcP X' G S where
 disk:=hk _ _ h.disk
 seen k hk3:=(h.seen k hk3).keep fun b o _ ho=>hk b o ho
 stl k hk3:=(h.stl k hk3).keep fun b o _ ho=>hk b o ho
 pend k hk3:=by
  obtain⟨pl,h1,h2⟩:=h.pend k hk3
  exact⟨pl,h1,h2.keep fun b o _ ho=>hk b o ho⟩
 files:=h.files.keep fun b o _ ho=>hk b o ho
 pdis:=h.pdis
theorem DcP.world {X:za_} {G:DcG} {S:DiskL} {w0 w:World} (h:DcP X G S) (hw:Hp w0 X w):DcW w G S:=⟨X,fun _ _ hb=>hw.has _ _ (zB_ hb),h⟩
theorem DcW.old {w w':World} {L:za_} {G:DcG} {S:DiskL} (h:DcW w G S) (hw:Hp w L w') (hn:New w.heap.size L):DcW w' G S:=by
 obtain⟨X,hX,hP⟩:=h
 refine⟨X,fun b o hb=> ?_,hP⟩
 have hlt:=(Array.getElem?_eq_some_iff.1 (hX b o hb)).1
 exact(hw.old b hlt (hn.not hlt)).trans (hX b o hb)
theorem am0_ (G:DcG) (S:DiskL):tyO (dcO G S)=some 60:=rfl
theorem aoU_: (some 60:Option TypeId)≠some 144:=by decide
theorem ar9_: (some 60:Option TypeId)≠some 150:=by decide
theorem arT_: (some 60:Option TypeId)≠some 141:=by decide
theorem DcP.upd {X L:za_} {G G':DcG} {S S':DiskL} (h:DcP X G S) (hb:G'.bd=G.bd) (keep: ∀b o,b≠G.bd→Sx.look X b=some o→Sx.look L b=some o) (hd:Sx.look L G.bd=some (dcO G' S'))
  (hs: ∀k,k<3→(G'.s k=G.s k∧(S'.dir k).seen=(S.dir k).seen)∨NdP L (G'.s k) (S'.dir k).seen)
  (ht: ∀k,k<3→(G'.t k=G.t k∧(S'.dir k).stl=(S.dir k).stl)∨NdP L (G'.t k) (S'.dir k).stl)
  (hp: ∀k,k<3→(G'.p k=G.p k∧(S'.dir k).pend=(S.dir k).pend)∨(G'.p k= .slice none 0 0∧(S'.dir k).pend= []))
  (hf:G'.f=G.f∧S'.files=S.files):DcP L G' S' where
 disk:=by rw[hb];exact hd
 seen k hk:=by
  rcases hs k hk with⟨h1,h2⟩ |h1
  ·rw[h1,h2];exact Gr.keepTy (h.seen k hk) h.disk (by rw[am0_];exact aoU_) keep
  ·exact h1
 stl k hk:=by
  rcases ht k hk with⟨h1,h2⟩ |h1
  ·rw[h1,h2];exact Gr.keepTy (h.stl k hk) h.disk (by rw[am0_];exact aoU_) keep
  ·exact h1
 pend k hk:=by
  rcases hp k hk with⟨h1,h2⟩ | ⟨h1,h2⟩
  ·obtain⟨pl,h3,h4⟩:=h.pend k hk
   exact⟨pl,by rw[h2];exact h3,by rw[h1];exact Gr.keepTy h4 h.disk (by rw[am0_];exact ar9_) keep⟩
  ·exact⟨[],by rw[h2],by rw[h1];exact Gr.nl⟩
 files:=by rw[hf.1,hf.2];exact Gr.keepTy h.files h.disk (by rw[am0_];exact arT_) keep
 pdis i j hi hj hij b:=by
  rcases hp i hi with⟨h1,-⟩ | ⟨h1,-⟩
  ·rcases hp j hj with⟨h2,-⟩ | ⟨h2,-⟩
   ·rw[h1,h2];exact h.pdis i j hi hj hij b
   ·rw[h2];intro _ h;cases h
  ·rw[h1];intro h;cases h
theorem kM_ (G:DcG) (S:DiskL) (n:Nat):zo_ (some (false,n)) (some (dcO G S)) 9=some G.f:=(rfl)
theorem kd_ (G:DcG) (S:DiskL) (n:Nat):zo_ (some (false,n)) (some (dcO G S)) 10=some (vi S.max):=(rfl)
theorem kT_ (G:DcG) (S:DiskL) (n:Nat):zo_ (some (false,n)) (some (dcO G S)) 11=some (vi (ajS_ S)):=(rfl)
theorem kZ_ (G:DcG) (S:DiskL) (n:Nat):zo_ (some (false,n)) (some (dcO G S)) 12=some (.bool S.off):=(rfl)
def setS (G:DcG) (k:Nat) (v:Value):DcG:={G with s:=fun j=>if j=k then v else G.s j}
def setT (G:DcG) (k:Nat) (v:Value):DcG:={G with t:=fun j=>if j=k then v else G.t j}
def axp_ (G:DcG) (k:Nat) (v:Value):DcG:={G with p:=fun j=>if j=k then v else G.p j}
def dcL (G:DcG) (S:DiskL) (n:Int) (b:Bool):Obj:= .cells #[G.s 0,G.t 0,G.p 0,G.s 1,G.t 1,G.p 1,G.s 2,G.t 2,G.p 2,G.f,vi S.max,vi n, .bool b] 60 (0,0)
theorem KO_ (G:DcG) (S:DiskL) (n:Int) (a:Bool):zn_ (some (a,1)) (some (dcO G S)) 11 (vi n)=some (dcL G S n S.off):=zy_ [G.s 0,G.t 0,G.p 0,G.s 1,G.t 1,G.p 1,G.s 2,G.t 2,G.p 2,G.f,vi S.max] [vi (ajS_ S)] [vi n] [.bool S.off] a _ 60 rfl rfl rfl rfl rfl
theorem Jc_ (G:DcG) (S:DiskL) (m n:Int) (b a:Bool):zn_ (some (a,1)) (some (dcL G S m b)) 11 (vi n)=some (dcL G S n b):=zy_ [G.s 0,G.t 0,G.p 0,G.s 1,G.t 1,G.p 1,G.s 2,G.t 2,G.p 2,G.f,vi S.max] [vi m] [vi n] [.bool b] a _ 60 rfl rfl rfl rfl rfl
theorem KK_ (G:DcG) (S:DiskL) (x a:Bool):zn_ (some (a,1)) (some (dcO G S)) 12 (.bool x)=some (dcO G {S with off:=x}):=zy_ [G.s 0,G.t 0,G.p 0,G.s 1,G.t 1,G.p 1,G.s 2,G.t 2,G.p 2,G.f,vi S.max,vi (ajS_ S)] [.bool S.off] [.bool x] [] a _ 60 rfl rfl rfl rfl rfl
theorem QO_ (G:DcG) (S:DiskL) (x:Int) (a:Bool):zn_ (some (a,1)) (some (dcO G S)) 10 (vi x)=some (dcO G {S with max:=x}):=zy_ [G.s 0,G.t 0,G.p 0,G.s 1,G.t 1,G.p 1,G.s 2,G.t 2,G.p 2,G.f] [vi S.max] [vi x] [vi (ajS_ S), .bool S.off] a _ 60 rfl rfl rfl rfl rfl
def dcG0 (b:Nat):DcG:=⟨b,fun _=> .slice none 0 0,fun _=> .slice none 0 0,fun _=> .slice none 0 0, .slice none 0 0⟩
set_option linter.defProp false
def ave_:=And.intro (And.intro (And.intro (@zc_) (@zb_)) (And.intro (@kM_) (And.intro (@kd_) (@kT_)))) (And.intro (And.intro (@kZ_) (@KO_)) (And.intro (@Jc_) (And.intro (@KK_) (@QO_))))
end Go.Proofs
end
section
open Go Go.Proofs Go.Sx Go.StP
namespace Go.Proofs
set_option maxRecDepth 10000
set_option maxHeartbeats 400000
set_option linter.unusedSimpArgs false
set_option linter.defProp false
def axo_:=And.intro (And.intro (And.intro (@zc_) (@zb_)) (And.intro (@kM_) (@kd_))) (And.intro (And.intro (@kT_) (@kZ_)) (And.intro (@Sx.tup2_0) (@Sx.tup2_1)))
end Go.Proofs
end
section
open Go Go.Proofs Go.Sx Go.StP
namespace Go.Proofs
set_option maxRecDepth 10000
set_option maxHeartbeats 400000
set_option linter.unusedSimpArgs false
structure LcG where
 k:Nat
 v:Value
 D:za_
 DG:za_
set_option linter.defProp false
def awp_:=And.intro (And.intro (And.intro (@zc_) (@zb_)) (And.intro (@kM_) (@kd_))) (And.intro (And.intro (@kT_) (@kZ_)) (And.intro (@Sx.tup2_0) (@Sx.tup2_1)))
def aut_ (S:DiskL):Nat→Nat
 |0=>0
 |k+1=>aut_ S k+qv_ S (S.dir k).seen
structure UkG where
 k:Nat
 n:Nat
end Go.Proofs
end
section
open Go Go.Proofs Go.Sx Go.StP
namespace Go.Proofs
set_option maxRecDepth 10000
set_option maxHeartbeats 400000
set_option linter.unusedSimpArgs false
set_option linter.defProp false
def axn_:=And.intro (And.intro (And.intro (@zc_) (And.intro (@zb_) (@kM_))) (And.intro (@kd_) (And.intro (@kT_) (@kZ_)))) (And.intro (And.intro (@Sx.tup2_0) (And.intro (@Sx.tup2_1) (@aha_))) (And.intro (And.intro (@ahh_) (@alK_)) (And.intro (@Xu_) (@Zh_))))
end Go.Proofs
end
section
open Go Go.Proofs Go.Sx Go.StP
namespace Go.Proofs
set_option maxRecDepth 10000
set_option maxHeartbeats 400000
set_option linter.unusedSimpArgs false
def preE (S:DiskL) (kind:Int) (dir name s:List UInt8):Nat:=
 if zG_ dir=none∨(kind≠3∧qY_ name=false)∨(kind=4∧qY_ s=false) then 1
 else if S.off=true then 9
 else match atD S dir name with
  |some n=>if kind=0 then 7 else if kind=1∧Zs_ S n s=true then 8 else 0
  |none=>if kind≠0∧kind≠3 then 6 else 0
def actV (S:DiskL) (kind:Int) (dir name s:List UInt8):DiskL:=
 if kind=0 then x1_ (xc_ (zr_ S).1 jt_) ((zG_ dir).getD 0) ⟨0,name,[],S.files.length⟩
 else if kind=1 then j0_ (zr_ S).1 ((atD S dir name).getD 0) ⟨(zl_ S ((atD S dir name).getD 0)).data++s,(zl_ S ((atD S dir name).getD 0)).stl⟩
 else if kind=2 then j0_ (zr_ S).1 ((atD S dir name).getD 0) ⟨(zl_ S ((atD S dir name).getD 0)).data,(zl_ S ((atD S dir name).getD 0)).data.length⟩
 else if kind=3 then wo_ (zr_ S).1 ((zG_ dir).getD 0)
 else if kind=4 then(if name=s then(zr_ S).1 else x1_ (zr_ S).1 ((zG_ dir).getD 0) ⟨1,name,s,0⟩)
 else x1_ (zr_ S).1 ((zG_ dir).getD 0) ⟨2,name,[],0⟩
theorem Gr.upd {α:Type} {X:za_} {E:TypeId} {m:Nat} {v:Value} {enc:α→List Value} {l:List α} (h:Gr X E m v l.length (l.map enc).flatten) (hm: ∀x,(enc x).length=m) {k:Nat} (hk:k<l.length) (x:α):
  ∃b rest c,v=vsl b 0 l.length c∧Sx.look X b=some (rowO enc E rest l)∧ ∀L,Sx.look L b=some (rowO enc E rest (l.set k x))→Gr L E m v (l.set k x).length ((l.set k x).map enc).flatten:=by
 rcases h with h| ⟨h,-⟩
 ·generalize hn:l.length=n at h
  generalize hcs: (l.map enc).flatten=cs at h
  cases h with
  |nl=>omega
  | @at_ b n c cs rest hl h1 h2 h3 h4=>
   subst hcs
   refine⟨b,rest,c,rfl,hl,fun L hL=> .inl ?_⟩
   rw[List.length_set,hn]
   exact .at_ hL (by rw[agf_ hm,List.length_set,hn]) h2 h3 h4
 ·omega
end Go.Proofs
end
section
open Go Go.Proofs Go.Sx Go.StP
namespace Go.Proofs
set_option maxRecDepth 10000
set_option maxHeartbeats 400000
set_option linter.unusedSimpArgs false
structure PkL where
 v:Value
 l:List UInt16
 h:Value.oneCell' v=true∧v.cells= #[v]
def pk0:PkL:=⟨.slice none 0 0,[],rfl,rfl⟩
structure ActL where
 kind:Int
 n:Int
 dir:List UInt8
 name:List UInt8
 s:List UInt8
 picks:PkL
def acC (r:ActL):List Value:= [vi r.kind]++ ([vi r.n]++ ([vs r.dir]++ ([vs r.name]++ ([vs r.s]++ ([r.picks.v])))))
def ac0:ActL:=⟨0,0,[],[],[],pk0⟩
theorem adC_ (r:ActL): (acC r).length=6:=by simp[acC]
theorem Zi_ (r:ActL):Value.cells (.agg (acC r).toArray)=(acC r).toArray:=zd_ _
theorem apD_ (r:ActL): (acC r).all Value.oneCell'=true:=by
 unfold acC
 simp only[List.all_append,List.all_cons,List.all_nil,wg_,Bool.and_true,Bool.true_and]
 rw[r.picks.h.1];rfl
theorem ar5_ (r:ActL):acC r=([]:List Value)++ (([vi r.kind])++ ([vi r.n]++ ([vs r.dir]++ ([vs r.name]++ ([vs r.s]++ ([r.picks.v])))))):=by
 unfold acC;simp only[List.append_assoc,List.nil_append,List.append_nil]
theorem w3_ (r:ActL) (n:Nat) (E:TypeId) (fz:Nat×Nat):zo_ (some (false,n)) (some (.cells (acC r).toArray E fz)) 0=some (vi r.kind):=by
 rw[ar5_];exact zN_ _ _ _ n E fz (by simp)
theorem ase_ (r:ActL):acC r=(([vi r.kind]))++ (([vi r.n])++ ([vs r.dir]++ ([vs r.name]++ ([vs r.s]++ ([r.picks.v]))))):=by
 unfold acC;simp only[List.append_assoc,List.nil_append,List.append_nil]
theorem J7_ (r:ActL) (n:Nat) (E:TypeId) (fz:Nat×Nat):zo_ (some (false,n)) (some (.cells (acC r).toArray E fz)) 1=some (vi r.n):=by
 rw[ase_];exact zN_ _ _ _ n E fz (by simp)
theorem asq_ (r:ActL):acC r=(([vi r.kind])++ ([vi r.n]))++ (([vs r.dir])++ ([vs r.name]++ ([vs r.s]++ ([r.picks.v])))):=by
 unfold acC;simp only[List.append_assoc,List.nil_append,List.append_nil]
theorem Xv_ (r:ActL) (n:Nat) (E:TypeId) (fz:Nat×Nat):zo_ (some (false,n)) (some (.cells (acC r).toArray E fz)) 2=some (vs r.dir):=by
 rw[asq_];exact zN_ _ _ _ n E fz (by simp)
theorem ata_ (r:ActL):acC r=(([vi r.kind])++ ([vi r.n])++ ([vs r.dir]))++ (([vs r.name])++ ([vs r.s]++ ([r.picks.v]))):=by
 unfold acC;simp only[List.append_assoc,List.nil_append,List.append_nil]
theorem Xn_ (r:ActL) (n:Nat) (E:TypeId) (fz:Nat×Nat):zo_ (some (false,n)) (some (.cells (acC r).toArray E fz)) 3=some (vs r.name):=by
 rw[ata_];exact zN_ _ _ _ n E fz (by simp)
theorem asa_ (r:ActL):acC r=(([vi r.kind])++ ([vi r.n])++ ([vs r.dir])++ ([vs r.name]))++ (([vs r.s])++ ([r.picks.v])):=by
 unfold acC;simp only[List.append_assoc,List.nil_append,List.append_nil]
theorem Xg_ (r:ActL) (n:Nat) (E:TypeId) (fz:Nat×Nat):zo_ (some (false,n)) (some (.cells (acC r).toArray E fz)) 4=some (vs r.s):=by
 rw[asa_];exact zN_ _ _ _ n E fz (by simp)
theorem as5_ (r:ActL):acC r=(([vi r.kind])++ ([vi r.n])++ ([vs r.dir])++ ([vs r.name])++ ([vs r.s]))++ (([r.picks.v])++ (([]:List Value))):=by
 unfold acC;simp only[List.append_assoc,List.nil_append,List.append_nil]
theorem aaf_ (r:ActL) (n:Nat) (E:TypeId) (fz:Nat×Nat):zo_ (some (false,n)) (some (.cells (acC r).toArray E fz)) 5=some (r.picks.v):=by
 rw[as5_];exact zN_ _ _ _ n E fz (by simp)
theorem QZ_ (r:ActL) (E:TypeId) (fz:Nat×Nat):zo_ (some (true,6)) (some (.cells (acC r).toArray E fz)) 0=some (.agg (acC r).toArray):=jG_ _ E fz 6 (by rw[List.size_toArray,adC_])
theorem am9_ (old:Array Value) (r:ActL) (a:Bool) (E:TypeId) (h:old.size=6):zn_ (some (a,6)) (some (.cells old E (0,0))) 0 (.agg (acC r).toArray)=some (.cells (acC r).toArray E (0,0)):=jv_ _ a old E (adC_ r) (apD_ r) h
theorem XU_ (r r':ActL) (a:Bool) (E:TypeId):zn_ (some (a,6)) (some (.cells (acC r').toArray E (0,0))) 0 (.agg (acC r).toArray)=some (.cells (acC r).toArray E (0,0)):=am9_ _ r a E (by rw[List.size_toArray,adC_])
abbrev AcSl (w:World) (v:Value) (l:List ActL):Prop:=SlV 6 acC ac0 w v l
structure ActOk (w:World) (a:ActL):Prop where
 pk:PkS w a.picks.v a.picks.l
 n: -9223372036854775808≤a.n∧a.n<9223372036854775808
def auX_ (a:ActL):Bool:=decide (200<a.name.length) ||decide (2000<a.s.length) ||decide (50<a.dir.length) ||decide (100<a.picks.l.length)
def doA (S:DiskL) (a:ActL):DiskL×Nat:=
 if a.kind.tmod 9=6 then({S with fuse:=a.n,fused:=decide (0≤a.n)},0) else if a.kind.tmod 9=7 then(qI_ S a.picks.l,0) else if a.kind.tmod 9=8 then({S with max:=a.n},0) else doV S (a.kind.tmod 9) a.dir a.name a.s
theorem PkS.blk {w:World} {v:Value} {l:List UInt16} (h:PkS w v l) (hl:l≠ []) {b:Nat} (hb:slB v=some b):b<w.heap.size:=by
 obtain⟨b',off,c,arr,E,fz,hr,hc,⟨rfl,rfl,rfl⟩ | ⟨rfl,hh,-⟩⟩:=h.resolve_right fun e=>hl e.1
 ·exact absurd rfl hl
 ·cases hb
  exact(Array.getElem?_eq_some_iff.1 hh).1
set_option linter.defProp false
def axh_:=And.intro (And.intro (And.intro (@zc_) (@zb_)) (And.intro (@QZ_) (And.intro (@w3_) (@J7_)))) (And.intro (And.intro (@Xv_) (@Xn_)) (And.intro (@Xg_) (And.intro (@aaf_) (@Zi_))))
structure DkA (X:za_) (G:DkG) (S:DiskL) (N:Nat):Prop where
 P:DkP X G S
 H:vH_ S
 B:DkN N S
theorem DkA.pend {X:za_} {G:DkG} {S:DiskL} {N:Nat} (h:DkA X G S N) (hN:N<1000000): ∀k,k<3→(S.dir k).pend.length<1000000:=fun k _=>by
 have:=(h.B k).stl
 omega
theorem DkA.used {X:za_} {G:DkG} {S:DiskL} {N:Nat} (h:DkA X G S N) (hN:N<1000000):qR_ S<4611686018427387904:=by
 have:=aoB_ h.P.ok h.B
 omega
theorem DkA.mono {X X':za_} {G:DkG} {S:DiskL} {N:Nat} (h:DkA X G S N) (hk: ∀b o,Sx.look X b=some o→Sx.look X' b=some o):DkA X' G S N:=⟨h.P.mono hk,h.H,h.B⟩
theorem DkA.b {X:za_} {G:DkG} {S:DiskL} {N:Nat} (h:DkA X G S N) (hN:N<1000000):DkB S:=h.B.b (by omega)
end Go.Proofs
end
section
open Go Go.Proofs Go.Sx Go.StP
namespace Go.Proofs
set_option maxRecDepth 10000
set_option maxHeartbeats 400000
set_option linter.unusedSimpArgs false
set_option linter.defProp false
def avk_:=And.intro (And.intro (And.intro (@zc_) (@zb_)) (And.intro (@QZ_) (And.intro (@w3_) (@J7_)))) (And.intro (And.intro (@Xv_) (@Xn_)) (And.intro (@Xg_) (And.intro (@aaf_) (@Zi_))))
theorem QP_ {w:World} {X D:za_} {b:Nat} {o:Obj} (h:Ext w X D) (hb:w.heap.size≤b):Ext w X ((b,o)::D):=
 ⟨fun c hc=>by
  rcases List.mem_cons.1 hc with rfl|hc
  ·exact .inr hb
  ·exact h.new c hc,fun c hc=>List.mem_cons_of_mem _ (h.all c hc)⟩
end Go.Proofs
end
section
open Go Go.Proofs Go.Sx Go.StP
namespace Go.Proofs
set_option maxRecDepth 10000
set_option maxHeartbeats 1000000
set_option linter.unusedSimpArgs false
structure DoG where
 c:KcR
 S:DiskL
 G:DcG
 X:za_
def DoS (G:DcG) (R:DiskL×Nat) (v:Value) (D:za_):Prop:=v=vi (R.2:Nat)∧ ∃G',G'.bd=G.bd∧DcP D G' R.1
def DoJ (S0 T:DiskL) (k:Nat) (c:KcR) (S:DiskL):Prop:=(c.kind= -1∧S=T)∨S.dir=S0.dir∧ ∃d:CallL,c=kcOf d∧T=x1_ S k (apv_ d)∧d.kind<3∧(d.kind=1→zx_ (S.dir k).seen d.a≠none)
set_option linter.defProp false
def awv_:=And.intro (And.intro (And.intro (And.intro (@zc_) (@zb_)) (And.intro (@kM_) (And.intro (@kd_) (@kT_)))) (And.intro (And.intro (@kZ_) (And.intro (@KO_) (@Jc_))) (And.intro (@KK_) (And.intro (@QO_) (@al9_))))) (And.intro (And.intro (And.intro (@agn_) (@agC_)) (And.intro (@agR_) (And.intro (@agh_) (@akP_)))) (And.intro (And.intro (@ajD_) (And.intro (@akJ_) (@alz_))) (And.intro (@alW_) (And.intro (@age_) (@af5_)))))
end Go.Proofs
end
section
open Go Go.Proofs Go.Sx Go.StP
namespace Go.Proofs
set_option maxRecDepth 10000
set_option maxHeartbeats 1000000
set_option linter.unusedSimpArgs false
structure OcG where
 i:Nat
 S:DiskL
 G:DcG
 X:za_
def ofN (l:List FiL) (q:Int) (i:Nat):DiskL:=(l.take i).foldl jr_ (wZ_ q)
def wSet (S:DiskL) (k:Nat):DiskL:={S with dir:=fun j=>if j<k then⟨(S.dir j).seen,(S.dir j).seen,[]⟩ else S.dir j}
set_option linter.defProp false
def awC_:=And.intro (And.intro (And.intro (@zc_) (@zb_)) (And.intro (@kM_) (@kd_))) (And.intro (And.intro (@kT_) (@kZ_)) (And.intro (@af5_) (@Xu_)))
end Go.Proofs
end
section
open Go Go.Proofs Go.Sx Go.StP
namespace Go.Proofs
set_option maxRecDepth 10000
set_option maxHeartbeats 1000000
set_option linter.unusedSimpArgs false
def FilB (S:DiskL):Prop:= ∀n,n<S.files.length→(zl_ S n).data.length≤1048576∧(zl_ S n).stl≤ (zl_ S n).data.length
structure CrG where
 k:Nat
 at_:Nat
 S:DiskL
 G:DcG
 X:za_
structure CkG where
 at_:Nat
 n:Nat
structure CiG where
 i:Nat
 v:Value
 X:za_
set_option linter.defProp false
def axd_:=And.intro (And.intro (And.intro (@zc_) (@zb_)) (And.intro (@kV_) (And.intro (@kM_) (@kd_)))) (And.intro (And.intro (@kT_) (And.intro (@kZ_) (@KO_))) (And.intro (@Jc_) (And.intro (@KK_) (@QO_))))
end Go.Proofs
end
section
open Go Go.Proofs Go.Sx Go.StP Go.Flo
namespace Go.Proofs
set_option maxRecDepth 10000
set_option maxHeartbeats 400000
set_option linter.unusedSimpArgs false
set_option linter.defProp false
def axm_:=And.intro (@zc_) (And.intro (@zb_) (@adg_))
def cpR (p:PcL) (b:Int):Value:=match cpV p b with
 |some q=> .tuple #[vi q.1,vi q.2, .bool true]
 |none=>if(1≤p.n∧p.n≤4099)∧p.x= []∧(p.n:Int)≤b then .tuple #[vi 0,vi p.n, .bool false] else .tuple #[vi 0,vi 0, .bool false]
set_option linter.defProp false
def avg_:=And.intro (And.intro (And.intro (And.intro (@zc_) (@zb_)) (And.intro (@xJ_) (@xF_))) (And.intro (And.intro (@k3_) (@xI_)) (And.intro (@K3_) (@cxz)))) (And.intro (And.intro (And.intro (@aaP_) (@aaa_)) (And.intro (@kw_) (@Sx.tup2_0))) (And.intro (And.intro (@Sx.tup2_1) (@Sx.tup3_0)) (And.intro (@Sx.tup3_1) (@Sx.tup3_2))))
end Go.Proofs
end
section
open Go Go.Proofs Go.Sx Go.StP Go.Flo
namespace Go.Proofs
set_option maxRecDepth 10000
set_option maxHeartbeats 400000
set_option linter.unusedSimpArgs false
set_option linter.defProp false
def awK_:=And.intro (And.intro (And.intro (And.intro (@zc_) (@zb_)) (And.intro (@xJ_) (@xF_))) (And.intro (And.intro (@k3_) (@xI_)) (And.intro (@K3_) (@cxz)))) (And.intro (And.intro (And.intro (@aaP_) (@aaa_)) (And.intro (@kw_) (@Sx.tup2_0))) (And.intro (And.intro (@Sx.tup2_1) (@Sx.tup3_0)) (And.intro (@Sx.tup3_1) (@Sx.tup3_2))))
end Go.Proofs
end
section
open Go Go.Proofs Go.Sx Go.StP Go.Flo
namespace Go.Proofs
set_option maxRecDepth 10000
set_option maxHeartbeats 400000
set_option linter.unusedSimpArgs false
set_option linter.defProp false
def aw0_:=And.intro (And.intro (And.intro (@zc_) (@zb_)) (And.intro (@xJ_) (And.intro (@xF_) (@k3_)))) (And.intro (And.intro (@xI_) (And.intro (@Sx.tup2_0) (@Sx.tup2_1))) (And.intro (@Sx.tup3_0) (And.intro (@Sx.tup3_1) (@Sx.tup3_2))))
end Go.Proofs
end
section
open Go Go.Proofs Go.Sx Go.StP Go.Flo
namespace Go.Proofs
set_option maxRecDepth 10000
set_option maxHeartbeats 400000
set_option linter.unusedSimpArgs false
set_option linter.defProp false
def aw6_:=And.intro (And.intro (And.intro (@zc_) (@zb_)) (And.intro (@xJ_) (And.intro (@xF_) (@k3_)))) (And.intro (And.intro (@xI_) (And.intro (@Sx.tup2_0) (@Sx.tup2_1))) (And.intro (@Sx.tup3_0) (And.intro (@Sx.tup3_1) (@Sx.tup3_2))))
end Go.Proofs
end
section
open Go Go.Proofs Go.Sx Go.StP Go.Flo
namespace Go.Proofs
set_option maxRecDepth 10000
set_option maxHeartbeats 400000
set_option linter.unusedSimpArgs false
def rrO (s:List UInt8) (a:Nat) (e:Int):Obj:= .cells #[vs s,vi a,vi e] 217 (0,0)
theorem agy_ (s:List UInt8) (a:Nat) (e:Int) (n:Nat):zo_ (some (false,n)) (some (rrO s a e)) 0=some (vs s):=(rfl)
theorem ahf_ (s:List UInt8) (a:Nat) (e:Int) (n:Nat):zo_ (some (false,n)) (some (rrO s a e)) 1=some (vi a):=(rfl)
theorem af7_ (s:List UInt8) (a:Nat) (e:Int) (n:Nat):zo_ (some (false,n)) (some (rrO s a e)) 2=some (vi e):=(rfl)
structure RrG where
 a:Nat
 e:Int
 out:List PcL
 v:Value
 D:za_
 DG:za_
def RrJ (d:List UInt8) (a0:Nat) (e0:Int) (sz:Nat) (g:RrG):Prop:=
 New sz g.D∧New sz g.DG∧Gr g.D 311 2 g.v g.out.length (g.out.map pcC).flatten∧g.a≤d.length∧BndP g.out∧g.out.length≤g.a+1∧(g.e=0→g.out.length≤g.a)∧
  ((e0≠0∧g.e≠0)∨(e0=0∧((g.e=0∧pcs d a0=(g.out++ (pcs d g.a).1,(pcs d g.a).2))∨(g.e≠0∧pcs d a0=(g.out,g.a,g.e)))))
def au6_ (d:List UInt8) (v:Value) (D:za_):Prop:=match abN_ d with
 |some p=> ∃x,v= .tuple #[vi p.1,x, .bool true]∧BndP p.2∧p.2.length≤4099∧p.1≤4099∧GrI D 311 2 x p.2.length (p.2.map pcC).flatten
 |none=>v= .tuple #[vi 0, .slice none 0 0, .bool false]
set_option linter.defProp false
def av1_:=And.intro (And.intro (And.intro (@zc_) (And.intro (@zb_) (@agy_))) (And.intro (And.intro (@ahf_) (@af7_)) (And.intro (@xJ_) (@xF_)))) (And.intro (And.intro (And.intro (@k3_) (@xI_)) (And.intro (@Sx.tup2_0) (@Sx.tup2_1))) (And.intro (And.intro (@Sx.tup3_0) (@Sx.tup3_1)) (And.intro (@Sx.tup3_2) (@kw_))))
end Go.Proofs
end
section
open Go Go.Proofs Go.Sx Go.StP Go.Flo
namespace Go.Proofs
set_option maxRecDepth 10000
set_option maxHeartbeats 400000
set_option linter.unusedSimpArgs false
set_option linter.defProp false
def avW_:=And.intro (And.intro (And.intro (@zc_) (@zb_)) (And.intro (@xJ_) (And.intro (@xF_) (@k3_)))) (And.intro (And.intro (@xI_) (And.intro (@Sx.tup2_0) (@Sx.tup2_1))) (And.intro (@Sx.tup3_0) (And.intro (@Sx.tup3_1) (@Sx.tup3_2))))
structure PrG where
 at_:Nat
 out:List Nat
 v:Value
 D:za_
 DG:za_
set_option linter.defProp false
def awF_:=And.intro (And.intro (And.intro (@zc_) (@zb_)) (And.intro (@jH_) (@jC_))) (And.intro (And.intro (@jD_) (@jk_)) (And.intro (@Sx.tup2_0) (@Sx.tup2_1)))
end Go.Proofs
end
section
open Go Go.Proofs Go.Sx Go.StP Go.Flo
namespace Go.Proofs
set_option maxRecDepth 10000
set_option maxHeartbeats 400000
set_option linter.unusedSimpArgs false
def BndD (l:List PartL):Prop:= ∀g,g<l.length→(l.getD g Q9_).x.length<100000000
structure TrG where
 n:Nat
 s:List UInt8
 DG:za_
set_option linter.defProp false
def axj_:=And.intro (And.intro (And.intro (@zc_) (@zb_)) (And.intro (@jH_) (@jC_))) (And.intro (And.intro (@jD_) (@jk_)) (And.intro (@Sx.tup2_0) (@Sx.tup2_1)))
end Go.Proofs
end
section
open Go Go.Proofs Go.Sx Go.StP Go.Flo
namespace Go.Proofs
set_option maxRecDepth 10000
set_option maxHeartbeats 400000
set_option linter.unusedSimpArgs false
structure A9G where
 ts:List (List UInt8)
 v:Value
 D:za_
 DG:za_
set_option linter.defProp false
def awe_:=And.intro (And.intro (@zc_) (@zb_)) (And.intro (@Sx.tup2_0) (@Sx.tup2_1))
end Go.Proofs
end
section
open Go Go.Proofs Go.Sx Go.StP Go.Flo
namespace Go.Proofs
set_option maxRecDepth 10000
set_option maxHeartbeats 400000
set_option linter.unusedSimpArgs false
theorem aeR_ (s:List UInt8) (a:Nat) (e most:Int):zH_ s (a+1) e most=((zH_ (s.drop 1) a e most).1,(zH_ (s.drop 1) a e most).2.1+1,(zH_ (s.drop 1) a e most).2.2):=by
 unfold zH_
 rw[List.drop_drop,Nat.add_comm 1 a]
 by_cases he:e≠0
 ·rw[if_pos he,if_pos he]
 ·rw[if_neg he,if_neg he]
  cases z7_ most (List.drop (a+1) s) 0 0 with
  |error x=>rfl
  |ok p=>simp only[Prod.mk.injEq,true_and];exact⟨by omega,trivial⟩
theorem afA_ (s:List UInt8) (a:Nat) (e n:Int) (hs:1≤s.length):jP_ s (a+1) e n=((jP_ (s.drop 1) a e n).1,(jP_ (s.drop 1) a e n).2.1+1,(jP_ (s.drop 1) a e n).2.2):=by
 unfold jP_
 rw[List.length_drop,List.drop_drop,Nat.add_comm 1 a]
 have hq: ((s.length:Int) - ((a+1:Nat):Int)<n)=(((s.length - 1:Nat):Int) - (a:Int)<n):=by rw[eq_iff_iff];omega
 simp only[hq]
 by_cases he:e≠0
 ·simp only[if_pos he]
 ·simp only[if_neg he]
  by_cases hn:n<0
  ·simp only[if_pos hn]
  ·simp only[if_neg hn]
   by_cases hl: ((s.length - 1:Nat):Int) - (a:Int)<n
   ·simp only[if_pos hl]
   ·simp only[if_neg hl,Prod.mk.injEq,true_and]
    exact⟨by omega,trivial⟩
theorem acd_ (s:List UInt8) (a:Nat) (e most:Int) (hs:1≤s.length):zU_ s (a+1) e most=((zU_ (s.drop 1) a e most).1,(zU_ (s.drop 1) a e most).2.1+1,(zU_ (s.drop 1) a e most).2.2):=by
 unfold zU_
 simp only[aeR_]
 rw[afA_ _ _ _ _ hs]
 simp only
 split<;>rfl
theorem aai_ (c:UInt8) (r:List UInt8):frR (c::r)=([c],1,0):=by
 unfold frR jP_
 rw[if_neg (by simp),if_neg (by decide),if_neg (by simp only[List.length_cons];omega)]
 rfl
theorem Xe_ (c:UInt8) (r:List UInt8):frT (c::r)=((lfT r).1,(lfT r).2.1+1,(lfT r).2.2):=by
 unfold frT
 rw[aai_]
 exact acd_ (c::r) 0 0 4096 (by simp)
theorem acL_ (c:UInt8) (r:List UInt8) (a:Nat) (e:Int):xw_ (c::r) (a+1) e=xw_ r a e:=by
 unfold xw_
 rw[List.length_cons]
 have: ((((a+1:Nat):Int)< ((r.length+1:Nat):Int))=((a:Int)< (r.length:Int))):=by rw[eq_iff_iff];omega
 simp only[this]
theorem amJ_ (c:UInt8) (r:List UInt8): (fkC c=0∧ ¬ (1≤frK (c::r)∧frK (c::r)≤3))∨(fkC c≠0∧frK (c::r)=fkC c∧wK_ (fkC c)= [c]):=by
 have e:frK (c::r)=Lib.indexByte letL c:=by unfold frK;rw[aai_];rfl
 rw[e]
 by_cases h1:c=98
 ·subst h1;exact .inr ⟨by decide,rfl,rfl⟩
 by_cases h2:c=116
 ·subst h2;exact .inr ⟨by decide,rfl,rfl⟩
 by_cases h3:c=99
 ·subst h3;exact .inr ⟨by decide,rfl,rfl⟩
 refine .inl ⟨by unfold fkC;rw[if_neg h1,if_neg h2,if_neg h3], ?_⟩
 have b1: ((98:UInt8)==c)=false:=beq_eq_false_iff_ne.2 (Ne.symm h1)
 have b2: ((116:UInt8)==c)=false:=beq_eq_false_iff_ne.2 (Ne.symm h2)
 have b3: ((99:UInt8)==c)=false:=beq_eq_false_iff_ne.2 (Ne.symm h3)
 simp only[Lib.indexByte,b1,b2,b3,Bool.false_eq_true, ↓reduceIte]
 split<;>simp
theorem aks_ {k:Int} {t:List UInt8} (h: ¬ (1≤k∧k≤3)):xu_ k t=false:=by
 unfold xu_;rw[if_neg (fun h'=>h ⟨h'.1,h'.2.1⟩)]
theorem aty_ (s:List UInt8):Xc_ s=lfOk s∧(Xc_ s=true→frK s=lfK s∧(frT s).1=(lfT (s.drop 1)).1):=by
 cases s with
 |nil=>
  have h:Xc_ []=false:=by
   unfold Xc_
   rw[aks_ (k:=frK []) (by decide),Bool.and_false]
  exact⟨by rw[h];rfl,fun h'=>by rw[h] at h';cases h'⟩
 |cons c r=>
  have e1:Xc_ (c::r)=(xw_ r (lfT r).2.1 (lfT r).2.2==0&&xu_ (frK (c::r)) (lfT r).1):=by
   unfold Xc_;rw[Xe_,acL_]
  have e2:lfOk (c::r)=(fkC c !=0&&xw_ r (lfT r).2.1 (lfT r).2.2==0&&QB_ (fkC c) (lfT r).1):=rfl
  rcases amJ_ c r with⟨h1,h2⟩ | ⟨h1,h2,-⟩
  ·rw[e1,e2,aks_ h2,h1,Bool.and_false]
   exact⟨rfl,fun h=>by cases h⟩
  ·have h3: (fkC c !=0)=true:=by simpa using h1
   rw[e1,e2,h2,h3,w5_,Bool.true_and]
   refine⟨rfl,fun _=>⟨rfl, ?_⟩⟩
   rw[Xe_];rfl
set_option linter.defProp false
def aw8_:=And.intro (And.intro (@zc_) (@zb_)) (And.intro (@qU_) (@ai0_))
end Go.Proofs
end
section
open Go Go.Proofs Go.Sx Go.StP Go.Flo
namespace Go.Proofs
set_option maxRecDepth 10000
set_option maxHeartbeats 1000000
set_option linter.unusedSimpArgs false
def mkV (v0 v1 v2 v3:Value):Value:= .agg #[v0,v1,v2,v3]
abbrev OneC (q:Value):Prop:=Value.oneCell' q=true∧q.cells= #[q]
def OfS (l:List PartL) (v0:Value) (v:Value) (D:za_):Prop:=match XN_ l with
 |some p=> ∃x2 x3,v= .tuple #[mkV v0 (.slice none 0 0) x3 x2, .bool true]∧GrI D 84 32 x2 p.1.length (p.1.map Z7_).flatten∧GrI D 82 2 x3 p.2.length (p.2.map obC).flatten
 |none=> ∃x2 x3,v= .tuple #[mkV v0 (.slice none 0 0) x3 x2, .bool false]∧OneC x2∧OneC x3
theorem agm_ {k:Int} {t:List UInt8} (h:xu_ k t=true):t.length≤4096:=by
 unfold xu_ at h
 split at h
 ·rename_i h1;exact h1.2.2
 ·cases h
set_option linter.defProp false
def awA_:=And.intro (And.intro (And.intro (@zc_) (@zb_)) (And.intro (@Sx.tup2_0) (@Sx.tup2_1))) (And.intro (And.intro (@qb_) (@zP_)) (And.intro (@zO_) (And.intro (@zS_) (@qU_))))
end Go.Proofs
end
section
open Go Go.Proofs Go.Sx Go.StP Go.Flo
namespace Go.Proofs
set_option maxRecDepth 10000
set_option maxHeartbeats 400000
set_option linter.unusedSimpArgs false
structure SvG where
 k:Nat
 out:List ObL
 v6:Value
 D6:za_
 DG:za_
set_option linter.defProp false
def awN_:=And.intro (And.intro (And.intro (@zc_) (@zb_)) (And.intro (@Sx.tup2_0) (@Sx.tup2_1))) (And.intro (And.intro (@qb_) (@zP_)) (And.intro (@zO_) (@zS_)))
end Go.Proofs
end
section
open Go Go.Proofs Go.Sx Go.StP Go.Flo
namespace Go.Proofs
set_option maxRecDepth 10000
set_option maxHeartbeats 400000
set_option linter.unusedSimpArgs false
def ar3_:Nat→List PartL→Nat→Nat
 |_,[],_=>0
 |i,p::r,j=>if(af6_ i p).length≤j then ar3_ (i+1) r (j - (af6_ i p).length)+1 else 0
def endG (a i:Nat) (l:List PartL) (k:Nat):Nat:=a+ (aj6_ i (l.take (k+1))).length
end Go.Proofs
end
section
open Go Go.Proofs Go.Sx Go.StP Go.Flo
namespace Go.Proofs
set_option maxRecDepth 10000
set_option maxHeartbeats 400000
set_option linter.unusedSimpArgs false
def sumX (l:List PartL):Nat:=(l.map fun p=>p.x.length).sum
def sumW (l:List PartL):Nat→Int
 |0=>0
 |k+1=>IntKind.i64.wrap (sumW l k+ (l.getD k Q9_).x.length)
def auO_ (l:List PartL):Bool:=decide (210<l.length) || (List.range l.length).any fun k=>decide (30000<sumW l (k+1))
set_option linter.defProp false
def axi_:=And.intro (And.intro (@zc_) (And.intro (@zb_) (@jH_))) (And.intro (And.intro (@jC_) (@jD_)) (And.intro (@w9_) (@aqI_)))
end Go.Proofs
end
section
open Go Go.Proofs Go.Sx Go.StP Go.Flo
namespace Go.Proofs
set_option maxRecDepth 10000
set_option maxHeartbeats 400000
set_option linter.unusedSimpArgs false
def abS:List UInt8:= [98,2,97,98]
def abP:PartL:=⟨false,0,abS⟩
theorem ars_ (k k':Int) (t t':List UInt8):qy_ Tryz.prog .eql 82 (obV k t) (obV k' t')=some (.bool (decide ((⟨k,t⟩:ObL)=⟨k',t'⟩))):=aqE_ ⟨k,t⟩ ⟨k',t'⟩
set_option linter.defProp false
def avG_:=And.intro (And.intro (And.intro (@zc_) (@zb_)) (And.intro (@Sx.tup2_0) (And.intro (@Sx.tup2_1) (@qb_)))) (And.intro (And.intro (@zP_) (@zO_)) (And.intro (@zS_) (And.intro (@ars_) (@jk_))))
end Go.Proofs
end
section
open Go Go.Proofs Go.Sx Go.StP Go.Flo
namespace Go.Proofs
set_option maxRecDepth 10000
set_option maxHeartbeats 400000
set_option linter.unusedSimpArgs false
set_option linter.defProp false
def avp_:=And.intro (And.intro (@zc_) (@zb_)) (And.intro (@Sx.tup2_0) (@Sx.tup2_1))
end Go.Proofs
end
namespace Go.Sx
def kB (c:Bool):BitVec 32:=bif c then 3988292384#32 else 0#32
def stB (x:BitVec 32):BitVec 32:=(x>>>1)^^^kB (x.getLsbD 0)
theorem arV_ (c:Bool) (j:Nat) (h:j<5): (kB c).getLsbD j=false:=by
 have:j=0∨j=1∨j=2∨j=3∨j=4:=by omega
 rcases this with rfl|rfl|rfl|rfl|rfl<;>cases c<;>decide
theorem JB_ (x:BitVec 32) (j:Nat) (h:j<5): (stB x).getLsbD j=x.getLsbD (j+1):=by
 unfold stB
 rw[BitVec.getLsbD_xor,arV_ _ _ h,BitVec.getLsbD_ushiftRight,Bool.xor_false,Nat.add_comm]
theorem stB4 (x:BitVec 32):stB (stB (stB (stB x)))=(x>>>4)^^^ (kB (x.getLsbD 0)>>>3^^^kB (x.getLsbD 1)>>>2^^^kB (x.getLsbD 2)>>>1^^^kB (x.getLsbD 3)):=by
 have h1: (stB x).getLsbD 0=x.getLsbD 1:=JB_ x 0 (by omega)
 have h2: (stB (stB x)).getLsbD 0=x.getLsbD 2:=by rw[JB_ _ 0 (by omega),JB_ _ 1 (by omega)]
 have h3: (stB (stB (stB x))).getLsbD 0=x.getLsbD 3:=by rw[JB_ _ 0 (by omega),JB_ _ 1 (by omega),JB_ _ 2 (by omega)]
 have e4:stB (stB (stB (stB x)))=(stB (stB (stB x))>>>1)^^^kB (x.getLsbD 3):=by rw[←h3];rfl
 have e3:stB (stB (stB x))=(stB (stB x)>>>1)^^^kB (x.getLsbD 2):=by rw[←h2];rfl
 have e2:stB (stB x)=(stB x>>>1)^^^kB (x.getLsbD 1):=by rw[←h1];rfl
 have e1:stB x=(x>>>1)^^^kB (x.getLsbD 0):=rfl
 rw[e4,e3,e2,e1]
 simp only[BitVec.ushiftRight_xor_distrib,←BitVec.shiftRight_add,BitVec.xor_assoc]
def hvB:List (BitVec 32):= [0x00000000,0x1db71064,0x3b6e20c8,0x26d930ac,0x76dc4190,0x6b6b51f4,0x4db26158,0x5005713c,0xedb88320,0xf00f9344,0xd6d6a3e8,0xcb61b38c,0x9b64c2b0,0x86d3d2d4,0xa00ae278,0xbdbdf21c]
theorem tabB: ∀a b c d:Bool,(kB a>>>3^^^kB b>>>2^^^kB c>>>1^^^kB d)=hvB.getD (a.toNat+2*b.toNat+4*c.toNat+8*d.toNat) 0:=by decide
theorem lowB (x:BitVec 32):x.toNat%16=(x.getLsbD 0).toNat+2* (x.getLsbD 1).toNat+4* (x.getLsbD 2).toNat+8* (x.getLsbD 3).toNat:=by
 have e: ∀i,(x.getLsbD i).toNat=x.toNat / 2^i%2:=by
  intro i
  rw[BitVec.getLsbD,Nat.testBit_eq_decide_div_mod_eq]
  have:=Nat.mod_lt (x.toNat / 2^i) (show 0<2 by omega)
  by_cases h:x.toNat / 2^i%2=1
  ·simp[h]
  ·have h0:x.toNat / 2^i%2=0:=by omega
   simp[h0]
 rw[e 0,e 1,e 2,e 3]
 omega
theorem atT_ (x:BitVec 32):stB (stB (stB (stB x)))=(x>>>4)^^^hvB.getD (x.toNat%16) 0:=by
 rw[stB4,tabB,lowB]
end Go.Sx
section
open Go Go.Proofs Go.Sx
namespace Go.Proofs
set_option maxRecDepth 10000
set_option maxHeartbeats 4000000
set_option linter.unusedSimpArgs false
def wz_ (n:UInt32):UInt32:=if n%2==1 then n / 2^^^3988292384 else n / 2
theorem W8_ (n:UInt32): (wz_ n).toBitVec=stB n.toBitVec:=by
 have hd: (n / 2).toBitVec=n.toBitVec>>>1:=by
  apply BitVec.eq_of_toNat_eq
  rw[UInt32.toBitVec_div,BitVec.toNat_udiv,BitVec.toNat_ushiftRight]
  rfl
 have hm: (n%2==1)=n.toBitVec.getLsbD 0:=by
  rw[BitVec.getLsbD,Nat.testBit_eq_decide_div_mod_eq,Nat.pow_zero,Nat.div_one,Bool.eq_iff_iff,beq_iff_eq,decide_eq_true_eq,←UInt32.toNat_inj,UInt32.toNat_mod]
  rfl
 unfold wz_ stB
 rw[hm]
 cases n.toBitVec.getLsbD 0
 ·rw[if_neg (by decide),hd];simp[kB]
 ·rw[if_pos rfl,UInt32.toBitVec_xor,hd];rfl
theorem abA_ (n:UInt32):abf_ n=wz_ (wz_ (wz_ (wz_ n))):=by
 apply UInt32.toBitVec_inj.1
 rw[W8_,W8_,W8_,W8_,atT_]
 unfold abf_
 rw[UInt32.toBitVec_xor]
 congr 1
 ·apply BitVec.eq_of_toNat_eq
  unfold zT_
  rw[BitVec.toNat_ushiftRight,Nat.shiftRight_eq_div_pow]
  have:=n.toNat_lt
  simp only[UInt32.toNat_toBitVec,UInt32.toNat_ofNat']
  omega
 ·have e: (n&&&15).toNat=n.toBitVec.toNat%16:=by
   rw[UInt32.toNat_and,show(15:UInt32).toNat=2^4 - 1 from rfl,Nat.and_two_pow_sub_one_eq_mod]
   rfl
  rw[e]
  have hlt:n.toBitVec.toNat%16<16:=Nat.mod_lt _ (by omega)
  generalize n.toBitVec.toNat%16=m at hlt
  have: ∀m,m<16→(hvL.getD m 0).toBitVec=hvB.getD m 0:=by decide
  exact this m hlt
def anU_ (n:UInt32):Nat→UInt32
 |0=>n
 |k+1=>wz_ (anU_ n k)
theorem aie_ (n:UInt32):anU_ n 8=ahS_ n 2:=by
 show wz_ (wz_ (wz_ (wz_ (wz_ (wz_ (wz_ (wz_ n)))))))=abf_ (abf_ n)
 rw[abA_,abA_]
set_option linter.defProp false
def qt_:=And.intro (And.intro (@zc_) (@kV_)) (And.intro (@vX_) (And.intro (@vJ_) (@zb_)))
theorem ak4_ (n:UInt32) (w:World):Rets Tryz.prog 213 #[v32 n] w (fun v D=>v=v32 (wz_ n)∧D= []):=by
 have hrem:zs_ .rem (v32 n) (v32 2)=some (v32 (n%2)):=ks_ _ _ (by decide)
 have hquo:zs_ .quo (v32 n) (v32 2)=some (v32 (n / 2)):=kF_ _ _ (by decide)
 refine Rets.enterV Tryz.func213 rfl (rs:= [.tmp 2]) Tryz.results213 Tryz.ntmps213 ?_
 refine kf ?_
 unfold wz_
 first|with_reducible refine ks [] (And.intro @qt_ (And.intro @hrem (@hquo))) ?_|refine kp (And.intro @qt_ (And.intro @hrem (@hquo))) ?_
 cases h: (n%2==1)
 ·first|with_reducible refine ks [] (And.intro @qt_ @hquo) ?_|refine kp (And.intro @qt_ @hquo) ?_
  refine⟨_,(ke @qt_),trivial, ?_⟩
  rfl
 ·first|with_reducible refine ks [] (And.intro @qt_ @hquo) ?_|refine kp (And.intro @qt_ @hquo) ?_
  refine⟨_,(ke @qt_),trivial, ?_⟩
  rfl
theorem alF_ (n:UInt32) (b:UInt8) (w:World):Rets Tryz.prog 188 #[v32 n,v8 b] w (fun v D=>v=v32 (ahp_ n b)∧D= []):=by
 refine Rets.enterV Tryz.func188 rfl (rs:= [.tmp 4]) Tryz.results188 Tryz.ntmps188 ?_
 refine kf ?_
 first|with_reducible refine ks [] @qt_ ?_|refine kp @qt_ ?_
 unfold ahp_
 generalize n^^^UInt32.ofNat b.toNat=m
 rw[←aie_,show v32 m=v32 (anU_ m 0) from rfl]
 refine Cw.loopG (G:=Nat) [10,11,14,15,0,12,13,5] (fun g=> [(0,v32 (anU_ m g)),(5,vi g)]) (fun g=> []) (fun g=>g≤8) (fun g=>8 - g) 0 rfl rfl ?_ ?_
 ·omega
 intro g j hg
 refine kv ?_
 by_cases hlt:g<8
 ·first|with_reducible refine ks [] @qt_ ?_|refine kp @qt_ ?_
  refine Ow.callFV rfl Tryz.call213 (fun w' hw'=>ak4_ _ w') ?_
  refine ko @qt_ ?_
  first|with_reducible refine ks [] @qt_ ?_|refine kp @qt_ ?_
  refine Again.mk (g+1) (by omega) (by omega) rfl rfl
 ·obtain rfl:g=8:=by omega
  first|with_reducible refine ks [] @qt_ ?_|refine kp @qt_ ?_
  refine⟨_,(ke @qt_),trivial, ?_⟩
  rfl
theorem aqt_ (n:UInt32):4294967295 - n= ~~~ n:=by
 apply UInt32.toBitVec_inj.1
 rw[UInt32.toBitVec_sub,UInt32.toBitVec_not,←BitVec.allOnes_sub_eq_not]
 rfl
theorem aeF_ (s:List UInt8) (w:World) (hs:s.length<1099511627776):Rets Tryz.prog 155 #[vs s] w (fun v D=>v=v32 (crcV s)∧D= []):=by
 refine Rets.enterV Tryz.func155 rfl (rs:= [.tmp 2]) Tryz.results155 Tryz.ntmps155 ?_
 refine kf ?_
 first|with_reducible refine ks [] @qt_ ?_|refine kp @qt_ ?_
 rw[show v32 4294967295=v32 (aaW_ (~~~ (0:UInt32)) (s.take 0)) from rfl]
 refine Cw.loopG (G:=Nat) [5,6,7,8,11,12,13,14,15,3,9,10,4] (fun g=> [(3,v32 (aaW_ (~~~ (0:UInt32)) (s.take g))),(4,vi g)]) (fun g=> []) (fun g=>g≤s.length) (fun g=>s.length - g) 0 rfl rfl ?_ ?_
 ·omega
 intro g j hg
 refine kv ?_
 by_cases hlt:g<s.length
 ·first|with_reducible refine ks [] @qt_ ?_|refine kp @qt_ ?_
  refine Ow.callFV rfl Tryz.call188 (fun w' hw'=>alF_ _ _ w') ?_
  refine ko @qt_ ?_
  first|with_reducible refine ks [] @qt_ ?_|refine kp @qt_ ?_
  refine Again.mk (g+1) (by omega) (by omega) rfl ?_
  rw[Wy_ _ _ _ hlt]
  rfl
 ·obtain rfl:g=s.length:=by omega
  first|with_reducible refine ks [] @qt_ ?_|refine kp @qt_ ?_
  rw[List.take_length]
  rw[aqt_]
  refine⟨_,(ke @qt_),trivial, ?_⟩
  rfl
theorem apO_ (n:UInt32):sum4 n= [UInt8.ofNat (n%256).toNat,UInt8.ofNat (n / 256%256).toNat,UInt8.ofNat (n / 65536%256).toNat,UInt8.ofNat (n / 16777216).toNat]:=by
 show [UInt8.ofNat (zT_ n 0).toNat,UInt8.ofNat (zT_ n 8).toNat,UInt8.ofNat (zT_ n 16).toNat,UInt8.ofNat (zT_ n 24).toNat]=_
 have hn:=n.toNat_lt
 congr 1
 ·apply UInt8.toNat_inj.1
  simp[zT_]
 ·congr 1
  ·apply UInt8.toNat_inj.1
   simp[zT_]
  ·congr 1
   ·apply UInt8.toNat_inj.1
    simp[zT_]
   ·congr 1
    apply UInt8.toNat_inj.1
    simp[zT_]
theorem JE_ (s:List UInt8) (w:World) (hs:s.length<1099511627776):
  Rets Tryz.prog 112 #[vs s] w (fun v D=>v=vs (wa_ s)∧D= []):=by
 refine Rets.enterV Tryz.func112 rfl (rs:= [.tmp 2]) Tryz.results112 Tryz.ntmps112 ?_
 refine kf ?_
 first|with_reducible refine ks [] @qt_ ?_|refine kp @qt_ ?_
 refine Ow.callFV rfl Tryz.call155 (fun w' hw'=>aeF_ s w' hs) ?_
 refine ko @qt_ ?_
 unfold wa_
 rw[apO_]
 generalize crcV s=n
 have h1:zs_ .rem (v32 n) (v32 256)=some (v32 (n%256)):=ks_ _ _ (by decide)
 have h2:zs_ .quo (v32 n) (v32 256)=some (v32 (n / 256)):=kF_ _ _ (by decide)
 have h3:zs_ .rem (v32 (n / 256)) (v32 256)=some (v32 (n / 256%256)):=ks_ _ _ (by decide)
 have h4:zs_ .quo (v32 n) (v32 65536)=some (v32 (n / 65536)):=kF_ _ _ (by decide)
 have h5:zs_ .rem (v32 (n / 65536)) (v32 256)=some (v32 (n / 65536%256)):=ks_ _ _ (by decide)
 have h6:zs_ .quo (v32 n) (v32 16777216)=some (v32 (n / 16777216)):=kF_ _ _ (by decide)
 first|with_reducible refine ks [] (And.intro @qt_ (And.intro @h1 (And.intro @h2 (And.intro @h3 (And.intro @h4 (And.intro @h5 (@h6))))))) ?_|refine kp (And.intro @qt_ (And.intro @h1 (And.intro @h2 (And.intro @h3 (And.intro @h4 (And.intro @h5 (@h6))))))) ?_
 generalize UInt8.ofNat (n%256).toNat=q0
 generalize UInt8.ofNat (n / 256%256).toNat=q1
 generalize UInt8.ofNat (n / 65536%256).toNat=q2
 generalize UInt8.ofNat (n / 16777216).toNat=q3
 refine Ow.buildSlice (e:=5) #[v8 q0,v8 q1,v8 q2,v8 q3] rfl rfl (by kernel_rfl) fun b1 hb1 hw1=> ?_
 rw[show(#[v8 q0,v8 q1,v8 q2,v8 q3]:Array Value)=a8 [q0,q1,q2,q3] from rfl]
 have hl4: [q0,q1,q2,q3].length=4:=rfl
 have e4:List.take 4 (List.drop 0 [q0,q1,q2,q3])= [q0,q1,q2,q3]:=rfl
 generalize [q0,q1,q2,q3]=q at*
 refine ko (And.intro @qt_ @e4) ?_
 first|with_reducible refine ks [] @qt_ ?_|refine kp @qt_ ?_
 refine⟨_,(ke @qt_),⟨hw1,trivial⟩, ?_⟩
 rfl
theorem Vd_ (s:List UInt8) (w:World) (hs:s.length<1099511627776):
  Rets Tryz.prog 105 #[vs s] w (fun v D=>v= .tuple #[vs (zw_ s).1, .bool (zw_ s).2]∧D= []):=by
 refine Rets.enterV Tryz.func105 rfl (rs:= [.tmp 2, .tmp 3]) Tryz.results105 Tryz.ntmps105 ?_
 refine kf ?_
 first|with_reducible refine ks [] @qt_ ?_|refine kp @qt_ ?_
 unfold zw_
 by_cases h4:s.length<4
 ·have e1:decide ((s.length:Int)<4)=true:=decide_eq_true (by omega)
  rw[if_pos h4]
  first|with_reducible refine ks [] (And.intro @qt_ @e1) ?_|refine kp (And.intro @qt_ @e1) ?_
  refine⟨_,(ke @qt_),trivial, ?_⟩
  rfl
 ·have e1:decide ((s.length:Int)<4)=false:=decide_eq_false (by omega)
  have e2: ((s.length:Int) - 4).toNat=s.length - 4:=by omega
  rw[if_neg h4]
  first|with_reducible refine ks [] (And.intro @qt_ (And.intro @e1 (@e2))) ?_|refine kp (And.intro @qt_ (And.intro @e1 (@e2))) ?_
  refine Ow.callFV rfl Tryz.call112 (fun w' hw'=>JE_ (s.take (s.length - 4)) w' (by rw[List.length_take];omega)) ?_
  refine ko @qt_ ?_
  cases hq: (wa_ (s.take (s.length - 4)) !=s)
  ·rw[if_pos (by simpa using hq)]
   first|with_reducible refine ks [] (And.intro @qt_ (And.intro @hq (@e2))) ?_|refine kp (And.intro @qt_ (And.intro @hq (@e2))) ?_
   refine⟨_,(ke @qt_),trivial, ?_⟩
   rfl
  ·rw[if_neg (by simpa using hq)]
   first|with_reducible refine ks [] (And.intro @qt_ @hq) ?_|refine kp (And.intro @qt_ @hq) ?_
   refine⟨_,(ke @qt_),trivial, ?_⟩
   rfl
end Go.Proofs
end
section
open Go Go.Proofs Go.Sx Go.StP Go.Flo
namespace Go.Proofs
set_option maxRecDepth 10000
set_option maxHeartbeats 1000000
set_option linter.unusedSimpArgs false
set_option linter.defProp false
def awY_:=And.intro (And.intro (@zc_) (And.intro (@zb_) (@jH_))) (And.intro (@jC_) (And.intro (@jD_) (@jk_)))
end Go.Proofs
end
section
open Go Go.Proofs Go.Sx Go.StP Go.Flo
namespace Go.Proofs
set_option maxRecDepth 10000
set_option maxHeartbeats 1000000
set_option linter.unusedSimpArgs false
def au0_ (s:List UInt8) (v:Value) (D:za_):Prop:=
 if(afw_ s).2.1=true then∃x y n A,v= .tuple #[x,y,vi n,vi A, .bool true]∧n=(afw_ s).1∧0≤n∧n≤200∧GrI D 279 3 x (Zy_ s).1.length ((Zy_ s).1.map xa_).flatten∧GrI D 3 1 y (Zy_ s).2.1.length ((Zy_ s).2.1.map natC).flatten∧
  (((Zy_ s).2.2.2=0∧A=(Zy_ s).2.2.1∧((Zy_ s).1.length:Int)=n)∨((Zy_ s).2.2.2≠0∧((Zy_ s).1.length:Int)<n))
 else v= .tuple #[.slice none 0 0, .slice none 0 0,vi 0,vi 0, .bool false]
structure RdDG where
 l:List PartL
 sp:List Nat
 a:Nat
 v1:Value
 v2:Value
 D1:za_
 D2:za_
 DG:za_
set_option linter.defProp false
def avr_:=And.intro (And.intro (@zc_) (And.intro (@zb_) (@agy_))) (And.intro (And.intro (@ahf_) (@af7_)) (And.intro (@jk_) (@w9_)))
end Go.Proofs
end
section
open Go Go.Proofs Go.Sx Go.StP Go.Flo
namespace Go.Proofs
set_option maxRecDepth 10000
set_option maxHeartbeats 1000000
set_option linter.unusedSimpArgs false
def MkD (D:za_) (v:Value) (l:List PartL) (sp:List Nat) (ids:List IdL) (os:List ObL):Prop:=
 ∃v0 v1 v2 v3,v=mkV v0 v1 v3 v2∧GrI D 279 3 v0 l.length (l.map xa_).flatten∧GrI D 3 1 v1 sp.length (sp.map natC).flatten∧GrI D 84 32 v2 ids.length (ids.map Z7_).flatten∧GrI D 82 2 v3 os.length (os.map obC).flatten
def auD_ (b:List UInt8) (v:Value) (D:za_):Prop:=match aus_ b with
 |some q=> ∃x,v= .tuple #[x, .bool true]∧MkD D x q.1 q.2.1 q.2.2.1 q.2.2.2
 |none=> ∃c0 c1 c2 c3,v= .tuple #[mkV c0 c1 c2 c3, .bool false]∧OneC c0∧OneC c1∧OneC c2∧OneC c3
def auR_ (l:List PartL) (_x c2 c3:Value) (ok:Bool) (D:za_):Prop:=match XN_ l with
 |some p=>ok=true∧GrI D 84 32 c2 p.1.length (p.1.map Z7_).flatten∧GrI D 82 2 c3 p.2.length (p.2.map obC).flatten
 |none=>ok=false
theorem api_ (a b c d e:Value): #[a,b,c,d,e][0]? =some a:=rfl
theorem aoZ_ (a b c d e:Value): #[a,b,c,d,e][1]? =some b:=rfl
theorem ao7_ (a b c d e:Value): #[a,b,c,d,e][2]? =some c:=rfl
theorem apb_ (a b c d e:Value): #[a,b,c,d,e][3]? =some d:=rfl
theorem ao1_ (a b c d e:Value): #[a,b,c,d,e][4]? =some e:=rfl
set_option linter.defProp false
def awR_:=And.intro (And.intro (And.intro (@zc_) (@zb_)) (And.intro (@Sx.tup2_0) (@Sx.tup2_1))) (And.intro (And.intro (@api_) (@aoZ_)) (And.intro (@ao7_) (And.intro (@apb_) (@ao1_))))
end Go.Proofs
end
section
open Go Go.Proofs Go.Sx Go.StP Go.Flo
namespace Go.Proofs
set_option maxRecDepth 10000
set_option maxHeartbeats 400000
set_option linter.unusedSimpArgs false
structure SaG where
 k:Nat
 out:List ObL
 v:Value
 D:za_
 DG:za_
set_option linter.defProp false
def awG_:=And.intro (And.intro (And.intro (@zc_) (And.intro (@zb_) (@Sx.tup2_0))) (And.intro (And.intro (@Sx.tup2_1) (@api_)) (And.intro (@aoZ_) (@ao7_)))) (And.intro (And.intro (@apb_) (And.intro (@ao1_) (@qb_))) (And.intro (And.intro (@zP_) (@zO_)) (And.intro (@zS_) (@ars_))))
end Go.Proofs
end
section
open Go Go.Proofs Go.Sx Go.StP Go.Flo
namespace Go.Proofs
set_option maxRecDepth 10000
set_option maxHeartbeats 400000
set_option linter.unusedSimpArgs false
def magO:List UInt8:= [83,76,79,49]
def aoY_ (b:List UInt8):List ObL:=if(zw_ b).2=true∧4≤ (zw_ b).1.length∧(zw_ b).1.take 4=magO∧Xc_ ((zw_ b).1.drop 4)=true then [ahD_ ((zw_ b).1.drop 4)] else []
def atG_ (b:List UInt8):List ObL:=aoY_ b++atX_ b
def at3_ (l:List FiL):List ObL:=(l.map fun f=>atG_ f.data).flatten
theorem am3_ (s:List UInt8): (zw_ s).1.length≤s.length:=by
 unfold zw_
 split
 ·simp
 ·split
  ·simp only[List.length_take];omega
  ·simp
structure ObjC where
 os:List ObL
 v:Value
 D:za_
 DG:za_
structure ObjG where
 k:Nat
 v:Value
 D:za_
 DG:za_
set_option linter.defProp false
def axg_:=And.intro (And.intro (And.intro (@zc_) (@zb_)) (And.intro (@Sx.tup2_0) (@Sx.tup2_1))) (And.intro (And.intro (@qb_) (@zP_)) (And.intro (@zO_) (@zS_)))
end Go.Proofs
end
section
open Go Go.Proofs Go.Sx Go.StP Go.Flo
namespace Go.Proofs
set_option maxRecDepth 10000
set_option maxHeartbeats 400000
set_option linter.unusedSimpArgs false
def idQ (o:ObL):IdL:=⟨Dig.shaR (wx_ o.k o.t),Qr_ _⟩
def ao5_ (all:List ObL):Nat→Option (List ObL)
 |0=>some []
 |i+1=>match ao5_ all i with
  |none=>none
  |some had=>if QB_ (all.getD i ob0).k (all.getD i ob0).t=true∧all.getD i ob0∉had then(if had.any (fun h=>(idQ h).l==(idQ (all.getD i ob0)).l)=true then none else some (had++ [all.getD i ob0])) else some had
def ar1_ (all:List ObL):Bool:=(ao5_ all all.length).isNone
structure ThG where
 j:Nat
 c:Bool
structure ClG where
 i:Nat
 had:List ObL
 v6:Value
 v7:Value
 D6:za_
 D7:za_
 DG:za_
set_option linter.defProp false
def avc_:=And.intro (And.intro (And.intro (@zc_) (@zb_)) (And.intro (@Sx.tup2_0) (And.intro (@Sx.tup2_1) (@qb_)))) (And.intro (And.intro (@zP_) (And.intro (@zO_) (@zS_))) (And.intro (@ars_) (And.intro (@ai0_) (@qU_))))
end Go.Proofs
end
section
open Go Go.Proofs Go.Sx Go.StP Go.Flo
namespace Go.Proofs
set_option maxRecDepth 10000
set_option maxHeartbeats 400000
set_option linter.unusedSimpArgs false
def sumF (l:List FiL):Nat:=(l.map fun f=>f.data.length / 100+f.name.length).sum
def auM_ (l:List FiL) (more:List ObL):Bool:=decide (60<l.length) ||decide (1000<sumF l) ||ar1_ (at3_ l++more)
structure GfG where
 n:Nat
 k:Nat
set_option linter.defProp false
def axu_:=And.intro (@zc_) (@zb_)
instance:DecidableEq FiL:=fun a b=>if h:a.dir=b.dir∧a.name=b.name∧a.data=b.data then .isTrue (by cases a;cases b;simp only at h;obtain⟨rfl,rfl,rfl⟩:=h;rfl) else .isFalse (fun e=>h (by rw[e];exact⟨rfl,rfl,rfl⟩))
set_option linter.defProp false
def awM_:=And.intro (And.intro (@zc_) (@zb_)) (And.intro (@WQ_) (@neFi))
end Go.Proofs
end
section
open Go Go.Proofs Go.Sx Go.StP
namespace Go.Proofs
set_option maxRecDepth 10000
set_option maxHeartbeats 400000
set_option linter.unusedSimpArgs false
def al0:DiskL:=wZ_ 100
def al1:DiskL:=(qV_ al0 zg_ [97]).1
def al2:DiskL:=(qm_ al1 zg_ [97] [120,121,122]).1
def al3:DiskL:=(qM_ al2 zg_ [97]).1
def al4:DiskL:=(zI_ al3 zg_).1
def al5:DiskL:=(qm_ al4 zg_ [97] [117,118]).1
def al6:DiskL:=qI_ al5 [0,0,0,1]
set_option linter.defProp false
def avC_:=And.intro (And.intro (@zc_) (@zb_)) (And.intro (@Sx.tup2_0) (@Sx.tup2_1))
end Go.Proofs
end
section
open Go Go.Proofs Go.Sx Go.StP
namespace Go.Proofs
set_option maxRecDepth 10000
set_option maxHeartbeats 400000
set_option linter.unusedSimpArgs false
set_option linter.defProp false
def awa_:=And.intro (@zc_) (@zb_)
end Go.Proofs
end
section
open Go Go.Proofs Go.Sx Go.StP Go.Flo
namespace Go.Proofs
set_option maxRecDepth 10000
set_option maxHeartbeats 1000000
set_option linter.unusedSimpArgs false
structure SmG where
 k:Nat
 DG:za_
set_option linter.defProp false
def avQ_:=And.intro (And.intro (@zc_) (And.intro (@zb_) (@kM_))) (And.intro (@kd_) (And.intro (@kT_) (@kZ_)))
end Go.Proofs
end
section
open Go Go.Proofs Go.Sx Go.StP Go.Flo
namespace Go.Proofs
set_option maxRecDepth 10000
set_option maxHeartbeats 1000000
set_option linter.unusedSimpArgs false
structure RfG where
 i:Nat
 S:DiskL
 G:DkG
 X:za_
 DG:za_
theorem ActOk.old {w w':World} {L:za_} {a:ActL} (h:ActOk w a) (hw:Hp w L w') (hn:New w.heap.size L):ActOk w' a:=
 ⟨h.pk.old hw fun hl _b hb=>hn.not (h.pk.blk hl hb),h.n⟩
set_option linter.defProp false
def avZ_:=And.intro (And.intro (@zc_) (And.intro (@zb_) (@QZ_))) (And.intro (@w3_) (And.intro (@XU_) (@Zi_)))
end Go.Proofs
end
section
open Go Go.Proofs Go.Sx Go.StP Go.Flo
namespace Go.Proofs
set_option maxRecDepth 10000
set_option maxHeartbeats 1000000
set_option linter.unusedSimpArgs false
theorem amU_ {S S':DiskL} {kind:Int} {dir name s:List UInt8} {e:Nat} (h:StepD S kind dir name s S' e):S'.files.length≤S.files.length+1:=by
 obtain⟨-,hb2,-⟩:=qA_ S
 cases h with
 |same=>exact Nat.le_succ _
 |burn=>rw[hb2];exact Nat.le_succ _
 |create=>show((zr_ S).1.files++ [jt_]).length≤_;rw[hb2,List.length_append];exact Nat.le_refl _
 |append=>show((zr_ S).1.files.set _ _).length≤_;rw[List.length_set,hb2];exact Nat.le_succ _
 |sync=>show((zr_ S).1.files.set _ _).length≤_;rw[List.length_set,hb2];exact Nat.le_succ _
 |syncDir=>show(zr_ S).1.files.length≤_;rw[hb2];exact Nat.le_succ _
 |rename=>show(zr_ S).1.files.length≤_;rw[hb2];exact Nat.le_succ _
 |remove=>show(zr_ S).1.files.length≤_;rw[hb2];exact Nat.le_succ _
structure DpG where
 i:Nat
 S:DiskL
 G:DkG
 X:za_
 C:DcG
 Y:za_
 DG:za_
structure DqG where
 f:Nat
 C:DcG
 Y:za_
set_option linter.defProp false
def awm_:=And.intro (And.intro (And.intro (@zc_) (And.intro (@zb_) (@Sx.tup2_0))) (And.intro (And.intro (@Sx.tup2_1) (@QZ_)) (And.intro (@w3_) (@J7_)))) (And.intro (And.intro (And.intro (@Xv_) (@Xn_)) (And.intro (@Xg_) (@aaf_))) (And.intro (And.intro (@XU_) (@Zi_)) (And.intro (@QO_) (@kd_))))
end Go.Proofs
end
section
open Go Go.Proofs Go.Sx Go.StP
namespace Go.Proofs
set_option maxRecDepth 10000
set_option maxHeartbeats 400000
set_option linter.unusedSimpArgs false
theorem afH_ {S:DiskL} (ok:DkOk S) {k:Nat} (hk:k<3) {c:CallL} (hok:okC (S.dir k).seen c) (hc:c.kind=0→c.n<S.files.length):DkOk (x1_ S k c):=
 wB_ ok _ (aaw_ c (ok.seen k hk)) (ok.stl k hk) (aak_ (ok.seenN k hk) hok hc) (ok.stlN k hk) (fun d hd=>by
  rcases List.mem_append.1 hd with hd|hd
  ·exact ok.pendN k hk d hd
  ·rw[List.mem_singleton.1 hd];exact hc)
theorem alZ_ {S S':DiskL} {kind:Int} {dir name s:List UInt8} {e:Nat} (ok:DkOk S) (h:StepD S kind dir name s S' e):DkOk S':=by
 obtain⟨hb1,hb2,-⟩:=qA_ S
 have okb:=xC_ ok
 cases h with
 |same=>exact ok
 |burn=>exact okb
 |create k hk hf hn hb=>
  refine afH_ (agB_ okb ⟨Nat.zero_le _,Nat.le_refl _⟩) (zD_ hk).1 (fun e=>by cases e) fun _=> ?_
  show S.files.length< ((zr_ S).1.files++ [jt_]).length
  rw[hb2,List.length_append];exact Nat.lt_succ_self _
 |append k m hk hm hf hb=>
  have hml:=ok.seenN k (zD_ hk).1 _ (zX_ hm)
  obtain⟨h1,h2⟩:=Jp_ ok (n:=m) hml
  refine Zd_ okb ⟨?_, ?_⟩
  ·rw[List.length_append]
   unfold Zs_ at hf
   simp only[Bool.or_eq_false_iff,decide_eq_false_iff_not] at hf
   have:=hf.1.1
   show(zl_ S m).data.length+s.length≤1048576
   omega
  ·rw[List.length_append]
   show(zl_ S m).stl≤ (zl_ S m).data.length+s.length
   omega
 |sync k m hk hm hb=>
  have hml:=ok.seenN k (zD_ hk).1 _ (zX_ hm)
  obtain⟨h1,h2⟩:=Jp_ ok (n:=m) hml
  exact Zd_ okb ⟨h1,Nat.le_refl _⟩
 |syncDir k hk hb=>
  have hk3:=(zD_ hk).1
  exact wB_ okb _ (okb.seen k hk3) (okb.seen k hk3) (okb.seenN k hk3) (okb.seenN k hk3) fun c hc=>by cases hc
 |rename k m h4 hk hm hf hne hb=>
  exact afH_ okb (zD_ hk).1 (by rw[hb1];exact aaM_ hm hne) fun e=>by cases e
 |remove k m hk hm hb=>exact afH_ okb (zD_ hk).1 (fun e=>by cases e) fun e=>by cases e
structure DsA (S:DiskL) (N:Nat):Prop where
 ok:DkOk S
 B:DkN N S
 fl:S.files.length≤N
theorem DsA.step {S S':DiskL} {N:Nat} {kind:Int} {dir name s:List UInt8} {e:Nat} (h:DsA S N) (hst:StepD S kind dir name s S' e) (hn:name.length≤1000000) (hs:s.length≤1000000):DsA S' (N+1):=
 ⟨alZ_ h.ok hst,aga_ h.B hn hs hst,Nat.le_trans (amU_ hst) (Nat.succ_le_succ h.fl)⟩
theorem DsA.mono {S:DiskL} {N M:Nat} (h:DsA S N) (hm:N≤M):DsA S M:=⟨h.ok,h.B.mono hm,Nat.le_trans h.fl hm⟩
theorem DsA.do {S:DiskL} {N:Nat} (h:DsA S N) (_hN:N<900000) (kind:Int) (dir name s:List UInt8) (hn:name.length≤1000000) (hs:s.length≤1000000):DsA (doV S kind dir name s).1 (N+1):=h.step (aq0_ S kind dir name s) hn hs
def aoR_ (light:Bool):List Nat:=if light=true then [1,2,3,5] else [1,2,3,4,5,6]
def actK (s:Nat) (dir nm data:List UInt8) (S:DiskL):DiskL×Nat:=
 if s=1 then qz_ S dir (qP_ nm) else if s=2 then qV_ S dir (qP_ nm) else if s=3 then qm_ S dir (qP_ nm) data else if s=4 then qM_ S dir (qP_ nm) else if s=5 then q4_ S dir (qP_ nm) nm else zI_ S dir
def auc_ (s:Nat) (made:Bool) (e:Nat):Bool:=if s=2 then e==0 else if s=5 then made&&e !=0 else made
structure DsR where
 done:Bool
 e:Nat
 k:Nat
 made:Bool
 S:DiskL
def atK (k:Nat) (dir nm:List UInt8) (S:DiskL):Nat:=if k=0∧(xl_ S dir (qP_ nm)).2≠0 then 1 else k
def afU_ (light:Bool) (k:Nat) (made:Bool) (dir nm data:List UInt8) (S:DiskL):DsR:=
 let k1:=atK k dir nm S
 let s:=(aoR_ light).getD k1 0
 let r:=actK s dir nm data S
 let m:=auc_ s made r.2
 if r.2≠0 then⟨false,r.2,k1+1,m,if m=true∧r.2≠9 then(qz_ r.1 dir (qP_ nm)).1 else r.1⟩ else⟨k1+1==(aoR_ light).length,0,k1+1,m,r.1⟩
def runK:Nat→Bool→Nat→Bool→List UInt8→List UInt8→List UInt8→DiskL→Nat×DiskL
 |0,_,_,_,_,_,_,S=>(0,S)
 |f+1,light,k,made,dir,nm,data,S=>if(afU_ light k made dir nm data S).done=true∨(afU_ light k made dir nm data S).e≠0 then((afU_ light k made dir nm data S).e,(afU_ light k made dir nm data S).S) else runK f light (afU_ light k made dir nm data S).k (afU_ light k made dir nm data S).made dir nm data (afU_ light k made dir nm data S).S
def phK (light:Bool) (k:Nat):Nat:=if light=true∧k=3 then 4 else k
section
variable {dir nm data:List UInt8}
end
end Go.Proofs
end
section
open Go Go.Proofs Go.Sx Go.StP
namespace Go.Proofs
set_option maxRecDepth 10000
set_option maxHeartbeats 1000000
set_option linter.unusedSimpArgs false
structure FulS (S:DiskL):Prop where
 ok:DkOk S
 uniq:vs_ S
 hist:vH_ S
 calm:vA_ S
 fine:Jt_ S
theorem FulS.good {S:DiskL} (h:FulS S):GoodS S:=h.ok.good h.uniq
theorem FulS.step {S S':DiskL} {kind:Int} {dir name s:List UInt8} {e:Nat} (h:FulS S) (hst:StepD S kind dir name s S' e):FulS S':=
 ⟨alZ_ h.ok hst,alu_ h.ok h.uniq hst,acH_ h.hist hst,aji_ h.calm hst,aj1_ h.fine hst⟩
theorem afh_ {S:DiskL} {dir x:List UInt8} {k:Nat} (hc:vA_ S) (hk:zG_ dir=some k) (hf:qY_ x=true) {d:List UInt8} (hv:qo_ S k x=some d) (s:List UInt8) (h1:d.length+s.length≤1048576) (h2: (qR_ S:Int)+s.length≤S.max): (qm_ S dir x s).2≠8:=by
 have h0:qZ_ S dir [x]=0:=by rw[jm_ hc hk,if_neg (by simp[hf])]
 obtain⟨n,hn,hd⟩:=vt_ hv
 have hfl:Zs_ S n s=false:=by
  unfold Zs_
  rw[hd]
  simp only[Bool.or_eq_false_iff,decide_eq_false_iff_not]
  exact⟨⟨by omega,by omega⟩,by omega⟩
 unfold qm_
 rw[if_neg (by rw[h0];simp),aeb_ hk,hn]
 simp only
 rw[hfl,if_neg (by simp),jR_ hc,if_neg (by simp)]
 simp
theorem ajZ_ {S:DiskL} (h:FulS S) {nm:List UInt8} (hn:qY_ nm=true) (hf:qY_ (qP_ nm)=true) (data:List UInt8):
  ∃e S',pubV S zg_ nm data true=(e,S')∧FulS S'∧S'.max=S.max∧(∀x,x≠nm→x≠qP_ nm→qo_ S' 0 x=qo_ S 0 x)∧qR_ S'≤qR_ S+ (data.length+nm.length)∧qo_ S' 0 (qP_ nm)=none∧
   ((e=0∧qo_ S' 0 nm=some data)∨(e=8∧qo_ S' 0 nm=qo_ S 0 nm∧ ¬ (data.length≤1048576∧(qR_ S:Int)+data.length≤S.max))):=by
 have hk:zG_ zg_=some 0:=rfl
 have hd:Z6_ 0=zg_:=rfl
 have tn:nm≠qP_ nm:=(ape_ nm).symm
 have other: ∀ {A B:DiskL} {kind:Int} {s:List UInt8} {e:Nat},FulS A→StepD A kind zg_ (qP_ nm) s B e→ ∀x,x≠qP_ nm→(kind=4→x≠s)→qo_ B 0 x=qo_ A 0 x:=fun hA hst x hx h4=>acP_ hA.good hst (by decide) fun _=>⟨hx,h4⟩
 have used: ∀ {A B:DiskL} {kind:Int} {e:Nat},FulS A→StepD A kind zg_ (qP_ nm) [] B e→qR_ B≤qR_ A:=fun hA hst=>aay_ hA.ok hA.uniq hst
 obtain⟨S1,⟨b0,h0⟩,a1,m1,v1,o1,u1⟩: ∃S1,(∃b,phT 0 (tk0 zg_ nm data true) S=⟨b,0,tk0 zg_ nm data true,S1⟩)∧FulS S1∧S1.max=S.max∧qo_ S1 0 (qP_ nm)=none∧(∀x,x≠qP_ nm→qo_ S1 0 x=qo_ S 0 x)∧qR_ S1≤qR_ S:=by
  have hr:=Wv_ h.calm hk hf
  show∃S1,(∃b,Wx_ (tk0 zg_ nm data true) S=_)∧_
  unfold Wx_
  cases hv:qo_ S 0 (qP_ nm) with
  |none=>
   rw[hv] at hr
   exact⟨S,⟨false,by rw[if_pos (by show(xl_ S zg_ (qP_ nm)).2≠0;rw[hr];simp)]⟩,h,rfl,hv,fun _ _=>rfl,Nat.le_refl _⟩
  |some d=>
   rw[hv] at hr
   obtain⟨r1,r2⟩:=XP_ h.calm hk hf hv
   have st:=kq_ S zg_ (qP_ nm) []
   refine⟨(qz_ S zg_ (qP_ nm)).1,⟨true, ?_⟩,h.step st,Qq_ st,r2,fun x hx=>other h st x hx fun e=>absurd e (by decide),used h st⟩
   rw[if_neg (by show¬ (xl_ S zg_ (qP_ nm)).2≠0;rw[hr];simp)]
   show PhR.mk true (qz_ S zg_ (qP_ nm)).2 _ _=_
   rw[r1];rfl
 obtain⟨r1,r2⟩:=afg_ a1.good a1.calm hk hf v1
 have st2:=ZQ_ S1 zg_ (qP_ nm) []
 have a2:=a1.step st2
 have m2:=(Qq_ st2).trans m1
 have o2:=fun x hx=>other a1 st2 x hx fun e=>absurd e (by decide)
 have u2:=Nat.le_trans (used a1 st2) u1
 have h1:phT 1 (tkN zg_ nm data true 1 false) S1=⟨true,0,tkN zg_ nm data true 1 true,(qV_ S1 zg_ (qP_ nm)).1⟩:=by
  show PhR.mk true (qV_ S1 zg_ (qP_ nm)).2 {tkN zg_ nm data true 1 false with made:=(qV_ S1 zg_ (qP_ nm)).2==0} _=_
  rw[r1];rfl
 clear st2
 generalize (qV_ S1 zg_ (qP_ nm)).1=S2 at*
 have st3:=ZL_ S2 zg_ (qP_ nm) data
 have a3:=a2.step st3
 have m3:=(Qq_ st3).trans m2
 have o3:=fun x hx=>other a2 st3 x hx fun e=>absurd e (by decide)
 have u3:=aay_ a2.ok a2.uniq st3
 have h2:phT 2 (tkN zg_ nm data true 2 true) S2=⟨true,(qm_ S2 zg_ (qP_ nm) data).2,tkN zg_ nm data true 2 true,(qm_ S2 zg_ (qP_ nm) data).1⟩:=rfl
 have hp:pubV S zg_ nm data true=phG 4 (tkN zg_ nm data true 2 true) S2:=by
  unfold pubV
  rw[Xm_ (t':=tkN zg_ nm data true 1 false) h0 rfl rfl rfl,Xm_ (t':=tkN zg_ nm data true 2 true) h1 rfl rfl rfl]
 rcases aem_ a2.good a2.calm hk hf r2 data with⟨b1,b2⟩ | ⟨b1,b2⟩
 ·have st4:=kq_ S2 zg_ (qP_ nm) []
  obtain⟨-,w2⟩:=XP_ a2.calm hk hf r2
  refine⟨8,(qz_ S2 zg_ (qP_ nm)).1, ?_,a2.step st4,(Qq_ st4).trans m2,fun x _ hx=>(other a2 st4 x hx fun e=>absurd e (by decide)).trans ((o2 x hx).trans (o1 x hx)), ?_,w2, .inr ⟨rfl,(other a2 st4 nm tn fun e=>absurd e (by decide)).trans ((o2 nm tn).trans (o1 nm tn)),fun hr=> ?_⟩⟩
  ·rw[hp,akT_ h2 (by show(qm_ S2 zg_ (qP_ nm) data).2≠0;rw[b1];simp)]
   unfold j8_
   rw[if_pos ⟨rfl,by show(qm_ S2 zg_ (qP_ nm) data).2≠9;rw[b1];simp⟩]
   show((qm_ S2 zg_ (qP_ nm) data).2,(qz_ (qm_ S2 zg_ (qP_ nm) data).1 zg_ (qP_ nm)).1)=_
   rw[b1,b2]
  ·have:=used a2 st4;omega
  ·exact afh_ a2.calm hk hf r2 data (by have:=hr.1;simp;omega) (by rw[m2];have:=hr.2;omega) b1
 ·rw[List.nil_append] at b2
  clear st3
  generalize (qm_ S2 zg_ (qP_ nm) data).1=S3 at*
  have h3:phT 3 (tkN zg_ nm data true 3 true) S3=⟨false,0,tkN zg_ nm data true 3 true,S3⟩:=rfl
  obtain⟨c1,c2,c3⟩:=ad4_ a3.good a3.calm hk hf hn (ape_ nm) b2
  have st5:=ZI_ S3 zg_ (qP_ nm) nm
  have h4:phT 4 (tkN zg_ nm data true 4 true) S3=⟨true,0,tkN zg_ nm data true 4 false,(q4_ S3 zg_ (qP_ nm) nm).1⟩:=by
   show PhR.mk true (q4_ S3 zg_ (qP_ nm) nm).2 {tkN zg_ nm data true 4 true with made:=true&& (q4_ S3 zg_ (qP_ nm) nm).2 !=0} _=_
   rw[c1];rfl
  have u5:=aay_ a3.ok a3.uniq st5
  refine⟨0,(q4_ S3 zg_ (qP_ nm) nm).1, ?_,a3.step st5,(Qq_ st5).trans m3,fun x hx hx2=>(other a3 st5 x hx2 fun _=>hx).trans ((o3 x hx2).trans ((o2 x hx2).trans (o1 x hx2))),by omega,c3, .inl ⟨rfl,c2⟩⟩
  rw[hp,Xm_ (t':=tkN zg_ nm data true 3 true) h2 b1 rfl rfl]
  show phG 3 _ S3=_
  rw[Xm_ (t':=tkN zg_ nm data true 4 true) h3 rfl rfl rfl,aq1_ h4 rfl rfl]
theorem adB_ {S:DiskL} (h:FulS S) {nm d:List UInt8} (hn:qY_ nm=true) (hv:qo_ S 0 nm=some d):
  (qM_ S zg_ nm).2=0∧(zI_ (qM_ S zg_ nm).1 zg_).2=0∧FulS (zI_ (qM_ S zg_ nm).1 zg_).1∧(∀x,qo_ (zI_ (qM_ S zg_ nm).1 zg_).1 0 x=qo_ S 0 x)∧(zI_ (qM_ S zg_ nm).1 zg_).1.dir 0=⟨(S.dir 0).seen,(S.dir 0).seen,[]⟩∧ ∃n,KeepS (zI_ (qM_ S zg_ nm).1 zg_).1 0 nm n d:=by
 have hk:zG_ zg_=some 0:=rfl
 have st1:=QC_ S zg_ nm []
 have a1:=h.step st1
 have st2:=kL_ (qM_ S zg_ nm).1 zg_ [] []
 obtain⟨s1,s2⟩:=aka_ h.good h.calm hk hn hv
 obtain⟨d1,d2⟩:=adh_ a1.calm hk
 obtain⟨n,hfn,hdn⟩:=vt_ hv
 have hnl:=h.good.lt 0 (by decide) _ (zX_ hfn)
 have h0:qZ_ S zg_ [nm]=0:=by rw[jm_ h.calm hk,if_neg (by simp[hn])]
 have e1: (qM_ S zg_ nm).1=j0_ S n ⟨(zl_ S n).data,(zl_ S n).data.length⟩:=by
  unfold qM_
  rw[if_neg (by rw[h0];simp),aeb_ hk,hfn]
  simp only
  rw[jR_ h.calm,if_neg (by simp)]
 have e2: (zI_ (qM_ S zg_ nm).1 zg_).1=wo_ (qM_ S zg_ nm).1 0:=by
  have h1:qZ_ (qM_ S zg_ nm).1 zg_ []=0:=by rw[jm_ a1.calm hk,if_neg (by simp)]
  unfold zI_
  rw[if_neg (by rw[h1];simp),jR_ a1.calm,if_neg (by simp),hk]
  rfl
 refine⟨s1,d1,a1.step st2,fun x=>(d2 0 x).trans ?_,by rw[e2,e1];rfl,n, ?_⟩
 ·by_cases hx:x=nm
  ·rw[hx,s2,hv]
  ·exact acP_ h.good st1 (by decide) fun _=>⟨hx,fun e=>absurd e (by decide)⟩
 ·have hf:zl_ (j0_ S n ⟨(zl_ S n).data,(zl_ S n).data.length⟩) n=⟨(zl_ S n).data,(zl_ S n).data.length⟩:=by rw[kC_ _ _ hnl,if_pos rfl]
  rw[e2,e1]
  refine⟨?_, ?_, ?_, ?_,fun c hc=>by cases hc⟩
  ·show n< (j0_ S n _).files.length
   unfold j0_
   simpa using hnl
  ·show(zl_ (j0_ S n _) n).data=d
   rw[hf];exact hdn
  ·show(zl_ (j0_ S n _) n).stl=(zl_ (j0_ S n _) n).data.length
   rw[hf]
  ·show zx_ (S.dir 0).seen nm=some n
   exact hfn
end Go.Proofs
end
section
open Go Go.Proofs Go.Sx Go.Dig
namespace Go.Proofs
set_option maxRecDepth 10000
set_option maxHeartbeats 4000000
set_option linter.unusedSimpArgs false
set_option linter.defProp false
def qd_:=And.intro (And.intro (@zc_) (@zb_)) (And.intro (@Sx.tup2_0) (@Sx.tup2_1))
theorem acV_ (b:UInt8) (w:World):Rets Tryz.prog 157 #[v8 b] w (fun v D=>v=vi (ji_ b)∧D= []):=by
 refine Rets.enterV Tryz.func157 rfl (rs:= [.tmp 2]) Tryz.results157 Tryz.ntmps157 ?_
 refine kf ?_
 first|with_reducible refine ks [] @qd_ ?_|refine kp @qd_ ?_
 refine Cw.loopG (G:=Nat) [5,6,3,7,8,9,10,11,2,12,4] (fun g=> [(4,vi g)]) (fun g=> []) (fun g=>g≤16∧ ∀i,i<g→hexL.getD i 0≠b) (fun g=>16 - g) 0 rfl rfl ?_ ?_
 ·exact⟨by omega,by omega⟩
 intro g j hg
 refine kv ?_
 obtain⟨hg,hne⟩:=hg
 by_cases hlt:g<16
 ·cases hb: (hexL.getD g 0==b)
  ·have hb':=hb
   simp only[hexL] at hb'
   first|with_reducible refine ks [] (And.intro @qd_ @hb') ?_|refine kp (And.intro @qd_ @hb') ?_
   refine Again.mk (g+1) (by omega) ⟨by omega, ?_⟩ rfl rfl
   intro i hi
   by_cases he:i=g
   ·subst he;simpa using hb
   ·exact hne i (by omega)
  ·have hb':=hb
   simp only[hexL] at hb'
   first|with_reducible refine ks [] (And.intro @qd_ @hb') ?_|refine kp (And.intro @qd_ @hb') ?_
   exact⟨_,rfl,trivial,by rw[aqP_ b g hlt hb];rfl⟩
 ·first|with_reducible refine ks [] @qd_ ?_|refine kp @qd_ ?_
  exact⟨_,rfl,trivial,by rw[aqx_ b (fun i hi=>hne i (by omega))];rfl⟩
theorem ah9_ (l:List UInt8) (w:World):Rets Tryz.prog 114 #[vs l] w (fun v D=>v= .tuple #[.agg (a8 (wP_ l)), .bool (JY_ l)]∧D= []):=by
 refine Rets.enterV Tryz.func114 rfl (rs:= [.cell 2 84, .tmp 3]) Tryz.results114 Tryz.ntmps114 ?_
 refine kf ?_
 first|with_reducible refine ks [] @qd_ ?_|refine kp @qd_ ?_
 refine Ow.alloc rfl rfl Tryz.zr84 fun b1 _ hw1=> ?_
 refine ko @qd_ ?_
 first|with_reducible refine ks [] @qd_ ?_|refine kp @qd_ ?_
 refine Ow.alloc rfl rfl Tryz.zr84 fun b2 hb2 hw2=> ?_
 obtain⟨h12,-⟩:=hb2
 refine ko @qd_ ?_
 by_cases h64:l.length=64
 ·first|with_reducible refine ks [] @qd_ ?_|refine kp @qd_ ?_
  refine Cw.loopG (G:=Nat) [13,14,5,15,16,17,18,19,20,21,22,23,24,25,6,7,26,27,28,29,30,31,32,3,33,34,35,36,37,38,39,40,12] (fun g=> [(12,vi g),(3, .bool false)]) (fun g=> [(b1, .cells (a8 (List.replicate 32 0)) 84),(b2, .cells (a8 (kY_ l g)) 84)]) (fun g=>g≤32∧ ∀i,i<2*g→0≤ji_ (l.getD i 0)) (fun g=>32 - g) 0 rfl rfl ?_ ?_
  ·exact⟨by omega,by omega⟩
  intro g j hg
  refine kv ?_
  obtain⟨hg,hd⟩:=hg
  have hlen:=XK_ l g hg
  by_cases hlt:g<32
  ·have d1:=ab7_ (l.getD (2*g) 0)
   have d2:=ab7_ (l.getD (2*g+1) 0)
   first|with_reducible refine ks [] @qd_ ?_|refine kp @qd_ ?_
   refine Cw.regionO [0,1,2,3,5,6,7,8,9,4,10,11,12] [] rfl (by kernel_rfl) (by kernel_rfl) ?_
   simp only[zp_, ↓zi_, ↓ze_, ↓zA_, ↓zz_,zf_]
   refine kq @qd_ ?_
   refine Ow.callFV rfl Tryz.call157 (fun w' _=>acV_ _ w') ?_
   refine kq @qd_ ?_
   refine Ow.callFV rfl Tryz.call157 (fun w' _=>acV_ _ w') ?_
   refine kq @qd_ ?_
   by_cases hn1:ji_ (l.getD (2*g) 0)<0
   ·have e1:=decide_eq_true hn1
    first|with_reducible refine ks [] (And.intro @qd_ @e1) ?_|refine kp (And.intro @qd_ @e1) ?_
    refine Ow.build (.agg (a8 (List.replicate 32 0))) rfl (by kernel_rfl) ?_
    refine ko @qd_ ?_
    first|with_reducible refine ks [] @qd_ ?_|refine kp @qd_ ?_
    have ho:=agb_ l (2*g) h64 (by omega) hn1
    refine⟨_,(ke @qd_),⟨hw1,hw2,trivial⟩, ?_⟩
    rw[wP_,ho];rfl
   ·have e1:=decide_eq_false hn1
    by_cases hn2:ji_ (l.getD (2*g+1) 0)<0
    ·have e2:=decide_eq_true hn2
     first|with_reducible refine ks [] (And.intro @qd_ (And.intro @e1 (@e2))) ?_|refine kp (And.intro @qd_ (And.intro @e1 (@e2))) ?_
     refine Ow.build (.agg (a8 (List.replicate 32 0))) rfl (by kernel_rfl) ?_
     refine ko @qd_ ?_
     first|with_reducible refine ks [] @qd_ ?_|refine kp @qd_ ?_
     have ho:=agb_ l (2*g+1) h64 (by omega) hn2
     refine⟨_,(ke @qd_),⟨hw1,hw2,trivial⟩, ?_⟩
     rw[wP_,ho];rfl
    ·have e2:=decide_eq_false hn2
     have hb:=nib (ji_ (l.getD (2*g) 0)) (ji_ (l.getD (2*g+1) 0)) (by omega) (by omega) (by omega)
     first|with_reducible refine ks [] (And.intro @qd_ (And.intro @e1 (And.intro @e2 (@hb)))) ?_|refine kp (And.intro @qd_ (And.intro @e1 (And.intro @e2 (@hb)))) ?_
     refine Again.mk (g+1) (by omega) ⟨by omega, ?_⟩ ?_ rfl
     ·intro i hi
      rcases Nat.lt_or_ge i (2*g) with h|h
      ·exact hd i h
      ·rcases Nat.eq_or_lt_of_le h with h|h
       ·rw[←h];omega
       ·have:i=2*g+1:=by omega
        rw[this];omega
     ·exact congrArg (fun z=> [(b1,Obj.cells (a8 (List.replicate 32 0)) 84),(b2,Obj.cells (a8 z) 84)]) (aah_ l g hlt _ rfl)
  ·have hg32:g=32:=by omega
   subst hg32
   first|with_reducible refine ks [] @qd_ ?_|refine kp @qd_ ?_
   have ho:=aa4_ l h64 (fun i hi=>hd i (by omega))
   refine⟨_,(ke @qd_),⟨hw1,hw2,trivial⟩, ?_⟩
   rw[wP_,ho];show Value.tuple #[.agg (a8 (kY_ l 32)),_]=_;simp[kY_]
 ·first|with_reducible refine ks [] @qd_ ?_|refine kp @qd_ ?_
  refine⟨_,(ke @qd_),⟨hw1,hw2,trivial⟩, ?_⟩
  rw[acR_ l h64,wP_,acR_ l h64];rfl
def cutV (s p:List UInt8):List UInt8×Bool:=if(decide (p.length≤s.length)&& (s.take p.length==p))=true then(s.drop p.length,true) else(s,false)
theorem abb_ (s p:List UInt8) (w:World) (hs:s.length<1099511627776):Rets Tryz.prog 137 #[vs s,vs p] w (fun v D=>v= .tuple #[vs (cutV s p).1, .bool (cutV s p).2]∧D= []):=by
 refine Rets.enterV Tryz.func137 rfl (rs:= [.tmp 4, .tmp 5]) Tryz.results137 Tryz.ntmps137 ?_
 refine kf ?_
 first|with_reducible refine ks [] @qd_ ?_|refine kp @qd_ ?_
 refine Ow.callFV rfl Tryz.call174 (fun w' hw'=>WV_ s p w' hs) ?_
 refine ko @qd_ ?_
 unfold cutV
 cases h: (decide (p.length≤s.length)&& (s.take p.length==p))
 ·first|with_reducible refine ks [] @qd_ ?_|refine kp @qd_ ?_
  refine⟨_,(ke @qd_),trivial, ?_⟩
  rfl
 ·have hle:p.length≤s.length:=by
   rw[Bool.and_eq_true,decide_eq_true_eq] at h;exact h.1
  first|with_reducible refine ks [] @qd_ ?_|refine kp @qd_ ?_
  refine⟨_,(ke @qd_),trivial, ?_⟩
  rfl
theorem aez_ (s p:List UInt8) (w:World) (hs:s.length<1099511627776):Rets Tryz.prog 102 #[vs s,vs p] w (fun v D=>v= .tuple #[vs (cutV s p).1, .bool (cutV s p).2]∧D= []):=by
 refine Rets.enterV Tryz.func102 rfl (rs:= [.tmp 4, .tmp 5]) Tryz.results102 Tryz.ntmps102 ?_
 refine kf ?_
 first|with_reducible refine ks [] @qd_ ?_|refine kp @qd_ ?_
 refine Ow.callFV rfl Tryz.call137 (fun w' hw'=>abb_ s p w' hs) ?_
 refine Ow.go rfl ?_
 simp(disch:=(first|assumption|omega| (simp only[x5_,xZ_,UInt64.reduceToNat];try omega))) only[↓Sx.S0,Sx.S1,Tryz.fx,qd_,Nat.reduceAdd,Nat.reducePow,Int.reducePow,Nat.reduceBEq, ↓reduceIte,UInt8.reduceToNat,UInt16.reduceToNat,UInt32.reduceToNat,UInt64.reduceToNat,Int.reduceToNat,Sx.tup2_0,Sx.tup2_1]
 first|with_reducible refine ks [] @qd_ ?_|refine kp @qd_ ?_
 refine⟨_,(ke @qd_),trivial, ?_⟩
 rfl
end Go.Proofs
end
section
open Go Go.Proofs Go.Sx Go.Dig
namespace Go.Proofs
set_option maxRecDepth 10000
set_option maxHeartbeats 1000000
set_option linter.unusedSimpArgs false
set_option linter.defProp false
def aap_:=And.intro (And.intro (@zc_) (@zb_)) (And.intro (@Sx.tup2_0) (@Sx.tup2_1))
theorem Xl_ {w:World} (h:GlobC w): (2:Nat)<w.heap.size:=by
 obtain⟨e,f,h⟩:=h
 exact(Array.getElem?_eq_some_iff.1 h).1
def w1_ (k:Int) (t:List UInt8):List UInt8:=wa_ (83::76::79::49::qB_ k t)
theorem j1_ (id:List UInt8) (hid:id.length=32) (w:World):Rets Tryz.prog 52 #[.agg (a8 id)] w (fun v D=>v=vs (qa_ id)∧D= []):=by
 refine Rets.enterV Tryz.func52 rfl (rs:= [.tmp 2]) Tryz.results52 Tryz.ntmps52 ?_
 refine kf ?_
 first|with_reducible refine ks [] @aap_ ?_|refine kp @aap_ ?_
 refine Ow.box rfl rfl fun b1 hb1 hw1=> ?_
 refine ko @aap_ ?_
 first|with_reducible refine ks [] @aap_ ?_|refine kp @aap_ ?_
 refine Ow.callFV rfl Tryz.call107 (fun w' hw'=>aoL_ id hid w') ?_
 refine ko @aap_ ?_
 first|with_reducible refine ks [] @aap_ ?_|refine kp @aap_ ?_
 refine⟨_,(ke @aap_),⟨hw1,trivial⟩, ?_⟩
 rfl
set_option linter.defProp false
def xM_:=And.intro (And.intro (And.intro (@zc_) (@zb_)) (And.intro (@Sx.tup2_0) (And.intro (@Sx.tup2_1) (@qb_)))) (And.intro (And.intro (@zP_) (@zO_)) (And.intro (@zS_) (And.intro (@ac3_) (@acY_))))
theorem JW_ (k:Int) (t:List UInt8) (w:World) (hG:GlobC w):Rets Tryz.prog 49 #[obV k t] w (XS w [] (fun v _=>v=if xu_ k t then .tuple #[vs (w1_ k t),vi 0] else .tuple #[vs [],vi 1])):=by
 refine Rets.enterX Tryz.func49 rfl (rs:= [.tmp 2, .tmp 3]) Tryz.results49 Tryz.ntmps49 (fun p hp=>by cases hp) (by simp[keys]) ?_
 refine kf ?_
 first|with_reducible refine ks [] @xM_ ?_|refine kp @xM_ ?_
 refine Ow.box rfl rfl fun b1 hb1 hw1=> ?_
 simp only[z4_,z1_,z3_,zd_,List.nil_append]
 refine ko @xM_ ?_
 first|with_reducible refine ks [] @xM_ ?_|refine kp @xM_ ?_
 refine Ow.callC rfl rfl Tryz.call99 (fun w' hw'=>XS_ k t w') (fun B2 v2 D2 hA2 hB2 hN2 hS2=> ?_)
 have hN2':New w.heap.size ((b1,Obj.cells #[vi k,vs t] 82 (0,0))::D2):=⟨hw1,hN2.mono hB2⟩
 cases hr:xu_ k t
 ·rw[hr,if_neg (by simp)] at hS2
  subst hS2
  have h1: ((1:Int) !=0)=true:=rfl
  refine ko (And.intro @xM_ @h1) ?_
  first|with_reducible refine ks [] (And.intro @xM_ @h1) ?_|refine kp (And.intro @xM_ @h1) ?_
  refine⟨_,(ke @xM_), ?_⟩
  exact⟨Ext.of_new hN2',rfl⟩
 ·rw[hr,if_pos rfl] at hS2
  subst hS2
  obtain⟨hk1,hk3,htl⟩:=Z5_ hr
  have hfl:=ZY_ hr
  have hsl: (83::76::79::49::qB_ k t).length<1099511627776:=by simp only[List.length_cons];omega
  have h1: ((0:Int) !=0)=false:=rfl
  refine ko (And.intro @xM_ @h1) ?_
  first|with_reducible refine ks [] (And.intro @xM_ @h1) ?_|refine kp (And.intro @xM_ @h1) ?_
  refine Ow.callFV rfl Tryz.call100 (fun w' hw'=>Wl_ (83::76::79::49::qB_ k t) w' (hG.of hw' (hN2'.not (Xl_ hG))) hsl) ?_
  refine ko @xM_ ?_
  first|with_reducible refine ks [] @xM_ ?_|refine kp @xM_ ?_
  refine⟨_,(ke @xM_), ?_⟩
  exact⟨Ext.of_new hN2',rfl⟩
theorem WX_ (k:Int) (t:List UInt8) (w:World) (hr:xu_ k t=true):Rets Tryz.prog 56 #[obV k t] w (fun v D=>v=vs (w1_ k t)∧D= []):=by
 obtain⟨hk1,hk3,htl⟩:=Z5_ hr
 have hfl:=ZY_ hr
 have hsl: (83::76::79::49::qB_ k t).length<1099511627776:=by simp only[List.length_cons];omega
 refine Rets.enterV Tryz.func56 rfl (rs:= [.tmp 2]) Tryz.results56 Tryz.ntmps56 ?_
 refine kf ?_
 first|with_reducible refine ks [] @xM_ ?_|refine kp @xM_ ?_
 refine Ow.box rfl rfl fun b1 hb1 hw1=> ?_
 simp only[z4_,z1_,z3_,zd_,List.nil_append]
 refine ko @xM_ ?_
 first|with_reducible refine ks [] @xM_ ?_|refine kp @xM_ ?_
 refine Ow.callFV rfl Tryz.call111 (fun w' hw'=>Ks_ k t w' (by omega)) ?_
 rw[Kq_ hr]
 refine ko @xM_ ?_
 refine Ow.callFV rfl Tryz.call112 (fun w' hw'=>JE_ (83::76::79::49::qB_ k t) w' hsl) ?_
 refine ko @xM_ ?_
 first|with_reducible refine ks [] @xM_ ?_|refine kp @xM_ ?_
 refine⟨_,(ke @xM_),⟨hw1,trivial⟩, ?_⟩
 rfl
end Go.Proofs
end
section
open Go Go.Proofs Go.Sx Go.Dig
namespace Go.Proofs
set_option maxRecDepth 10000
set_option maxHeartbeats 1000000
set_option linter.unusedSimpArgs false
def looS (b:List UInt8):List UInt8:=(cutV (zw_ b).1 [83,76,79,49]).1
def xR_ (name b:List UInt8):Bool:=(zw_ b).2&& (cutV (zw_ b).1 [83,76,79,49]).2&&Xc_ (looS b)&& (qa_ (idV (frK (looS b)) (frT (looS b)).1).l==name)
def Xh_ (name b:List UInt8):Int:=if xR_ name b then frK (looS b) else 0
def J8_ (name b:List UInt8):List UInt8:=if xR_ name b then(frT (looS b)).1 else []
theorem aoH_ (b:List UInt8): (looS b).length≤b.length:=by
 unfold looS cutV zw_
 split<;>split<;>(try split)<;>simp<;>omega
set_option linter.defProp false
def qK_:=And.intro (And.intro (And.intro (@qb_) (@zP_)) (And.intro (@zO_) (@zS_))) (And.intro (And.intro (@Sx.tup2_0) (@Sx.tup2_1)) (And.intro (@zc_) (@zb_)))
theorem ZW_ (name b:List UInt8) (w:World) (hG:GlobC w) (hE:GlobE w) (hb:b.length<1099511627776):Rets Tryz.prog 50 #[vs name,vs b] w (fun v D=>v= .tuple #[obV (Xh_ name b) (J8_ name b), .bool (xR_ name b)]∧D= []):=by
 have hul: (zw_ b).1.length≤b.length:=by
  unfold zw_
  split
  ·simp
  ·split<;>simp
 have hsl:=aoH_ b
 refine Rets.enterV Tryz.func50 rfl (rs:= [.cell 4 82, .tmp 5]) Tryz.results50 Tryz.ntmps50 ?_
 refine kf ?_
 first|with_reducible refine ks [] @qK_ ?_|refine kp @qK_ ?_
 refine Ow.alloc rfl rfl zrOb fun b4 hb4 hw4=> ?_
 simp only[zd_,List.nil_append,List.cons_append]
 refine ko @qK_ ?_
 first|with_reducible refine ks [] @qK_ ?_|refine kp @qK_ ?_
 have hN4:New w.heap.size [(b4,Obj.cells #[vi 0,vs []] 82 (0,0))]:=⟨hw4,trivial⟩
 refine Ow.callFV rfl Tryz.call101 (fun w' hw'=>abO_ b w' (hG.of hw' (hN4.not (Xl_ hG))) (by omega)) ?_
 obtain⟨us,hus⟩: ∃us,(zw_ b).1=us:=⟨_,rfl⟩
 obtain⟨u2,hu2⟩: ∃u2,(zw_ b).2=u2:=⟨_,rfl⟩
 rw[hus,hu2]
 rw[hus] at hul
 refine ko @qK_ ?_
 first|with_reducible refine ks [] @qK_ ?_|refine kp @qK_ ?_
 refine Ow.callFV rfl Tryz.call102 (fun w' hw'=>aez_ us [83,76,79,49] w' (by omega)) ?_
 obtain⟨cs,hcs⟩: ∃cs,(cutV us [83,76,79,49]).1=cs:=⟨_,rfl⟩
 obtain⟨c2,hc2⟩: ∃c2,(cutV us [83,76,79,49]).2=c2:=⟨_,rfl⟩
 have hlc:looS b=cs:=by unfold looS;rw[hus,hcs]
 rw[hcs,hc2]
 rw[hlc] at hsl
 refine ko @qK_ ?_
 first|with_reducible refine ks [] @qK_ ?_|refine kp @qK_ ?_
 refine Ow.callFV rfl Tryz.call103 (fun w' hw'=>ahH_ cs w' (by omega)) ?_
 obtain⟨K,hK⟩: ∃K,(if Xc_ cs=true then frK cs else 0)=K:=⟨_,rfl⟩
 obtain⟨T,hT⟩: ∃T,(if Xc_ cs=true then(frT cs).1 else [])=T:=⟨_,rfl⟩
 rw[hK,hT]
 refine ko @qK_ ?_
 refine Ow.alloc rfl rfl zrOb fun b10 hb10 hw10=> ?_
 simp only[zd_,List.nil_append,List.cons_append]
 have h410:b4<b10:=zk_ hb10 (by simp[keys])
 refine ko @qK_ ?_
 first|with_reducible refine ks [] @qK_ ?_|refine kp @qK_ ?_
 have hNA:New w.heap.size [(b4,Obj.cells #[vi 0,vs []] 82 (0,0)),(b10,Obj.cells #[vi K,vs T] 82 (0,0))]:=⟨hw4,hw10,trivial⟩
 refine Ow.callFV rfl Tryz.call104 (fun w' hw'=>agQ_ K T w' (hE.new hw' hNA)) ?_
 refine ko @qK_ ?_
 refine Ow.alloc rfl rfl ZN_ fun b12 hb12 hw12=> ?_
 simp only[zd_,List.nil_append,List.cons_append]
 have h412:b4<b12:=zk_ hb12 (by simp[keys])
 have h1012:b10<b12:=zk_ hb12 (by simp[keys])
 have hil:=(idV K T).h
 have hi0:=id0.h
 refine ko @qK_ ?_
 have hzb:jy_ (wE_ Tryz.prog 82) (zW_ Tryz.prog 82) []=some (obV 0 []):=id (by kernel_rfl)
 have hNB:New w.heap.size [(b4,Obj.cells #[vi 0,vs []] 82 (0,0)),(b10,Obj.cells #[vi K,vs T] 82 (0,0)),(b12,Obj.cells (a8 (idV K T).l) 84 (0,0))]:=⟨hw4,hw10,hw12,trivial⟩
 have e0: ((0:Int) !=0)=false:=rfl
 have e2: ((2:Int) !=0)=true:=rfl
 have hO:xR_ name b=(u2&&c2&&Xc_ cs&& (qa_ (idV (frK cs) (frT cs).1).l==name)):=by
  unfold xR_
  rw[hu2,hus,hc2,hlc]
 cases u2 with
 |false=>
  have hlo:xR_ name b=false:=by rw[hO];rfl
  ((try with_reducible refine Cw.go [] ?_);(try simp(disch:=(first|assumption|omega| (simp only[x5_,xZ_,UInt64.reduceToNat];try omega))) only[↓Sx.S0,Sx.S1,Tryz.fx,qK_,Nat.reduceAdd,Nat.reducePow,Int.reducePow,Nat.reduceBEq, ↓reduceIte,UInt8.reduceToNat,UInt16.reduceToNat,UInt32.reduceToNat,UInt64.reduceToNat,Int.reduceToNat,Bool.not_false,Bool.not_true,e0]))
  refine Ow.build _ rfl hzb ?_
  refine ko @qK_ ?_
  first|with_reducible refine ks [] @qK_ ?_|refine kp @qK_ ?_
  refine⟨_,(ke @qK_),hNB, ?_⟩
  rw[Xh_,J8_,hlo];rfl
 |true=>
  cases c2 with
  |false=>
   have hlo:xR_ name b=false:=by rw[hO];rfl
   ((try with_reducible refine Cw.go [] ?_);(try simp(disch:=(first|assumption|omega| (simp only[x5_,xZ_,UInt64.reduceToNat];try omega))) only[↓Sx.S0,Sx.S1,Tryz.fx,qK_,Nat.reduceAdd,Nat.reducePow,Int.reducePow,Nat.reduceBEq, ↓reduceIte,UInt8.reduceToNat,UInt16.reduceToNat,UInt32.reduceToNat,UInt64.reduceToNat,Int.reduceToNat,Bool.not_false,Bool.not_true,e0]))
   refine Ow.build _ rfl hzb ?_
   refine ko @qK_ ?_
   first|with_reducible refine ks [] @qK_ ?_|refine kp @qK_ ?_
   refine⟨_,(ke @qK_),hNB, ?_⟩
   rw[Xh_,J8_,hlo];rfl
  |true=>
   cases hf:Xc_ cs with
   |false=>
    have hlo:xR_ name b=false:=by rw[hO,hf];rfl
    rw[show(if(false:Bool)=true then(0:Int) else 2)=2 from rfl]
    ((try with_reducible refine Cw.go [] ?_);(try simp(disch:=(first|assumption|omega| (simp only[x5_,xZ_,UInt64.reduceToNat];try omega))) only[↓Sx.S0,Sx.S1,Tryz.fx,qK_,Nat.reduceAdd,Nat.reducePow,Int.reducePow,Nat.reduceBEq, ↓reduceIte,UInt8.reduceToNat,UInt16.reduceToNat,UInt32.reduceToNat,UInt64.reduceToNat,Int.reduceToNat,Bool.not_false,Bool.not_true,e2]))
    refine Ow.build _ rfl hzb ?_
    refine ko @qK_ ?_
    first|with_reducible refine ks [] @qK_ ?_|refine kp @qK_ ?_
    refine⟨_,(ke @qK_),hNB, ?_⟩
    rw[Xh_,J8_,hlo];rfl
   |true=>
    rw[show(if(true:Bool)=true then(0:Int) else 2)=0 from rfl]
    rw[hf,if_pos rfl] at hK hT
    have hr:xu_ K T=true:=by
     rw[←hK,←hT]
     unfold Xc_ at hf
     rw[Bool.and_eq_true] at hf
     exact hf.2
    rw[hr]
    rw[hf,hK,hT,Bool.true_and,Bool.true_and,Bool.true_and] at hO
    ((try with_reducible refine Cw.go [] ?_);(try simp(disch:=(first|assumption|omega| (simp only[x5_,xZ_,UInt64.reduceToNat];try omega))) only[↓Sx.S0,Sx.S1,Tryz.fx,qK_,Nat.reduceAdd,Nat.reducePow,Int.reducePow,Nat.reduceBEq, ↓reduceIte,UInt8.reduceToNat,UInt16.reduceToNat,UInt32.reduceToNat,UInt64.reduceToNat,Int.reduceToNat,Bool.not_false,Bool.not_true,e0]))
    refine Ow.callFV rfl Tryz.call52 (fun w' hw'=>j1_ (idV K T).l hil w') ?_
    cases hq: (qa_ (idV K T).l==name) with
    |false=>
     have hq2: (qa_ (idV K T).l !=name)=true:=by simp[bne,hq]
     have hlo:xR_ name b=false:=by rw[hO,hq]
     refine ko (And.intro @qK_ @hq2) ?_
     first|with_reducible refine ks [] @qK_ ?_|refine kp @qK_ ?_
     refine Ow.build _ rfl hzb ?_
     refine ko @qK_ ?_
     first|with_reducible refine ks [] @qK_ ?_|refine kp @qK_ ?_
     refine⟨_,(ke @qK_),hNB, ?_⟩
     rw[Xh_,J8_,hlo];rfl
    |true=>
     have hq2: (qa_ (idV K T).l !=name)=false:=by simp[bne,hq]
     have hlo:xR_ name b=true:=by rw[hO,hq]
     refine ko (And.intro @qK_ @hq2) ?_
     first|with_reducible refine ks [] @qK_ ?_|refine kp @qK_ ?_
     refine⟨_,(ke @qK_),hNB, ?_⟩
     rw[Xh_,J8_,hlo,if_pos rfl,if_pos rfl,hlc,hK,hT];rfl
end Go.Proofs
end
namespace Go.Dig
open Go.Sx
theorem ahi_ (id:List UInt8) (i:Nat) (h:i<id.length): (qa_ id).getD (2*i) 0=hexD ((id.getD i 0).toNat / 16)∧(qa_ id).getD (2*i+1) 0=hexD ((id.getD i 0).toNat%16):=by
 induction id generalizing i with
 |nil=>cases h
 |cons b r ih=>
  have e:qa_ (b::r)=hexD (b.toNat / 16)::hexD (b.toNat%16)::qa_ r:=rfl
  rw[e]
  cases i with
  |zero=>exact⟨rfl,rfl⟩
  |succ i=>
   have:=ih i (by simpa using h)
   rw[show 2* (i+1)=2*i+1+1 from by omega]
   simpa using this
theorem vI_ (n:Nat) (h:n<16):ji_ (hexD n)=n:=by
 have: ∀i:Fin 16,ji_ (hexD i.val)=(i.val:Int):=by decide+kernel
 exact this ⟨n,h⟩
theorem Wh_ (id:List UInt8) (h:id.length=32):JY_ (qa_ id)=true:=by
 apply aa4_ _ (by rw[ja_,h])
 intro i hi
 have hb:=(id.getD (i / 2) 0).toNat_lt
 have:=ahi_ id (i / 2) (by omega)
 rcases Nat.mod_two_eq_zero_or_one i with h2|h2
 ·rw[show i=2* (i / 2) by omega,this.1,vI_ _ (by omega)];omega
 ·rw[show i=2* (i / 2)+1 by omega,this.2,vI_ _ (by omega)];omega
theorem aiK_ (b:UInt8):UInt8.ofInt (((b.toNat / 16:Nat):Int)*16+ ((b.toNat%16:Nat):Int))=b:=by
 apply UInt8.toNat.inj
 have hb:=b.toNat_lt
 rw[show∀n:Int,UInt8.ofInt n=UInt8.ofNat (n%2^8).toNat from fun _=>rfl,UInt8.toNat_ofNat']
 omega
theorem ad3_ (id:List UInt8) (h:id.length=32):wP_ (qa_ id)=id:=by
 unfold wP_
 rw[Wh_ id h,if_pos rfl]
 apply List.ext_getElem
 ·simp[ZD_,h]
 intro i h1 h2
 have hi:i<32:=by omega
 have:=ahi_ id i (by omega)
 have hb:=(id.getD i 0).toNat_lt
 simp only[ZD_,List.getElem_map,List.getElem_range]
 rw[this.1,this.2,vI_ _ (by omega),vI_ _ (by omega),aiK_]
 simp[List.getD_eq_getElem?_getD,h,hi]
theorem W4_ (l:List UInt8): (wP_ l).length=32:=by
 unfold wP_;split<;>simp[ZD_]
end Go.Dig
section
open Go Go.Proofs Go.Sx Go.StP Go.Dig
namespace Go.Proofs
set_option maxRecDepth 10000
set_option maxHeartbeats 1000000
set_option linter.unusedSimpArgs false
theorem agS_: ∀n:Fin 16,Q5_ (hexD n.val)=false:=by decide+kernel
theorem am4_ (id:List UInt8): (qa_ id).any Q5_=false:=by
 rw[List.any_eq_false]
 intro c hc
 obtain⟨b,-,hb⟩:=List.mem_flatMap.1 hc
 have hlt:=b.toNat_lt
 unfold hexB at hb
 rcases List.mem_cons.1 hb with rfl|hb
 ·simpa using agS_ ⟨b.toNat / 16,by omega⟩
 ·rw[List.mem_singleton.1 hb]
  simpa using agS_ ⟨b.toNat%16,by omega⟩
theorem Qy_ (x:IdL):qY_ (qa_ x.l)=true∧qY_ (qP_ (qa_ x.l))=true:=by
 have hl: (qa_ x.l).length=64:=by rw[ja_,x.h]
 have hb:=am4_ x.l
 have hn: ∀s:List UInt8,64≤s.length→(s== [])=false:=fun s h=>by
  cases s with
  |nil=>simp at h
  |cons a t=>rfl
 unfold qY_ qP_
 rw[hn _ (by omega),hn _ (by rw[List.length_append];omega),List.any_append,hb,List.length_append,hl]
 exact⟨rfl,rfl⟩
theorem apJ_ {x y:IdL} (h:x.l=y.l):x=y:=by cases x;cases y;cases h;rfl
theorem abZ_ (s:List UInt8):zw_ (wa_ s)=(s,true):=by
 have hl:=KN_ s
 have ht: (wa_ s).take ((wa_ s).length - 4)=s:=by rw[hl,Nat.add_sub_cancel];unfold wa_;rw[List.take_left]
 unfold zw_
 rw[if_neg (by omega),ht,if_pos rfl]
theorem amn_ {k:Int} (h:1≤k∧k≤3): ∃c,wK_ k= [c]∧Lib.indexByte letL c=k:=by
 rcases(show k=1∨k=2∨k=3 by omega) with rfl|rfl|rfl
 ·exact⟨98,rfl,rfl⟩
 ·exact⟨116,rfl,rfl⟩
 ·exact⟨99,rfl,rfl⟩
theorem afW_ {k:Int} {t:List UInt8} (h:xu_ k t=true):Xc_ (qB_ k t)=true∧frK (qB_ k t)=k∧(frT (qB_ k t)).1=t:=by
 obtain⟨h1,h2,h3⟩:=Z5_ h
 obtain⟨c,hc,hi⟩:=amn_ ⟨h1,h2⟩
 have e:qB_ k t=c::j2_ t:=by unfold qB_;rw[hc];rfl
 have hk:frK (c::j2_ t)=k:=by
  have:frK (c::j2_ t)=Lib.indexByte letL c:=by unfold frK;rw[aai_];rfl
  rw[this,hi]
 have ht:=aiv_ [] t [] 4096 (by omega) (by omega)
 rw[List.nil_append,List.append_nil,List.length_nil,Nat.zero_add] at ht
 have hl:lfT (j2_ t)=(t,(j2_ t).length,0):=ht
 rw[e]
 refine⟨?_,hk, ?_⟩
 ·unfold Xc_
  rw[hk,Xe_,acL_,hl]
  simp[xw_,h]
 ·rw[Xe_,hl]
theorem alm_ (s:List UInt8):cutV (83::76::79::49::s) [83,76,79,49]=(s,true):=by
 unfold cutV
 rw[if_pos (by simp)]
 rfl
theorem apy_ (k:Int) (t:List UInt8): (zw_ (w1_ k t))=(83::76::79::49::qB_ k t,true)∧looS (w1_ k t)=qB_ k t:=by
 have h1:=abZ_ (83::76::79::49::qB_ k t)
 refine⟨h1, ?_⟩
 unfold looS w1_
 rw[h1,alm_]
theorem af4_ {k:Int} {t:List UInt8} (h:xu_ k t=true):xR_ (qa_ (idV k t).l) (w1_ k t)=true∧Xh_ (qa_ (idV k t).l) (w1_ k t)=k∧J8_ (qa_ (idV k t).l) (w1_ k t)=t:=by
 obtain⟨e1,e2⟩:=apy_ k t
 obtain⟨f1,f2,f3⟩:=afW_ h
 have ho:xR_ (qa_ (idV k t).l) (w1_ k t)=true:=by
  unfold xR_
  rw[e1,e2,f1,f2,f3,alm_,beq_self_eq_true]
  rfl
 unfold Xh_ J8_
 rw[ho,if_pos rfl,if_pos rfl,e2]
 exact⟨rfl,f2,f3⟩
structure LooI (nm d:List UInt8):Prop where
 right:xu_ (Xh_ nm d) (J8_ nm d)=true
 name:qa_ (idV (Xh_ nm d) (J8_ nm d)).l=nm
 bytes:d=w1_ (Xh_ nm d) (J8_ nm d)
 obj: (⟨Xh_ nm d,J8_ nm d⟩:ObL)∈aoY_ d
theorem ag7_ {k:Int} {t:List UInt8} (h:xu_ k t=true): (w1_ k t).length≤4200:=by
 obtain⟨h1,h2,h3⟩:=Z5_ h
 obtain⟨c,hc,-⟩:=amn_ ⟨h1,h2⟩
 have:=zQ_ (t.length:Int)
 unfold w1_ qB_ j2_
 rw[KN_,hc]
 simp only[List.length_cons,List.length_append,List.length_nil]
 omega
structure GotR where
 k:Int
 t:List UInt8
 e:Nat
def getL (S:DiskL) (x:IdL):GotR:=
 if(xl_ S zg_ (qa_ x.l)).2≠0 then⟨0,[],(xl_ S zg_ (qa_ x.l)).2⟩ else if xR_ (qa_ x.l) (xl_ S zg_ (qa_ x.l)).1=true then⟨Xh_ (qa_ x.l) (xl_ S zg_ (qa_ x.l)).1,J8_ (qa_ x.l) (xl_ S zg_ (qa_ x.l)).1,0⟩ else⟨0,[],17⟩
structure PutR where
 x:IdL
 e:Nat
 S:DiskL
def putL (S:DiskL) (k:Int) (t:List UInt8):PutR:=
 if xu_ k t=false then⟨id0,1,S⟩ else if(getL S (idV k t)).e=0 then⟨idV k t,0,S⟩ else if(pubV S zg_ (qa_ (idV k t).l) (w1_ k t) true).1=0 then⟨idV k t,0,(pubV S zg_ (qa_ (idV k t).l) (w1_ k t) true).2⟩ else⟨id0,(pubV S zg_ (qa_ (idV k t).l) (w1_ k t) true).1,(pubV S zg_ (qa_ (idV k t).l) (w1_ k t) true).2⟩
def hexI (s:List UInt8):IdL:=⟨wP_ s,W4_ s⟩
def looP (S:DiskL) (s:List UInt8):Bool:=JY_ s&& (getL S (hexI s)).e==0
def Kc_ (S:DiskL) (l:List (List UInt8)):List IdL:=(l.filter (looP S)).map hexI
def amh_ (S:DiskL):List IdL:=Kc_ S (wb_ S zg_)
def wd_:List IdL→DiskL→Nat×DiskL
 | [],S=>(0,S)
 |x::l,S=>if(qM_ S zg_ (qa_ x.l)).2≠0∧(qM_ S zg_ (qa_ x.l)).2≠6 then((qM_ S zg_ (qa_ x.l)).2,(qM_ S zg_ (qa_ x.l)).1) else wd_ l (qM_ S zg_ (qa_ x.l)).1
def Z2_ (l:List IdL) (S:DiskL):Nat×DiskL:=
 if(wd_ l S).1≠0 then wd_ l S else if l= [] then(0,(wd_ l S).2) else((zI_ (wd_ l S).2 zg_).2,(zI_ (wd_ l S).2 zg_).1)
theorem aqG_ {S:DiskL} {k:Int} {t:List UInt8} (h:xu_ k t=true) (hr:xl_ S zg_ (qa_ (idV k t).l)=(w1_ k t,0)):getL S (idV k t)=⟨k,t,0⟩:=by
 obtain⟨h1,h2,h3⟩:=af4_ h
 unfold getL
 rw[hr,if_neg (by simp),if_pos h1,h2,h3]
theorem akn_ {S:DiskL} (hc:vA_ S) (x:IdL):xl_ S zg_ (qa_ x.l)=match qo_ S 0 (qa_ x.l) with|none=>([],6) |some d=>(d,0):=Wv_ hc (dir:=zg_) rfl (Qy_ x).1
end Go.Proofs
end
section
open Go Go.Proofs Go.Sx Go.StP Go.Dig
namespace Go.Proofs
set_option maxRecDepth 10000
set_option maxHeartbeats 1000000
set_option linter.unusedSimpArgs false
theorem ajM_ {S:DiskL} (ok:DkOk S) (dir nm:List UInt8): (xl_ S dir nm).1.length≤1048576:=by
 unfold xl_
 split
 ·simp
 ·cases hb: (zG_ dir).bind fun k=>zx_ (S.dir k).seen nm with
  |none=>simp
  |some n=>
   simp only
   rw[List.getD_eq_getElem?_getD]
   cases hf:S.files[n]? with
   |none=>simp[jt_]
   |some f=>exact(ok.file f (List.mem_of_getElem? hf)).1
set_option linter.defProp false
def xo_:=And.intro (And.intro (And.intro (@qb_) (@zP_)) (And.intro (@zO_) (@zS_))) (And.intro (And.intro (@Sx.tup2_0) (@Sx.tup2_1)) (And.intro (@zc_) (And.intro (@zb_) (@qU_))))
theorem Jl_ (w:World) (G:DkG) (S:DiskL) (x:IdL) (hD:DkW w G S) (ok:DkOk S) (hC:GlobC w) (hE:GlobE w):
  Rets Tryz.prog 62 #[vp G.bd 0, .agg (a8 x.l)] w (fun v D=>v= .tuple #[obV (getL S x).k (getL S x).t,vi ((getL S x).e:Nat)]∧D= []):=by
 have hx:=x.h
 have hxl: (qa_ x.l).length=64:=by rw[ja_,x.h]
 have hrl:=ajM_ ok zg_ (qa_ x.l)
 have hzb:jy_ (wE_ Tryz.prog 82) (zW_ Tryz.prog 82) []=some (obV 0 []):=id (by kernel_rfl)
 refine Rets.enterV Tryz.func62 rfl (rs:= [.cell 4 82, .tmp 5]) Tryz.results62 Tryz.ntmps62 ?_
 refine kf ?_
 first|with_reducible refine ks [] @xo_ ?_|refine kp @xo_ ?_
 refine Ow.box rfl rfl fun b3 hb3 hw3=> ?_
 simp only[z4_,z1_,z3_,zd_,List.nil_append]
 refine ko @xo_ ?_
 refine Ow.alloc rfl rfl zrOb fun b4 hb4 hw4=> ?_
 simp only[zd_,List.nil_append,List.cons_append]
 have h34:b3<b4:=zk_ hb4 (by simp[keys])
 have hN4:New w.heap.size [(b3,Obj.cells (a8 x.l) 84 (0,0)),(b4,Obj.cells #[vi 0,vs []] 82 (0,0))]:=⟨hw3,hw4,trivial⟩
 refine ko @xo_ ?_
 first|with_reducible refine ks [] @xo_ ?_|refine kp @xo_ ?_
 refine Ow.callFV rfl Tryz.call52 (fun w' hw'=>j1_ x.l hx w') ?_
 refine ko @xo_ ?_
 refine Ow.callFV rfl Tryz.call23 (fun w' hw'=>V0_ w' G S zg_ (qa_ x.l) (hD.old hw' hN4) (by omega)) ?_
 have hg:getL S x=(if(xl_ S zg_ (qa_ x.l)).2≠0 then⟨0,[],(xl_ S zg_ (qa_ x.l)).2⟩ else if xR_ (qa_ x.l) (xl_ S zg_ (qa_ x.l)).1=true then⟨Xh_ (qa_ x.l) (xl_ S zg_ (qa_ x.l)).1,J8_ (qa_ x.l) (xl_ S zg_ (qa_ x.l)).1,0⟩ else⟨0,[],17⟩):=rfl
 rw[hg]
 clear hg
 generalize xl_ S zg_ (qa_ x.l)=q at*
 obtain⟨d,e⟩:=q
 simp only at hrl ⊢
 by_cases he:e≠0
 ·have e1:=jO_ he
  rw[if_pos he]
  refine ko @xo_ ?_
  first|with_reducible refine ks [] (And.intro @xo_ @e1) ?_|refine kp (And.intro @xo_ @e1) ?_
  refine Ow.build _ rfl hzb ?_
  refine ko @xo_ ?_
  first|with_reducible refine ks [] @xo_ ?_|refine kp @xo_ ?_
  refine⟨_,(ke @xo_),hN4, ?_⟩
  rfl
 ·obtain rfl:e=0:=by simpa using he
  have e1: (((0:Nat):Int) !=0)=false:=rfl
  rw[if_neg he]
  refine ko @xo_ ?_
  first|with_reducible refine ks [] (And.intro @xo_ @e1) ?_|refine kp (And.intro @xo_ @e1) ?_
  refine Ow.callFV rfl Tryz.call52 (fun w' hw'=>j1_ x.l hx w') ?_
  refine ko @xo_ ?_
  refine Ow.callFV rfl Tryz.call50 (fun w' hw'=>ZW_ (qa_ x.l) d w' (hC.of hw' (hN4.not (Xl_ hC))) (hE.new hw' hN4) (by omega)) ?_
  refine ko @xo_ ?_
  refine Ow.alloc rfl rfl zrOb fun b8 hb8 hw8=> ?_
  simp only[zd_,List.nil_append,List.cons_append]
  have h38:b3<b8:=zk_ hb8 (by simp[keys])
  have h48:b4<b8:=zk_ hb8 (by simp[keys])
  have hN8:New w.heap.size [(b3,Obj.cells (a8 x.l) 84 (0,0)),(b4,Obj.cells #[vi 0,vs []] 82 (0,0)),(b8,Obj.cells #[vi (Xh_ (qa_ x.l) d),vs (J8_ (qa_ x.l) d)] 82 (0,0))]:=⟨hw3,hw4,hw8,trivial⟩
  refine ko @xo_ ?_
  cases hlo:xR_ (qa_ x.l) d with
  |false=>
   rw[if_neg (by simp)]
   first|with_reducible refine ks [] @xo_ ?_|refine kp @xo_ ?_
   refine Ow.build _ rfl hzb ?_
   refine ko @xo_ ?_
   first|with_reducible refine ks [] @xo_ ?_|refine kp @xo_ ?_
   refine⟨_,(ke @xo_),hN8, ?_⟩
   rfl
  |true=>
   rw[if_pos rfl]
   first|with_reducible refine ks [] @xo_ ?_|refine kp @xo_ ?_
   refine⟨_,(ke @xo_),hN8, ?_⟩
   rfl
end Go.Proofs
end
namespace Go.Sx
open Go
theorem Ext.perm {w:World} {X D D':za_} (h:Ext w X D) (hp:D'.Perm D):Ext w X D':=
 ⟨fun c hc=>h.new c ((hp.map Prod.fst).mem_iff.1 hc),fun c hc=>(hp.map Prod.fst).mem_iff.2 (h.all c hc)⟩
section
variable {P:Program} {w0:World} {f:Fr} {L:za_} {N:Fr→za_→Prop} {ops:Array Oper} {rest:List Oper} {md:Md} {d:Option Tmp} {ty:TypeId} {ps:String} {af:Array Edge} {g:Option (Nat×Bool)}
theorem Ow.callFnX2 {x y y2:Operand} {b b2:Value} {ts:Array TypeId} {k:FuncId} {X Y:za_} {S:Value→za_→Prop} {md':Md} (hL:L=X++Y) (he:md.turn=some md')
  (hs:zq_ ops f ⟨d, .call ⟨.value x, #[y,y2],ts⟩,ty,ps,af,g⟩=false)
  (hx:ev f x= .func (.func k) #[] #[]) (hy:ev f y=b) (hy2:ev f y2=b2)
  (hk: ∀a w,(callFunc k a).run P w= .ok (.enter k a) w)
  (hc: ∀w,Hp w0 L w→(∀p,p∈X→w.heap[p.1]? =some p.2)→(keys X).Nodup→Rets P k #[b,b2] w (XS w X S))
  (hn: ∀v D,Came w0 L X D→S v D→Ow P w0 ops md' rest (qG_ f d v) (D++Y) N):
  Ow P w0 ops md (⟨d, .call ⟨.value x, #[y,y2],ts⟩,ty,ps,af,g⟩::rest) f L N:=by
 subst hL
 have hnd: ∀w,Hp w0 (X++Y) w→(keys X).Nodup∧ ∀c,c∈keys Y→c∉keys X:=by
  intro w hw
  have:=hw.nodup
  rw[zv_,List.nodup_append] at this
  exact⟨this.1,fun c hc hx=>this.2.2 c hx c hc rfl⟩
 refine Ow.call (S:=fun B v D=>((∀c,c∈keys D→c∈keys X∨B≤c)∧(∀c,c∈keys X→c∈keys D)∧S v D)∧ ∃w,Hp w0 (X++Y) w∧w.heap.size=B) he hs hx hk (fun w hw=> ?_) ?_
 ·show Rets P k (#[]++ #[y,y2].map (ev f)++ #[]) w _
  rw[show(#[]++ #[y,y2].map (ev f)++ #[]:Array Value)= #[b,b2] by simp[hy,hy2]]
  refine Calls.mono (hc w hw (fun p hp=>hw.has _ _ (List.mem_append_left _ hp)) (hnd w hw).1) ?_
  rintro e w' ⟨v,D,he,hp,hS⟩
  exact⟨v,D,he,hp,⟨hS.1.new,hS.1.all,hS.2⟩,w,hw,rfl⟩
 ·rintro B v D hab hB ⟨⟨h1,h2,h3⟩,w1,hw1,hwB⟩
  refine⟨D++Y, ?_,hn v D ⟨fun c hc=>(h1 c hc).imp id fun h=>⟨z2_ fun b hb=>by have:=hw1.lt hb;omega,by have:=hw1.size;omega⟩,h2⟩ h3⟩
  intro w w' hwb h k
  have ht:=h.trans k
  have hY: ∀c,c∈keys Y→c∉keys D:=by
   intro c hc hd
   rcases h1 c hd with hx|hx
   ·exact(hnd w h).2 c hc hx
   ·have:=h.lt (b:=c) (by rw[zv_];exact List.mem_append_right _ hc)
    omega
  have e1:X.filter (fun p=> !(keys D).contains p.1)= []:=by
   rw[List.filter_eq_nil_iff]
   intro p hp
   have:=h2 p.1 (List.mem_map.2 ⟨p,hp,rfl⟩)
   simpa using this
  have e2:Y.filter (fun p=> !(keys D).contains p.1)=Y:=qX_ hY
  rw[List.filter_append,e1,e2,List.nil_append] at ht
  refine ht.same (fun p=>by simp[or_comm]) ?_
  have:=ht.nodup
  rw[zv_] at this ⊢
  exact(List.perm_append_comm.nodup_iff).1 this
end
end Go.Sx
section
open Go Go.Proofs Go.Sx Go.StP
namespace Go.Proofs
set_option maxRecDepth 10000
set_option maxHeartbeats 400000
set_option linter.unusedSimpArgs false
def tkO (t:TkL):Obj:= .cells #[vs t.dir,vs t.name,vs t.data, .bool t.light,vi (t.next:Int), .bool t.made, .bool t.ended] 193 (0,0)
theorem agP_ (t:TkL) (n:Nat):zo_ (some (false,n)) (some (tkO t)) 0=some (vs t.dir):=(rfl)
theorem ag3_ (t:TkL) (n:Nat):zo_ (some (false,n)) (some (tkO t)) 1=some (vs t.name):=(rfl)
theorem agE_ (t:TkL) (n:Nat):zo_ (some (false,n)) (some (tkO t)) 2=some (vs t.data):=(rfl)
theorem ag5_ (t:TkL) (n:Nat):zo_ (some (false,n)) (some (tkO t)) 3=some (.bool t.light):=(rfl)
theorem agO_ (t:TkL) (n:Nat):zo_ (some (false,n)) (some (tkO t)) 4=some (vi (t.next:Int)):=(rfl)
theorem ag4_ (t:TkL) (n:Nat):zo_ (some (false,n)) (some (tkO t)) 5=some (.bool t.made):=(rfl)
theorem agr_ (t:TkL) (n:Nat):zo_ (some (false,n)) (some (tkO t)) 6=some (.bool t.ended):=(rfl)
theorem ab6_ (t:TkL) (x:Nat) (a:Bool):zn_ (some (a,1)) (some (tkO t)) 4 (vi (x:Int))=some (tkO {t with next:=x}):=zy_ [vs t.dir,vs t.name,vs t.data, .bool t.light] [vi (t.next:Int)] [vi (x:Int)] [.bool t.made, .bool t.ended] a _ 193 rfl rfl rfl rfl rfl
theorem ak1_ (t:TkL) (x:Bool) (a:Bool):zn_ (some (a,1)) (some (tkO t)) 5 (.bool x)=some (tkO {t with made:=x}):=zy_ [vs t.dir,vs t.name,vs t.data, .bool t.light,vi (t.next:Int)] [.bool t.made] [.bool x] [.bool t.ended] a _ 193 rfl rfl rfl rfl rfl
theorem Kf_ (t:TkL) (x:Bool) (a:Bool):zn_ (some (a,1)) (some (tkO t)) 6 (.bool x)=some (tkO {t with ended:=x}):=zy_ [vs t.dir,vs t.name,vs t.data, .bool t.light,vi (t.next:Int), .bool t.made] [.bool t.ended] [.bool x] [] a _ 193 rfl rfl rfl rfl rfl
structure TkB (t:TkL):Prop where
 name:t.name.length≤900000
 data:t.data.length≤1000000
theorem v5_ {t:TkL} (h:TkB t): (qP_ t.name).length≤900004:=by
 unfold qP_
 rw[List.length_append]
 have:=h.name
 simp
 omega
theorem DkA.step {X X':za_} {G G':DkG} {S S':DiskL} {N:Nat} {kind:Int} {dir name s:List UInt8} {e:Nat} (h:DkA X G S N) (hP:DkP X' G' S') (hst:StepD S kind dir name s S' e) (hn:name.length≤1000000) (hs:s.length≤1000000):DkA X' G' S' (N+1):=⟨hP,acH_ h.H hst,aga_ h.B hn hs hst⟩
theorem DkA.up {X:za_} {G:DkG} {S:DiskL} {N:Nat} (h:DkA X G S N):DkA X G S (N+1):=⟨h.P,h.H,h.B.mono (Nat.le_succ N)⟩
def PhS (G:DkG) (bt:Nat) (r:PhR) (N:Nat) (v:Value) (D:za_):Prop:=v= .tuple #[.bool r.did,vi (r.e:Nat)]∧ ∃X' G',(X'++ [(bt,tkO r.t)]).Perm D∧G'.bd=G.bd∧DkA X' G' r.S N
theorem auh_ (b o:Nat):qy_ Tryz.prog .eql 154 (vp b o) (.pointer none)=some (.bool false):=by
 simp[qy_,eqX,qk_,qn_,Tryz.underlying154,vp]
theorem xi_ {X:za_} {bt:Nat} {t:TkL} (hn: (keys (X++ [(bt,tkO t)])).Nodup):bt∉keys X∧ ∀X' o,bt∉keys X'→ ∀w,zE_ w (X'++ [(bt,o)]) bt=some o:=by
 rw[zv_,List.nodup_append] at hn
 refine⟨fun hm=>hn.2.2 bt hm bt (by simp[keys]) rfl,fun X' o h w=>zh_ (@Kn_ _ [] _ _ h)⟩
set_option linter.defProp false
def z6_:=And.intro (And.intro (And.intro (@zc_) (And.intro (@zb_) (@agP_))) (And.intro (And.intro (@ag3_) (@agE_)) (And.intro (@ag5_) (@agO_)))) (And.intro (And.intro (@ag4_) (And.intro (@agr_) (@ab6_))) (And.intro (And.intro (@ak1_) (@Kf_)) (And.intro (@Sx.tup2_0) (@Sx.tup2_1))))
theorem ahn_ (X:za_) (G:DkG) (S:DiskL) (N bt:Nat) (t:TkL) (w:World) (hX: ∀p,p∈X++ [(bt,tkO t)]→w.heap[p.1]? =some p.2) (hn: (keys (X++ [(bt,tkO t)])).Nodup) (hA:DkA X G S N) (hN:N<900000) (hB:TkB t):
  Rets Tryz.prog 195 #[vp bt 0,vp G.bd 0] w (XS w (X++ [(bt,tkO t)]) (PhS G bt (Wx_ t S) (N+1))):=by
 refine Rets.enterX Tryz.func195 rfl (rs:= [.tmp 4, .tmp 5]) Tryz.results195 Tryz.ntmps195 hX hn ?_
 refine kf ?_
 have hbx:=(xi_ hn).1
 have rdt:=(xi_ hn).2 X (tkO t) hbx w
 have hnl:=v5_ hB
 have hnd:t.name.length≤900000:=hB.name
 have hdl:=hB.data
 have hpd:=hA.pend (by omega)
 have hus:=hA.used (by omega)
 unfold Wx_
 first|with_reducible refine ks [] @z6_ ?_|refine kp @z6_ ?_
 refine Cw.regionO [0,1,2,3,5,6,7,4,8,9,10,11,12,13,14,15] [] rfl (by kernel_rfl) (by kernel_rfl) ?_
 simp only[zp_, ↓zi_, ↓ze_, ↓zA_, ↓zz_,zf_]
 refine kq (And.intro @z6_ @rdt) ?_
 refine Ow.callFV rfl Tryz.call23 (fun w' hw'=>V0_ w' G S t.dir (qP_ t.name) ⟨X,fun b o hb=>hw'.has b o (List.mem_append_left _ (zB_ hb)),hA.P⟩ (by omega)) ?_
 refine kq @z6_ ?_
 by_cases h0: (xl_ S t.dir (qP_ t.name)).2≠0
 ·have e1:=jO_ h0
  rw[if_pos h0]
  first|with_reducible refine ks [] (And.intro @z6_ @e1) ?_|refine kp (And.intro @z6_ @e1) ?_
  refine⟨_,(ke @z6_), ?_⟩
  exact⟨Ext.refl w _,rfl,X,G,List.Perm.refl _,rfl,hA.up⟩
 ·have h0': (xl_ S t.dir (qP_ t.name)).2=0:=by simpa using h0
  have e1: (((xl_ S t.dir (qP_ t.name)).2:Int) !=0)=false:=by rw[h0'];rfl
  rw[if_neg h0]
  first|with_reducible refine ks [] (And.intro @z6_ @e1) ?_|refine kp (And.intro @z6_ @e1) ?_
  refine Cw.regionO [0,1,2,3,5,6,7,4,8,9,10,11,12] [10] rfl (by kernel_rfl) (by kernel_rfl) ?_
  simp only[zp_, ↓zi_, ↓ze_, ↓zA_, ↓zz_,zf_]
  refine kq (And.intro @z6_ @rdt) ?_
  refine Ow.callX (X:=X) (Y:= [(bt,tkO t)]) rfl rfl rfl Tryz.call77 (fun w' hw' hX' hn'=>JS_ X G S t.dir (qP_ t.name) w' hX' hn' hA.P (by omega) hpd) (fun v4 D4 hC4 hS4=> ?_)
  obtain⟨rfl,G',hbd,hP'⟩:=hS4
  refine kq @z6_ ?_
  first|with_reducible refine ks [] @z6_ ?_|refine kp @z6_ ?_
  refine⟨_,(ke @z6_), ?_⟩
  exact⟨(Ext.refl w _).came hC4,rfl,D4,G',List.Perm.refl _,hbd,hA.step hP' (kq_ S _ _ []) (by omega) (Nat.zero_le _)⟩
theorem aaR_ (X:za_) (G:DkG) (S:DiskL) (N bt:Nat) (t:TkL) (w:World) (hX: ∀p,p∈X++ [(bt,tkO t)]→w.heap[p.1]? =some p.2) (hn: (keys (X++ [(bt,tkO t)])).Nodup) (hA:DkA X G S N) (hN:N<900000) (hB:TkB t):
  Rets Tryz.prog 196 #[vp bt 0,vp G.bd 0] w (XS w (X++ [(bt,tkO t)]) (PhS G bt (aev_ t S) (N+1))):=by
 refine Rets.enterX Tryz.func196 rfl (rs:= [.tmp 4, .tmp 5]) Tryz.results196 Tryz.ntmps196 hX hn ?_
 refine kf ?_
 have hbx:=(xi_ hn).1
 have rdt:=(xi_ hn).2 X (tkO t) hbx w
 have hnl:=v5_ hB
 have hnd:t.name.length≤900000:=hB.name
 have hdl:=hB.data
 have hpd:=hA.pend (by omega)
 have hus:=hA.used (by omega)
 unfold aev_
 first|with_reducible refine ks [2] @z6_ ?_|refine kp @z6_ ?_
 refine Cw.regionO [0,1,2,3,5,6,7,4,8,9,10,11] [10] rfl (by kernel_rfl) (by kernel_rfl) ?_
 simp only[zp_, ↓zi_, ↓ze_, ↓zA_, ↓zz_,zf_]
 refine kq (And.intro @z6_ @rdt) ?_
 refine Ow.callX (X:=X) (Y:= [(bt,tkO t)]) rfl rfl rfl Tryz.call72 (fun w' hw' hX' hn'=>ack_ X G S t.dir (qP_ t.name) w' hX' hn' hA.P (by omega) hpd) (fun v4 D4 hC4 hS4=> ?_)
 obtain⟨rfl,G',hbd,hP'⟩:=hS4
 refine kq @z6_ ?_
 refine Cw.permL (M:=(bt,tkO t)::D4) (by classical exact List.perm_iff_count.2 fun a=>by simp only[List.count_append,List.count_cons,List.count_nil]<;>omega) ?_
 have hA':=hA.step hP' (ZQ_ S _ _ []) (by omega) (Nat.zero_le _)
 have hE:=(Ext.refl w (X++ [(bt,tkO t)])).came hC4
 generalize qV_ S t.dir (qP_ t.name)=q at*
 obtain⟨S',e⟩:=q
 simp only at hA' ⊢
 have hi: ((e:Int)==0)=(e==0):=by
  cases e with
  |zero=>rfl
  |succ n=>rfl
 first|with_reducible refine ks [] (And.intro @z6_ @hi) ?_|refine kp (And.intro @z6_ @hi) ?_
 refine⟨_,(ke @z6_), ?_⟩
 exact⟨(hE.perm (List.perm_append_comm (l₁:= [(bt,tkO t)]) (l₂:=D4))).keys rfl,rfl,D4,G',List.perm_append_comm (l₁:=D4) (l₂:= [_]),hbd,hA'⟩
theorem aaX_ (X:za_) (G:DkG) (S:DiskL) (N bt:Nat) (t:TkL) (w:World) (hX: ∀p,p∈X++ [(bt,tkO t)]→w.heap[p.1]? =some p.2) (hn: (keys (X++ [(bt,tkO t)])).Nodup) (hA:DkA X G S N) (hN:N<900000) (hB:TkB t):
  Rets Tryz.prog 197 #[vp bt 0,vp G.bd 0] w (XS w (X++ [(bt,tkO t)]) (PhS G bt (afv_ t S) (N+1))):=by
 refine Rets.enterX Tryz.func197 rfl (rs:= [.tmp 4, .tmp 5]) Tryz.results197 Tryz.ntmps197 hX hn ?_
 refine kf ?_
 have hbx:=(xi_ hn).1
 have rdt:=(xi_ hn).2 X (tkO t) hbx w
 have hnl:=v5_ hB
 have hnd:t.name.length≤900000:=hB.name
 have hdl:=hB.data
 have hpd:=hA.pend (by omega)
 have hus:=hA.used (by omega)
 unfold afv_
 first|with_reducible refine ks [] @z6_ ?_|refine kp @z6_ ?_
 refine Cw.regionO [0,1,2,3,5,6,7,10,11,12,4,8,9,13,14,15,16] [14] rfl (by kernel_rfl) (by kernel_rfl) ?_
 simp only[zp_, ↓zi_, ↓ze_, ↓zA_, ↓zz_,zf_]
 refine kq (And.intro @z6_ @rdt) ?_
 refine Ow.callX (X:=X) (Y:= [(bt,tkO t)]) rfl rfl rfl Tryz.call73 (fun w' hw' hX' hn'=>abT_ X G S t.dir (qP_ t.name) t.data w' hX' hn' hA.P (by omega) (by omega) hus) (fun v4 D4 hC4 hS4=> ?_)
 obtain⟨rfl,hP'⟩:=hS4
 refine kq @z6_ ?_
 first|with_reducible refine ks [] @z6_ ?_|refine kp @z6_ ?_
 refine⟨_,(ke @z6_), ?_⟩
 exact⟨(Ext.refl w _).came hC4,rfl,D4,G,List.Perm.refl _,rfl,hA.step hP' (ZL_ S _ _ _) (by omega) (by omega)⟩
theorem aeC_ (X:za_) (G:DkG) (S:DiskL) (N bt:Nat) (t:TkL) (w:World) (hX: ∀p,p∈X++ [(bt,tkO t)]→w.heap[p.1]? =some p.2) (hn: (keys (X++ [(bt,tkO t)])).Nodup) (hA:DkA X G S N) (hN:N<900000) (hB:TkB t):
  Rets Tryz.prog 198 #[vp bt 0,vp G.bd 0] w (XS w (X++ [(bt,tkO t)]) (PhS G bt (aoc_ t S) (N+1))):=by
 refine Rets.enterX Tryz.func198 rfl (rs:= [.tmp 4, .tmp 5]) Tryz.results198 Tryz.ntmps198 hX hn ?_
 refine kf ?_
 have hbx:=(xi_ hn).1
 have rdt:=(xi_ hn).2 X (tkO t) hbx w
 have hnl:=v5_ hB
 have hnd:t.name.length≤900000:=hB.name
 have hdl:=hB.data
 have hpd:=hA.pend (by omega)
 have hus:=hA.used (by omega)
 unfold aoc_
 by_cases hl:t.light=true
 ·rw[if_pos hl]
  first|with_reducible refine ks [] (And.intro @z6_ (And.intro @rdt (@hl))) ?_|refine kp (And.intro @z6_ (And.intro @rdt (@hl))) ?_
  refine⟨_,(ke @z6_), ?_⟩
  exact⟨Ext.refl w _,rfl,X,G,List.Perm.refl _,rfl,hA.up⟩
 ·rw[if_neg hl]
  have hl':t.light=false:=by simpa using hl
  first|with_reducible refine ks [] (And.intro @z6_ (And.intro @rdt (@hl'))) ?_|refine kp (And.intro @z6_ (And.intro @rdt (@hl'))) ?_
  refine Cw.regionO [0,1,2,3,5,6,7,4,8,9,10,11,12] [10] rfl (by kernel_rfl) (by kernel_rfl) ?_
  simp only[zp_, ↓zi_, ↓ze_, ↓zA_, ↓zz_,zf_]
  refine kq (And.intro @z6_ @rdt) ?_
  refine Ow.callX (X:=X) (Y:= [(bt,tkO t)]) rfl rfl rfl Tryz.call20 (fun w' hw' hX' hn'=>V3_ X G S t.dir (qP_ t.name) w' hX' hn' hA.P (by omega)) (fun v4 D4 hC4 hS4=> ?_)
  obtain⟨rfl,hP'⟩:=hS4
  refine kq @z6_ ?_
  first|with_reducible refine ks [] @z6_ ?_|refine kp @z6_ ?_
  refine⟨_,(ke @z6_), ?_⟩
  exact⟨(Ext.refl w _).came hC4,rfl,D4,G,List.Perm.refl _,rfl,hA.step hP' (QC_ S _ _ []) (by omega) (Nat.zero_le _)⟩
theorem aaD_ (X:za_) (G:DkG) (S:DiskL) (N bt:Nat) (t:TkL) (w:World) (hX: ∀p,p∈X++ [(bt,tkO t)]→w.heap[p.1]? =some p.2) (hn: (keys (X++ [(bt,tkO t)])).Nodup) (hA:DkA X G S N) (hN:N<900000) (hB:TkB t):
  Rets Tryz.prog 200 #[vp bt 0,vp G.bd 0] w (XS w (X++ [(bt,tkO t)]) (PhS G bt (aaG_ t S) (N+1))):=by
 refine Rets.enterX Tryz.func200 rfl (rs:= [.tmp 4, .tmp 5]) Tryz.results200 Tryz.ntmps200 hX hn ?_
 refine kf ?_
 have hbx:=(xi_ hn).1
 have rdt:=(xi_ hn).2 X (tkO t) hbx w
 have hnl:=v5_ hB
 have hnd:t.name.length≤900000:=hB.name
 have hdl:=hB.data
 have hpd:=hA.pend (by omega)
 have hus:=hA.used (by omega)
 unfold aaG_
 by_cases hl:t.light=true
 ·rw[if_pos hl]
  first|with_reducible refine ks [] (And.intro @z6_ (And.intro @rdt (@hl))) ?_|refine kp (And.intro @z6_ (And.intro @rdt (@hl))) ?_
  refine⟨_,(ke @z6_), ?_⟩
  exact⟨Ext.refl w _,rfl,X,G,List.Perm.refl _,rfl,hA.up⟩
 ·rw[if_neg hl]
  have hl':t.light=false:=by simpa using hl
  first|with_reducible refine ks [] (And.intro @z6_ (And.intro @rdt (@hl'))) ?_|refine kp (And.intro @z6_ (And.intro @rdt (@hl'))) ?_
  refine kq (And.intro @z6_ @rdt) ?_
  refine Ow.callX (X:=X) (Y:= [(bt,tkO t)]) rfl rfl rfl Tryz.call21 (fun w' hw' hX' hn'=>Qn_ X G S t.dir w' hX' hn' hA.P) (fun v4 D4 hC4 hS4=> ?_)
  obtain⟨rfl,G',hbd,hP'⟩:=hS4
  refine kq @z6_ ?_
  first|with_reducible refine ks [] @z6_ ?_|refine kp @z6_ ?_
  refine⟨_,(ke @z6_), ?_⟩
  exact⟨(Ext.refl w _).came hC4,rfl,D4,G',List.Perm.refl _,hbd,hA.step hP' (kL_ S _ [] []) (Nat.zero_le _) (Nat.zero_le _)⟩
theorem W3_ (X:za_) (G:DkG) (S:DiskL) (N bt:Nat) (t:TkL) (w:World) (hX: ∀p,p∈X++ [(bt,tkO t)]→w.heap[p.1]? =some p.2) (hn: (keys (X++ [(bt,tkO t)])).Nodup) (hA:DkA X G S N) (hN:N<900000) (hB:TkB t):
  Rets Tryz.prog 199 #[vp bt 0,vp G.bd 0] w (XS w (X++ [(bt,tkO t)]) (PhS G bt (aeu_ t S) (N+1))):=by
 refine Rets.enterX Tryz.func199 rfl (rs:= [.tmp 4, .tmp 5]) Tryz.results199 Tryz.ntmps199 hX hn ?_
 refine kf ?_
 have hbx:=(xi_ hn).1
 have rdt:=(xi_ hn).2 X (tkO t) hbx w
 have hnl:=v5_ hB
 have hnd:t.name.length≤900000:=hB.name
 have hdl:=hB.data
 have hpd:=hA.pend (by omega)
 have hus:=hA.used (by omega)
 unfold aeu_
 first|with_reducible refine ks [2] @z6_ ?_|refine kp @z6_ ?_
 refine Cw.regionO [0,1,2,3,5,6,7,10,11,12,4,8,9,13,14,15] [14] rfl (by kernel_rfl) (by kernel_rfl) ?_
 simp only[zp_, ↓zi_, ↓ze_, ↓zA_, ↓zz_,zf_]
 refine kq (And.intro @z6_ @rdt) ?_
 refine Ow.callX (X:=X) (Y:= [(bt,tkO t)]) rfl rfl rfl Tryz.call76 (fun w' hw' hX' hn'=>acZ_ X G S t.dir (qP_ t.name) t.name w' hX' hn' hA.P (by omega) (by omega) hpd) (fun v4 D4 hC4 hS4=> ?_)
 obtain⟨rfl,G',hbd,hP'⟩:=hS4
 refine kq @z6_ ?_
 refine Cw.permL (M:=(bt,tkO t)::D4) (by classical exact List.perm_iff_count.2 fun a=>by simp only[List.count_append,List.count_cons,List.count_nil]<;>omega) ?_
 have hA':=hA.step hP' (ZI_ S _ _ _) (by omega) (by omega)
 have hE:=(Ext.refl w (X++ [(bt,tkO t)])).came hC4
 generalize q4_ S t.dir (qP_ t.name) t.name=q at*
 obtain⟨S',e⟩:=q
 simp only at hA' ⊢
 have hi: ((e:Int) !=0)=(e !=0):=by
  cases e with
  |zero=>rfl
  |succ n=>rfl
 cases hm:t.made with
 |true=>
  rw[Bool.true_and]
  first|with_reducible refine ks [] (And.intro @z6_ (And.intro @hi (@hm))) ?_|refine kp (And.intro @z6_ (And.intro @hi (@hm))) ?_
  refine⟨_,(ke @z6_), ?_⟩
  exact⟨(hE.perm (List.perm_append_comm (l₁:= [(bt,tkO t)]) (l₂:=D4))).keys rfl,rfl,D4,G',List.perm_append_comm (l₁:=D4) (l₂:= [_]),hbd,hA'⟩
 |false=>
  rw[Bool.false_and]
  first|with_reducible refine ks [] (And.intro @z6_ (And.intro @hi (@hm))) ?_|refine kp (And.intro @z6_ (And.intro @hi (@hm))) ?_
  refine⟨_,(ke @z6_), ?_⟩
  exact⟨(hE.perm (List.perm_append_comm (l₁:= [(bt,tkO t)]) (l₂:=D4))).keys rfl,rfl,D4,G',List.perm_append_comm (l₁:=D4) (l₂:= [_]),hbd,hA'⟩
end Go.Proofs
end
section
open Go Go.Proofs Go.Sx Go.StP
namespace Go.Proofs
set_option maxRecDepth 10000
set_option maxHeartbeats 1000000
set_option linter.unusedSimpArgs false
def phF (n:Nat):FuncId:=match n with
 |0=>195
 |1=>196
 |2=>197
 |3=>198
 |4=>199
 |_=>200
def stV:List Value:= [.func (.func (phF 0)) #[] #[], .func (.func (phF 1)) #[] #[], .func (.func (phF 2)) #[] #[], .func (.func (phF 3)) #[] #[], .func (.func (phF 4)) #[] #[], .func (.func (phF 5)) #[] #[]]
def stO:Obj:= .cells stV.toArray 236 (0,0)
theorem aqJ_ (n m:Nat) (h:n<6):zo_ (some (false,m)) (some stO) n=some (.func (.func (phF n)) #[] #[]):=by
 rcases(by omega:n=0∨n=1∨n=2∨n=3∨n=4∨n=5) with rfl|rfl|rfl|rfl|rfl|rfl<;>rfl
theorem aqd_ (n:Nat) (h:n<6) (X:za_) (G:DkG) (S:DiskL) (N bt:Nat) (t:TkL) (w:World) (hX: ∀p,p∈X++ [(bt,tkO t)]→w.heap[p.1]? =some p.2) (hn: (keys (X++ [(bt,tkO t)])).Nodup) (hA:DkA X G S N) (hN:N<900000) (hB:TkB t):
  Rets Tryz.prog (phF n) #[vp bt 0,vp G.bd 0] w (XS w (X++ [(bt,tkO t)]) (PhS G bt (phT n t S) (N+1))):=by
 rcases(by omega:n=0∨n=1∨n=2∨n=3∨n=4∨n=5) with rfl|rfl|rfl|rfl|rfl|rfl
 ·exact ahn_ X G S N bt t w hX hn hA hN hB
 ·exact aaR_ X G S N bt t w hX hn hA hN hB
 ·exact aaX_ X G S N bt t w hX hn hA hN hB
 ·exact aeC_ X G S N bt t w hX hn hA hN hB
 ·exact W3_ X G S N bt t w hX hn hA hN hB
 ·exact aaD_ X G S N bt t w hX hn hA hN hB
theorem arm_ (n:Nat) (h:n<6): ∀a w,(callFunc (phF n) a).run Tryz.prog w= .ok (.enter (phF n) a) w:=by
 rcases(by omega:n=0∨n=1∨n=2∨n=3∨n=4∨n=5) with rfl|rfl|rfl|rfl|rfl|rfl
 ·exact Tryz.call195
 ·exact Tryz.call196
 ·exact Tryz.call197
 ·exact Tryz.call198
 ·exact Tryz.call199
 ·exact Tryz.call200
theorem W9_ (bt:Nat) (t:TkL) (w:World) (hX:w.heap[bt]? =some (tkO t)):Rets Tryz.prog 166 #[vp bt 0] w (fun v D=>v= .bool t.ended∧D= []):=by
 have hnl:=auh_ bt 0
 refine Rets.enterV Tryz.func166 rfl (rs:= [.tmp 2]) Tryz.results166 Tryz.ntmps166 ?_
 refine kf ?_
 first|with_reducible refine ks [] (And.intro @hX @hnl) ?_|refine kp (And.intro @hX @hnl) ?_
 refine⟨_,(ke @Nat.add_zero),trivial, ?_⟩
 rfl
theorem amX_:jy_ (wE_ Tryz.prog 236) (zW_ Tryz.prog 236) [(0, .func (.func (phF 0)) #[] #[]),(1, .func (.func (phF 1)) #[] #[]),(2, .func (.func (phF 2)) #[] #[]),(3, .func (.func (phF 3)) #[] #[]),(4, .func (.func (phF 4)) #[] #[]),(5, .func (.func (phF 5)) #[] #[])]=some (.agg stV.toArray):=by
 rw[show wE_ Tryz.prog 236=some [(0,1),(1,1),(2,1),(3,1),(4,1),(5,1)] from id (by kernel_rfl),Tryz.zr236];rfl
theorem Xs_:zn_ (some (true,6)) (some (.cells #[.nilFunc, .nilFunc, .nilFunc, .nilFunc, .nilFunc, .nilFunc] 236 (0,0))) 0 (.agg stV.toArray)=some stO:=(rfl)
theorem ahw_ (w:World):Rets Tryz.prog 167 #[] w (fun v D=>v= .agg stV.toArray∧D= []):=by
 refine Rets.enterV Tryz.func167 rfl (rs:= [.cell 0 236]) Tryz.results167 Tryz.ntmps167 ?_
 refine kf ?_
 first|with_reducible refine ks [] @Nat.add_zero ?_|refine kp @Nat.add_zero ?_
 refine Ow.alloc rfl rfl Tryz.zr236 fun b1 hb1 hw1=> ?_
 refine ko @Nat.add_zero ?_
 refine Ow.build (.agg stV.toArray) rfl amX_ ?_
 refine ko @Xs_ ?_
 first|with_reducible refine ks [] @Xs_ ?_|refine kp @Xs_ ?_
 refine⟨_,(ke @Nat.add_zero),⟨hw1,trivial⟩, ?_⟩
 rfl
set_option linter.defProp false
def qr_:=And.intro (And.intro (And.intro (@zc_) (@zb_)) (And.intro (@agP_) (And.intro (@ag3_) (@agE_)))) (And.intro (And.intro (@ag5_) (And.intro (@agO_) (@ag4_))) (And.intro (@agr_) (And.intro (@Sx.tup2_0) (@Sx.tup2_1))))
theorem ibeq (n k:Nat): ((n:Int)==(k:Int))=(n==k):=by
 rw[Bool.eq_iff_iff,beq_iff_eq,beq_iff_eq]
 omega
structure SG where
 lab:Nat
 did:Bool
 e:Nat
 t:TkL
 S:DiskL
 G:DkG
 X:za_
 b8:Nat
 c:Nat
def SJ (w:World) (L0:za_) (n bd bt N:Nat) (R:StR) (g:SG):Prop:=
 Ext w L0 ((bt,tkO g.t):: (g.b8,stO)::g.X)∧(keys ((bt,tkO g.t):: (g.b8,stO)::g.X)).Nodup∧n≤g.b8∧g.G.bd=bd∧DkA g.X g.G g.S (N+g.c)∧TkB g.t∧
 ((g.lab=0∧g.c+ (6 - g.t.next)≤6∧g.t.next<6∧xk_ (6 - g.t.next) g.t g.S=R)∨
 (g.lab=1∧g.c≤6∧ ∃r:PhR,g.t=nxT r∧g.S=r.S∧g.e=r.e∧j8_ r=R))
def SL (g:SG):Nat:=match g.lab with
 |0=>0
 |_=>1
theorem SL0 (a b c d e f g h):SL ⟨0,a,b,c,d,e,f,g,h⟩=0:=rfl
def SS (g:SG):List (Nat×Value):= [(6, .bool g.did),(7,vi (g.e:Nat)),(8,vp g.b8 0)]
def SH (bt:Nat) (g:SG):za_:=(bt,tkO g.t):: (g.b8,stO)::g.X
def StS (G:DkG) (bt:Nat) (R:StR) (N:Nat) (v:Value) (D:za_):Prop:=v= .tuple #[.bool R.done,vi (R.e:Nat)]∧ ∃X' G',(X'++ [(bt,tkO R.t)]).Perm D∧G'.bd=G.bd∧DkA X' G' R.S N
set_option maxHeartbeats 12000000 in
theorem aiW_ (X:za_) (G:DkG) (S:DiskL) (N bt:Nat) (t:TkL) (w:World) (hX: ∀p,p∈X++ [(bt,tkO t)]→w.heap[p.1]? =some p.2) (hn: (keys (X++ [(bt,tkO t)])).Nodup) (hA:DkA X G S N) (hN:N<800000) (hB:TkB t) (hne:t.ended=false→t.next<6):
  Rets Tryz.prog 129 #[vp bt 0,vp G.bd 0] w (XS w (X++ [(bt,tkO t)]) (StS G bt (xv_ t S) (N+7))):=by
 refine Rets.enterX Tryz.func129 rfl (rs:= [.tmp 4, .tmp 5]) Tryz.results129 Tryz.ntmps129 hX hn ?_
 refine kf ?_
 have hbx:=(xi_ hn).1
 have rdt:=(xi_ hn).2 X (tkO t) hbx w
 unfold xv_
 first|with_reducible refine ks [] @qr_ ?_|refine kp @qr_ ?_
 refine Cw.scopeL (G:=SG) (fun g=>SL g) [9,10,4,5,6,7,11,8,13,14,15,16,17,18,19,20,21,12,22,23,24,25,26,27,28,29,30,31,32,33,34,35,36,37,38,39,40,41,42,43,44,45,46,47,48,49,50,51,52,53,54,55,56,57,58,59,60,61,62,63,64,65,66,67,68,69,70,71,72,73,74,75,76,77,78,79,80,81,82,83,84,85,86,87,88,89] (fun g=>SS g) (fun g=>SH bt g) (fun g=>SJ w (X++ [(bt,tkO t)]) w.heap.size G.bd bt N (if t.ended=true then⟨false,15,t,S⟩ else xk_ (6 - t.next) t S) g) (fun g=>(if g.lab=0 then 6 - g.t.next+1 else 0)) ?_ ?_ ?_
 ·intro g
  unfold SL
  split<;>rfl
 ·intro g j hg
  obtain⟨lab,did,e,t1,S1,G1,X1,b8,c⟩:=g
  obtain⟨hE,hnd,hb8,hbd,hA1,hB1,hg⟩:=hg
  simp only at hE hnd hb8 hbd hA1 hB1 hg
  rcases hg with⟨rfl,hc,hnx,hR⟩ | ⟨rfl,hc,r,rfl,rfl,rfl,hR⟩
  ·simp only[SL,SS,SH]
   simp only[Zr_,hasL,Bool.or_false,Bool.false_or,Bool.or_true,Bool.true_or,Nat.reduceBEq,beq_self_eq_true, ↓reduceIte,Bool.false_eq_true]
   refine kv ?_
   try with_reducible refine kO_ ?_
   have hk:=hnd
   simp only[keys,List.map_cons,List.nodup_cons,List.mem_cons,not_or] at hk
   have hb3:bt≠b8:=hk.1.1
   have hb1:bt∉keys X1:=hk.1.2
   have hb2:b8∉keys X1:=hk.2.1
   have rd8: ∀o w,zE_ w ((bt,o):: (b8,stO)::X1) b8=some stO:=fun o w=>zh_ (by simp[Sx.look,hb3])
   have hix: ∀m,qi_ (.arr 6 m) (vp b8 0) (some (t1.next:Int))=some (vp b8 (t1.next*m.2)):=fun m=>by
    rw[Qm_ _ _ _ _ _ ⟨by omega,by omega⟩];simp
   have hld: ∀m,zo_ (some (false,m)) (some stO) t1.next=some (.func (.func (phF t1.next)) #[] #[]):=fun m=>aqJ_ _ m hnx
   first|with_reducible refine ks [] (And.intro @qr_ (And.intro @rd8 (And.intro @hix (@hld)))) ?_|refine kp (And.intro @qr_ (And.intro @rd8 (And.intro @hix (@hld)))) ?_
   refine Ow.permL (M:=(X1++ [(bt,tkO t1)])++ [(b8,stO)]) (by classical exact List.perm_iff_count.2 fun a=>by simp only[List.count_append,List.count_cons,List.count_nil]<;>omega) ?_
   refine Ow.callFnX2 (X:=X1++ [(bt,tkO t1)]) (Y:= [(b8,stO)]) (b:=vp bt 0) (b2:=vp G.bd 0) rfl rfl rfl rfl rfl rfl (arm_ t1.next hnx) (fun w' hw' hX' hn'=>by rw[←hbd];exact aqd_ t1.next hnx X1 G1 S1 (N+c) bt t1 w' hX' hn' hA1 (by omega) hB1) (fun v4 D4 hC4 hS4=> ?_)
   obtain⟨rfl,X2,G2,hp2,hbd2,hA2⟩:=hS4
   obtain⟨hr1,hr2,hr3,hr4,hr5,hr6⟩:=anl_ t1.next t1 S1
   have hB2:TkB (phT t1.next t1 S1).t:=⟨by rw[hr2];exact hB1.name,by rw[hr3];exact hB1.data⟩
   have hBn:TkB (nxT (phT t1.next t1 S1)):=⟨hB2.name,hB2.data⟩
   have hBf:TkB (kf_ (phT t1.next t1 S1)):=⟨hB2.name,hB2.data⟩
   obtain⟨q,hq⟩: ∃q,6 - t1.next=q+1:=⟨5 - t1.next,by omega⟩
   rw[hq] at hR
   replace hR: (if(phT t1.next t1 S1).e≠0 then j8_ (phT t1.next t1 S1)
    else if(phT t1.next t1 S1).did=false∧endT (nxT (phT t1.next t1 S1))=false then xk_ q (kf_ (phT t1.next t1 S1)) (phT t1.next t1 S1).S
    else⟨endT (nxT (phT t1.next t1 S1)),0,kf_ (phT t1.next t1 S1),(phT t1.next t1 S1).S⟩)=_:=hR
   generalize phT t1.next t1 S1=r at*
   have hp3: ((bt,tkO r.t):: (b8,stO)::X2).Perm (D4++ [(b8,stO)]):=(by simpa using(List.perm_append_comm (l₁:= [(bt,tkO r.t),(b8,stO)]) (l₂:=X2)): ((bt,tkO r.t):: (b8,stO)::X2).Perm (X2++ [(bt,tkO r.t),(b8,stO)])).trans (by simpa using hp2.append_right [(b8,stO)])
   have hE1:Ext w (X++ [(bt,tkO t)]) ((X1++ [(bt,tkO t1)])++ [(b8,stO)]):=hE.perm (by classical exact List.perm_iff_count.2 fun a=>by simp only[List.count_append,List.count_cons,List.count_nil]<;>omega)
   have hE2:Ext w (X++ [(bt,tkO t)]) ((bt,tkO r.t):: (b8,stO)::X2):=(Ext.came hE1 hC4).perm hp3
   refine Ow.permL hp3 ?_
   refine Ow.world fun w9 hw9=> ?_
   have hnd2: (keys ((bt,tkO r.t):: (b8,stO)::X2)).Nodup:=hw9.nodup
   have hst7: ∀a,zn_ (some (a,1)) (some (tkO r.t)) 4 (vi ((r.t.next:Int)+1))=some (tkO (nxT r)):=fun a=>ab6_ r.t (r.t.next+1) a
   have hnx2:r.t.next<6:=by omega
   have hA3:DkA (X2++ [(b8,stO)]) G2 r.S (N+7):=⟨hA2.P.mono (X':=X2++ [(b8,stO)]) fun b o h=>zu_ h,hA2.H,hA2.B.mono (by omega)⟩
   refine ko @qr_ ?_
   by_cases he:r.e=0
   ·have e0: ((r.e:Int) !=0)=false:=by rw[he];rfl
    rw[if_neg (fun h=>h he)] at hR
    have hst9: ∀a,zn_ (some (a,1)) (some (tkO (nxT r))) 6 (.bool (endT (nxT r)))=some (tkO (kf_ r)):=fun a=>Kf_ (nxT r) _ a
    have hfe: (kf_ r).ended=endT (nxT r):=rfl
    have hen:endT (nxT r)=((nxT r).next==6|| ((nxT r).light&& (nxT r).next==5)):=rfl
    have i6: (((nxT r).next:Int)==6)=((nxT r).next==6):=ibeq _ 6
    have i5: (((nxT r).next:Int)==5)=((nxT r).next==5):=ibeq _ 5
    cases c6: ((nxT r).next==6) with
    |true=>
     have h9:endT (nxT r)=true:=by rw[hen,c6];rfl
     rw[c6] at i6
     rw[h9] at hst9 hfe hR
     rw[if_neg (fun h=>by cases h.2)] at hR
     cases hd:r.did with
     |true=>
      first|with_reducible refine ks [] (And.intro @qr_ (And.intro @hst7 (And.intro @e0 (And.intro @hst9 (And.intro @i6 (@hfe)))))) ?_|refine kp (And.intro @qr_ (And.intro @hst7 (And.intro @e0 (And.intro @hst9 (And.intro @i6 (@hfe)))))) ?_
      refine⟨_,(ke @qr_), ?_⟩
      rw[←hR]
      exact⟨hE2.keys rfl,rfl,X2++ [(b8,stO)],G2,(by classical exact List.perm_iff_count.2 fun a=>by simp only[List.count_append,List.count_cons,List.count_nil]<;>omega),hbd2.trans hbd,hA3⟩
     |false=>
      first|with_reducible refine ks [] (And.intro @qr_ (And.intro @hst7 (And.intro @e0 (And.intro @hst9 (And.intro @i6 (@hfe)))))) ?_|refine kp (And.intro @qr_ (And.intro @hst7 (And.intro @e0 (And.intro @hst9 (And.intro @i6 (@hfe)))))) ?_
      refine⟨_,(ke @qr_), ?_⟩
      rw[←hR]
      exact⟨hE2.keys rfl,rfl,X2++ [(b8,stO)],G2,(by classical exact List.perm_iff_count.2 fun a=>by simp only[List.count_append,List.count_cons,List.count_nil]<;>omega),hbd2.trans hbd,hA3⟩
    |false=>
     have hq6:r.t.next+1≠6:=beq_eq_false_iff_ne.1 c6
     rw[c6] at i6
     cases cl: (nxT r).light with
     |false=>
      have h9:endT (nxT r)=false:=by rw[hen,c6,cl];rfl
      rw[h9] at hst9 hfe hR
      cases hd:r.did with
      |true=>
       rw[hd,if_neg (fun h=>by cases h.1)] at hR
       first|with_reducible refine ks [] (And.intro @qr_ (And.intro @hst7 (And.intro @e0 (And.intro @hst9 (And.intro @i6 (And.intro @cl (@hfe))))))) ?_|refine kp (And.intro @qr_ (And.intro @hst7 (And.intro @e0 (And.intro @hst9 (And.intro @i6 (And.intro @cl (@hfe))))))) ?_
       refine⟨_,(ke @qr_), ?_⟩
       rw[←hR]
       exact⟨hE2.keys rfl,rfl,X2++ [(b8,stO)],G2,(by classical exact List.perm_iff_count.2 fun a=>by simp only[List.count_append,List.count_cons,List.count_nil]<;>omega),hbd2.trans hbd,hA3⟩
      |false=>
       rw[hd,if_pos ⟨rfl,rfl⟩] at hR
       first|with_reducible refine ks [] (And.intro @qr_ (And.intro @hst7 (And.intro @e0 (And.intro @hst9 (And.intro @i6 (And.intro @cl (@hfe))))))) ?_|refine kp (And.intro @qr_ (And.intro @hst7 (And.intro @e0 (And.intro @hst9 (And.intro @i6 (And.intro @cl (@hfe))))))) ?_
       exact Jump.mk ⟨0,false,r.e,kf_ r,r.S,G2,X2,b8,c+1⟩ rfl (by show 6 - (r.t.next+1)+1<6 - t1.next+1;omega) ⟨hE2.keys rfl,hnd2,hb8,hbd2.trans hbd,hA2,hBf, .inl ⟨rfl,by show c+1+ (6 - (r.t.next+1))≤6;omega,by show r.t.next+1<6;omega,by show xk_ (6 - (r.t.next+1)) _ _=_;rw[show 6 - (r.t.next+1)=q by omega];exact hR⟩⟩ rfl rfl
     |true=>
      cases c5: ((nxT r).next==5) with
      |true=>
       have h9:endT (nxT r)=true:=by rw[hen,c6,cl,c5];rfl
       rw[c5] at i5
       rw[h9] at hst9 hfe hR
       rw[if_neg (fun h=>by cases h.2)] at hR
       cases hd:r.did with
       |true=>
        first|with_reducible refine ks [] (And.intro @qr_ (And.intro @hst7 (And.intro @e0 (And.intro @hst9 (And.intro @i6 (And.intro @i5 (And.intro @cl (@hfe)))))))) ?_|refine kp (And.intro @qr_ (And.intro @hst7 (And.intro @e0 (And.intro @hst9 (And.intro @i6 (And.intro @i5 (And.intro @cl (@hfe)))))))) ?_
        refine⟨_,(ke @qr_), ?_⟩
        rw[←hR]
        exact⟨hE2.keys rfl,rfl,X2++ [(b8,stO)],G2,(by classical exact List.perm_iff_count.2 fun a=>by simp only[List.count_append,List.count_cons,List.count_nil]<;>omega),hbd2.trans hbd,hA3⟩
       |false=>
        first|with_reducible refine ks [] (And.intro @qr_ (And.intro @hst7 (And.intro @e0 (And.intro @hst9 (And.intro @i6 (And.intro @i5 (And.intro @cl (@hfe)))))))) ?_|refine kp (And.intro @qr_ (And.intro @hst7 (And.intro @e0 (And.intro @hst9 (And.intro @i6 (And.intro @i5 (And.intro @cl (@hfe)))))))) ?_
        refine⟨_,(ke @qr_), ?_⟩
        rw[←hR]
        exact⟨hE2.keys rfl,rfl,X2++ [(b8,stO)],G2,(by classical exact List.perm_iff_count.2 fun a=>by simp only[List.count_append,List.count_cons,List.count_nil]<;>omega),hbd2.trans hbd,hA3⟩
      |false=>
       have h9:endT (nxT r)=false:=by rw[hen,c6,cl,c5];rfl
       rw[c5] at i5
       rw[h9] at hst9 hfe hR
       cases hd:r.did with
       |true=>
        rw[hd,if_neg (fun h=>by cases h.1)] at hR
        first|with_reducible refine ks [] (And.intro @qr_ (And.intro @hst7 (And.intro @e0 (And.intro @hst9 (And.intro @i6 (And.intro @i5 (And.intro @cl (@hfe)))))))) ?_|refine kp (And.intro @qr_ (And.intro @hst7 (And.intro @e0 (And.intro @hst9 (And.intro @i6 (And.intro @i5 (And.intro @cl (@hfe)))))))) ?_
        refine⟨_,(ke @qr_), ?_⟩
        rw[←hR]
        exact⟨hE2.keys rfl,rfl,X2++ [(b8,stO)],G2,(by classical exact List.perm_iff_count.2 fun a=>by simp only[List.count_append,List.count_cons,List.count_nil]<;>omega),hbd2.trans hbd,hA3⟩
       |false=>
        rw[hd,if_pos ⟨rfl,rfl⟩] at hR
        first|with_reducible refine ks [] (And.intro @qr_ (And.intro @hst7 (And.intro @e0 (And.intro @hst9 (And.intro @i6 (And.intro @i5 (And.intro @cl (@hfe)))))))) ?_|refine kp (And.intro @qr_ (And.intro @hst7 (And.intro @e0 (And.intro @hst9 (And.intro @i6 (And.intro @i5 (And.intro @cl (@hfe)))))))) ?_
        exact Jump.mk ⟨0,false,r.e,kf_ r,r.S,G2,X2,b8,c+1⟩ rfl (by show 6 - (r.t.next+1)+1<6 - t1.next+1;omega) ⟨hE2.keys rfl,hnd2,hb8,hbd2.trans hbd,hA2,hBf, .inl ⟨rfl,by show c+1+ (6 - (r.t.next+1))≤6;omega,by show r.t.next+1<6;omega,by show xk_ (6 - (r.t.next+1)) _ _=_;rw[show 6 - (r.t.next+1)=q by omega];exact hR⟩⟩ rfl rfl
   ·have e0: ((r.e:Int) !=0)=true:=by
     rw[bne_iff_ne];omega
    rw[if_pos he] at hR
    first|with_reducible refine ks [] (And.intro @qr_ (And.intro @hst7 (@e0))) ?_|refine kp (And.intro @qr_ (And.intro @hst7 (@e0))) ?_
    exact Jump.mk ⟨1,r.did,r.e,nxT r,r.S,G2,X2,b8,c+1⟩ rfl (by show 0<6 - t1.next+1;omega) ⟨hE2.keys rfl,hnd2,hb8,hbd2.trans hbd,hA2,hBn, .inr ⟨rfl,by show c+1≤6;omega,r,rfl,rfl,rfl,hR⟩⟩ rfl rfl
  ·simp only[SL,SS,SH]
   simp only[Zr_,hasL,Bool.or_false,Bool.false_or,Bool.or_true,Bool.true_or,Nat.reduceBEq,beq_self_eq_true, ↓reduceIte,Bool.false_eq_true]
   refine kv ?_
   try with_reducible refine kO_ ?_
   have hk:=hnd
   simp only[keys,List.map_cons,List.nodup_cons,List.mem_cons,not_or] at hk
   have hb3:bt≠b8:=hk.1.1
   have hb1:bt∉keys X1:=hk.1.2
   have hb2:b8∉keys X1:=hk.2.1
   have rd8: ∀o w,zE_ w ((bt,o):: (b8,stO)::X1) b8=some stO:=fun o w=>zh_ (by simp[Sx.look,hb3])
   obtain⟨T1,hT1⟩: ∃T1,T1=({nxT r with ended:=true}:TkL):=⟨_,rfl⟩
   have hst: ∀a,zn_ (some (a,1)) (some (tkO (nxT r))) 6 (.bool true)=some (tkO T1):=fun a=>by rw[hT1];exact Kf_ (nxT r) true a
   have d1:T1.dir=r.t.dir:=by rw[hT1];rfl
   have d2:T1.name=r.t.name:=by rw[hT1];rfl
   have d3:T1.made=(nxT r).made:=by rw[hT1]
   have hnd1:T1.name.length≤900000:=by rw[d2];exact hB1.name
   have hBT: (qP_ T1.name).length≤900004:=by rw[d2];exact v5_ (t:=nxT r) hB1
   have hA3:DkA (X1++ [(b8,stO)]) G1 r.S (N+7):=⟨hA1.P.mono (X':=X1++ [(b8,stO)]) fun b o h=>zu_ h,hA1.H,hA1.B.mono (by omega)⟩
   by_cases hm: (nxT r).made=true∧r.e≠9
   ·have m1:T1.made=true:=d3.trans hm.1
    have e9: ((r.e:Int) !=9)=true:=by
     rw[bne_iff_ne]
     have:=hm.2
     omega
    have hw:j8_ r=⟨false,r.e,T1,(qz_ r.S T1.dir (qP_ T1.name)).1⟩:=by
     unfold j8_
     rw[if_pos hm,d1,d2,hT1]
    first|with_reducible refine ks [] (And.intro @qr_ (And.intro @hst (And.intro @m1 (@e9)))) ?_|refine kp (And.intro @qr_ (And.intro @hst (And.intro @m1 (@e9)))) ?_
    refine Cw.permL (M:=X1++ [(bt,tkO T1),(b8,stO)]) (by classical exact List.perm_iff_count.2 fun a=>by simp only[List.count_append,List.count_cons,List.count_nil]<;>omega) ?_
    have rdT:zE_ w (X1++ [(bt,tkO T1),(b8,stO)]) bt=some (tkO T1):=zh_ (by rw[qf_ hb1];simp[Sx.look])
    have hsp:=fun(w':World) (hX': ∀p,p∈X1→w'.heap[p.1]? =some p.2) (hn': (keys X1).Nodup)=>JS_ X1 G1 r.S T1.dir (qP_ T1.name) w' hX' hn' hA1.P (by omega) (hA1.pend (by omega))
    simp only[hbd] at hsp
    refine Cw.regionO [0,1,2,3,5,6,7,4,8,9,10] [10] rfl (by kernel_rfl) (by kernel_rfl) ?_
    simp only[zp_, ↓zi_, ↓ze_, ↓zA_, ↓zz_,zf_]
    refine kq (And.intro @qr_ @rdT) ?_
    refine Ow.callX (X:=X1) (Y:= [(bt,tkO T1),(b8,stO)]) rfl rfl rfl Tryz.call77 (fun w' hw' hX' hn'=>hsp w' hX' hn') (fun v4 D4 hC4 hS4=> ?_)
    obtain⟨rfl,G',hbd',hP'⟩:=hS4
    refine kq @qr_ ?_
    first|with_reducible refine ks [] @qr_ ?_|refine kp @qr_ ?_
    refine⟨_,(ke @qr_), ?_⟩
    rw[←hR,hw]
    have hA4:=hA1.step hP' (kq_ r.S T1.dir (qP_ T1.name) []) (by omega) (Nat.zero_le _)
    have hE1:Ext w (X++ [(bt,tkO t)]) (X1++ [(bt,tkO T1),(b8,stO)]):=(hE.keys (D':=(bt,tkO T1):: (b8,stO)::X1) rfl).perm (by classical exact List.perm_iff_count.2 fun a=>by simp only[List.count_append,List.count_cons,List.count_nil]<;>omega)
    exact⟨hE1.came hC4,rfl,D4++ [(b8,stO)],G',(by classical exact List.perm_iff_count.2 fun a=>by simp only[List.count_append,List.count_cons,List.count_nil]<;>omega),hbd',hA4.P.mono (X':=D4++ [(b8,stO)]) fun b o h=>zu_ h,hA4.H,hA4.B.mono (by omega)⟩
   ·have hw:j8_ r=⟨false,r.e,T1,r.S⟩:=by
     unfold j8_
     rw[if_neg hm,hT1]
    by_cases hm1: (nxT r).made=true
    ·have h9:r.e=9:=Decidable.byContradiction fun h=>hm ⟨hm1,h⟩
     have m1:T1.made=true:=d3.trans hm1
     have e9: ((r.e:Int) !=9)=false:=by rw[h9];rfl
     first|with_reducible refine ks [] (And.intro @qr_ (And.intro @hst (And.intro @m1 (@e9)))) ?_|refine kp (And.intro @qr_ (And.intro @hst (And.intro @m1 (@e9)))) ?_
     refine⟨_,(ke @qr_), ?_⟩
     rw[←hR,hw]
     exact⟨hE.keys rfl,rfl,X1++ [(b8,stO)],G1,(by classical exact List.perm_iff_count.2 fun a=>by simp only[List.count_append,List.count_cons,List.count_nil]<;>omega),hbd,hA3⟩
    ·have m1:T1.made=false:=d3.trans (by simpa using hm1)
     first|with_reducible refine ks [] (And.intro @qr_ (And.intro @hst (@m1))) ?_|refine kp (And.intro @qr_ (And.intro @hst (@m1))) ?_
     refine⟨_,(ke @qr_), ?_⟩
     rw[←hR,hw]
     exact⟨hE.keys rfl,rfl,X1++ [(b8,stO)],G1,(by classical exact List.perm_iff_count.2 fun a=>by simp only[List.count_append,List.count_cons,List.count_nil]<;>omega),hbd,hA3⟩
 ·intro key
  repeat ((try with_reducible refine Cw.go [999999] ?_);(simp(disch:=(first|assumption|omega| (simp only[x5_,xZ_,UInt64.reduceToNat];try omega))) only[↓Sx.S0,Sx.S1,Tryz.fx,qr_,Nat.reduceAdd,Nat.reducePow,Int.reducePow,Nat.reduceBEq, ↓reduceIte,UInt8.reduceToNat,UInt16.reduceToNat,UInt32.reduceToNat,UInt64.reduceToNat,Int.reduceToNat]))
  refine Ow.callFV rfl Tryz.call166 (fun w' hw'=>W9_ bt t w' (hw'.has _ _ (List.mem_append_right _ (List.mem_singleton.2 rfl)))) ?_
  have htf:t.ended=true∨t.ended=false:=by cases t.ended<;>simp
  rcases htf with hte|hte
  ·refine ko (And.intro @qr_ @hte) ?_
   repeat ((try with_reducible refine Cw.go [999999] ?_);(simp(disch:=(first|assumption|omega| (simp only[x5_,xZ_,UInt64.reduceToNat];try omega))) only[↓Sx.S0,Sx.S1,Tryz.fx,qr_,Nat.reduceAdd,Nat.reducePow,Int.reducePow,Nat.reduceBEq, ↓reduceIte,UInt8.reduceToNat,UInt16.reduceToNat,UInt32.reduceToNat,UInt64.reduceToNat,Int.reduceToNat,hte]))
   refine⟨_,(ke @qr_), ?_⟩
   rw[if_pos hte]
   exact⟨Ext.refl w _,rfl,X,G,List.Perm.refl _,rfl,hA.P,hA.H,hA.B.mono (by omega)⟩
  ·have hie: (if t.ended=true then(⟨false,15,t,S⟩:StR) else xk_ (6 - t.next) t S)=xk_ (6 - t.next) t S:=by rw[if_neg (by rw[hte];simp)]
   refine ko (And.intro @qr_ @hte) ?_
   repeat ((try with_reducible refine Cw.go [999999] ?_);(simp(disch:=(first|assumption|omega| (simp only[x5_,xZ_,UInt64.reduceToNat];try omega))) only[↓Sx.S0,Sx.S1,Tryz.fx,qr_,Nat.reduceAdd,Nat.reducePow,Int.reducePow,Nat.reduceBEq, ↓reduceIte,UInt8.reduceToNat,UInt16.reduceToNat,UInt32.reduceToNat,UInt64.reduceToNat,Int.reduceToNat,hte]))
   refine Ow.callFV rfl Tryz.call167 (fun w' hw'=>ahw_ w') ?_
   refine ko @qr_ ?_
   repeat ((try with_reducible refine Cw.go [999999] ?_);(simp(disch:=(first|assumption|omega| (simp only[x5_,xZ_,UInt64.reduceToNat];try omega))) only[↓Sx.S0,Sx.S1,Tryz.fx,qr_,Nat.reduceAdd,Nat.reducePow,Int.reducePow,Nat.reduceBEq, ↓reduceIte,UInt8.reduceToNat,UInt16.reduceToNat,UInt32.reduceToNat,UInt64.reduceToNat,Int.reduceToNat]))
   refine Ow.alloc rfl rfl Tryz.zr236 fun b8 hb8 hw8=> ?_
   rw[zd_]
   refine Ow.permL (M:=(b8, .cells #[.nilFunc, .nilFunc, .nilFunc, .nilFunc, .nilFunc, .nilFunc] 236 (0,0)):: (X++ [(bt,tkO t)])) (by classical exact List.perm_iff_count.2 fun a=>by simp only[List.count_append,List.count_cons,List.count_nil]<;>omega) ?_
   refine ko (And.intro @qr_ @Xs_) ?_
   repeat ((try with_reducible refine Cw.go [999999] ?_);(simp(disch:=(first|assumption|omega| (simp only[x5_,xZ_,UInt64.reduceToNat];try omega))) only[↓Sx.S0,Sx.S1,Tryz.fx,qr_,Nat.reduceAdd,Nat.reducePow,Int.reducePow,Nat.reduceBEq, ↓reduceIte,UInt8.reduceToNat,UInt16.reduceToNat,UInt32.reduceToNat,UInt64.reduceToNat,Int.reduceToNat]))
   refine Cw.permL (M:=(bt,tkO t):: (b8,stO)::X) (by classical exact List.perm_iff_count.2 fun a=>by simp only[List.count_append,List.count_cons,List.count_nil]<;>omega) ?_
   refine Cw.world fun w9 hw9=> ?_
   have hnd9:=hw9.nodup
   have key0:=fun f'=>key (⟨0,false,0,t,S,G,X,b8,0⟩) f'
   simp only[Zr_,hasL,Bool.or_false,Bool.false_or,Bool.or_true,Bool.true_or,Nat.reduceBEq,beq_self_eq_true, ↓reduceIte,Bool.false_eq_true] at key0
   clear key
   simp only[SL0,Zr_,hasL,Bool.or_false,Bool.false_or,Bool.or_true,Bool.true_or,Nat.reduceBEq,beq_self_eq_true, ↓reduceIte,Bool.false_eq_true] at key0
   refine Cw.label ?_
   refine key0 _ ?_ ?_
   ·refine⟨(((Ext.refl w (X++ [(bt,tkO t)])).app (o:=stO) hw8).perm (by classical exact List.perm_iff_count.2 fun a=>by simp only[List.count_append,List.count_cons,List.count_nil]<;>omega)),hnd9,hw8,rfl,hA,hB, .inl ⟨rfl,by show 0+ (6 - t.next)≤6;omega,hne hte,hie.symm⟩⟩
   ·rfl
end Go.Proofs
end
section
open Go Go.Proofs Go.Sx Go.StP
namespace Go.Proofs
set_option maxRecDepth 10000
set_option maxHeartbeats 1000000
set_option linter.unusedSimpArgs false
theorem aeL_: ∀ (f:Nat) (t:TkL) (S:DiskL),(xk_ f t S).t.name=t.name∧(xk_ f t S).t.data=t.data
 |0,_,_=>⟨rfl,rfl⟩
 |f+1,t,S=>by
  obtain⟨-,h2,h3,-⟩:=anl_ t.next t S
  have hw: (j8_ (phT t.next t S)).t.name=t.name∧(j8_ (phT t.next t S)).t.data=t.data:=by
   unfold j8_
   split<;>exact⟨h2,h3⟩
  obtain⟨-,f2,f3,-⟩:=ajK_ t.next t S
  have ih:=aeL_ f (kf_ (phT t.next t S)) (phT t.next t S).S
  rw[f2,f3] at ih
  unfold xk_
  split
  ·exact hw
  ·split
   ·exact ih
   ·exact⟨f2,f3⟩
theorem aqK_ {t:TkL} (h:TkB t) (S:DiskL):TkB (xv_ t S).t:=by
 unfold xv_
 split
 ·exact h
 ·exact⟨by rw[(aeL_ _ t S).1];exact h.name,by rw[(aeL_ _ t S).2];exact h.data⟩
theorem als_ {t:TkL} {S:DiskL} (he:t.ended=false) (hn:t.next<6): ((xv_ t S).done=true∨(xv_ t S).e≠0)∨((xv_ t S).t.ended=false∧t.next< (xv_ t S).t.next∧(xv_ t S).t.next<6):=by
 have hs:xv_ t S=xk_ (6 - t.next) t S:=by unfold xv_;rw[if_neg (by rw[he];simp)]
 rw[hs]
 rcases aeY_ (6 - t.next) t S (by omega) (by omega) with⟨h1,-⟩ | ⟨-,h2,-⟩ | ⟨-,-,h3,h4,h5,-⟩
 ·exact .inl (.inr h1)
 ·exact .inl (.inl h2)
 ·exact .inr ⟨h3,h4,h5⟩
theorem asL_ (f:Nat) (t:TkL) (S:DiskL):runG (f+1) t S=(if(xv_ t S).done=true∨(xv_ t S).e≠0 then((xv_ t S).e,(xv_ t S).t,(xv_ t S).S) else runG f (xv_ t S).t (xv_ t S).S):=rfl
set_option linter.defProp false
def ZT_:=And.intro (And.intro (@zc_) (@zb_)) (And.intro (@Sx.tup2_0) (@Sx.tup2_1))
structure RnG where
 f:Nat
 t:TkL
 S:DiskL
 G:DkG
 X:za_
def RnS (G:DkG) (bt:Nat) (R:Nat×TkL×DiskL) (N:Nat) (v:Value) (D:za_):Prop:=v=vi (R.1:Nat)∧ ∃X' G',(X'++ [(bt,tkO R.2.1)]).Perm D∧G'.bd=G.bd∧DkA X' G' R.2.2 N
theorem anM_ (X:za_) (G:DkG) (S:DiskL) (N bt:Nat) (t:TkL) (w:World) (hX: ∀p,p∈X++ [(bt,tkO t)]→w.heap[p.1]? =some p.2) (hn: (keys (X++ [(bt,tkO t)])).Nodup) (hA:DkA X G S N) (hN:N<700000) (hB:TkB t) (he:t.ended=false) (hne:t.next<6):
  Rets Tryz.prog 94 #[vp G.bd 0,vp bt 0] w (XS w (X++ [(bt,tkO t)]) (RnS G bt (runG 6 t S) (N+42))):=by
 refine Rets.enterX Tryz.func94 rfl (rs:= [.tmp 4]) Tryz.results94 Tryz.ntmps94 hX hn ?_
 refine kf ?_
 first|with_reducible refine ks [] @ZT_ ?_|refine kp @ZT_ ?_
 refine Cw.loopG (G:=RnG) [8,9,10,7,11,12,5,6,13,14,15,16,17,18,4] (fun g=> []) (fun g=>g.X++ [(bt,tkO g.t)]) (fun g=>runG g.f g.t g.S=runG 6 t S∧6 - g.t.next≤g.f∧g.t.ended=false∧g.t.next<6∧g.G.bd=G.bd∧DkA g.X g.G g.S (N+7* (6 - g.f))∧TkB g.t∧g.f≤6∧Ext w (X++ [(bt,tkO t)]) (g.X++ [(bt,tkO g.t)])) (fun g=>g.f) ⟨6,t,S,G,X⟩ rfl rfl ?_ ?_
 ·exact⟨rfl,by show 6 - t.next≤6;omega,he,hne,rfl,hA,hB,Nat.le_refl 6,Ext.refl w _⟩
 ·intro g j hg
  refine kv ?_
  obtain⟨f,t1,S1,G1,X1⟩:=g
  obtain⟨hR,hf,hen,hnx,hbd,hA1,hB1,hf6,hE⟩:=hg
  simp only at hR hf hen hnx hbd hA1 hB1 hf6 hE
  obtain⟨f,rfl⟩: ∃q,f=q+1:=⟨f - 1,by omega⟩
  rw[asL_] at hR
  first|with_reducible refine ks [] @ZT_ ?_|refine kp @ZT_ ?_
  have hsp:=fun(w':World) (hX': ∀p,p∈X1++ [(bt,tkO t1)]→w'.heap[p.1]? =some p.2) (hn': (keys (X1++ [(bt,tkO t1)])).Nodup)=>aiW_ X1 G1 S1 (N+7* (6 - (f+1))) bt t1 w' hX' hn' hA1 (by omega) hB1 (fun _=>hnx)
  simp only[hbd] at hsp
  refine Ow.callX (X:=X1++ [(bt,tkO t1)]) (Y:= []) (List.append_nil _).symm rfl rfl Tryz.call129 (fun w' hw' hX' hn'=>hsp w' hX' hn') (fun v4 D4 hC4 hS4=> ?_)
  obtain⟨rfl,X2,G2,hp2,hbd2,hA2⟩:=hS4
  rw[List.append_nil]
  have hE2:=(hE.came0 hC4).perm hp2
  have hst:=als_ (S:=S1) hen hnx
  have hsB:=aqK_ hB1 S1
  refine Ow.permL hp2 ?_
  generalize xv_ t1 S1=r at*
  have hA3:DkA X2 G2 r.S (N+42):=⟨hA2.P,hA2.H,hA2.B.mono (by omega)⟩
  by_cases hd:r.done=true
  ·rw[if_pos (.inl hd)] at hR
   refine ko (And.intro @ZT_ @hd) ?_
   first|with_reducible refine ks [] (And.intro @ZT_ @hd) ?_|refine kp (And.intro @ZT_ @hd) ?_
   refine⟨_,(ke @ZT_), ?_⟩
   rw[←hR]
   exact⟨hE2,rfl,X2,G2,List.Perm.refl _,hbd2.trans hbd,hA3⟩
  ·have hd':r.done=false:=by simpa using hd
   by_cases he0:r.e=0
   ·have e0: ((r.e:Int) !=0)=false:=by rw[he0];rfl
    rw[if_neg (fun h=>by rcases h with h|h;exact hd h;exact h he0)] at hR
    obtain⟨s1,s2,s3⟩:=hst.resolve_left (fun h=>by rcases h with h|h;exact hd h;exact h he0)
    refine ko (And.intro @ZT_ (And.intro @hd' (@e0))) ?_
    first|with_reducible refine ks [] (And.intro @ZT_ (And.intro @hd' (@e0))) ?_|refine kp (And.intro @ZT_ (And.intro @hd' (@e0))) ?_
    exact Again.mk ⟨f,r.t,r.S,G2,X2⟩ (Nat.lt_succ_self f) ⟨hR,by show 6 - r.t.next≤f;omega,s1,s3,hbd2.trans hbd,⟨hA2.P,hA2.H,hA2.B.mono (by show _≤N+7* (6 - f);omega)⟩,hsB,by show f≤6;omega,hE2⟩ rfl rfl
   ·have e0: ((r.e:Int) !=0)=true:=by
     rw[bne_iff_ne];omega
    rw[if_pos (.inr he0)] at hR
    refine ko (And.intro @ZT_ (And.intro @hd' (@e0))) ?_
    first|with_reducible refine ks [] (And.intro @ZT_ (And.intro @hd' (@e0))) ?_|refine kp (And.intro @ZT_ (And.intro @hd' (@e0))) ?_
    refine⟨_,(ke @ZT_), ?_⟩
    rw[←hR]
    exact⟨hE2,rfl,X2,G2,List.Perm.refl _,hbd2.trans hbd,hA3⟩
end Go.Proofs
end
section
open Go Go.Proofs Go.Sx Go.StP
namespace Go.Proofs
set_option maxRecDepth 10000
set_option maxHeartbeats 400000
set_option linter.unusedSimpArgs false
theorem anH_ (dir name data:List UInt8) (light:Bool):jy_ (wE_ Tryz.prog 193) (zW_ Tryz.prog 193) [(0,vs dir),(1,vs name),(2,vs data),(3, .bool light)]=some (.agg #[vs dir,vs name,vs data, .bool light,vi 0, .bool false, .bool false]):=by
 rw[show wE_ Tryz.prog 193=some [(0,1),(1,1),(2,1),(3,1),(4,1),(5,1),(6,1)] from id (by kernel_rfl),Tryz.zr193];rfl
theorem ahs_ (dir name data:List UInt8) (light:Bool) (w:World):
  Rets Tryz.prog 95 #[vs dir,vs name,vs data, .bool light] w (fun v D=> ∃b,w.heap.size≤b∧v=vp b 0∧D= [(b,tkO (tk0 dir name data light))]):=by
 refine Rets.enter Tryz.func95 rfl (rs:= [.tmp 8]) Tryz.results95 Tryz.ntmps95 ?_
 refine kf ?_
 first|with_reducible refine ks [] @Nat.add_zero ?_|refine kp @Nat.add_zero ?_
 refine Ow.build (.agg #[vs dir,vs name,vs data, .bool light,vi 0, .bool false, .bool false]) rfl (anH_ dir name data light) ?_
 refine Ow.box rfl rfl fun b1 hb1 hw1=> ?_
 refine ko @Nat.add_zero ?_
 first|with_reducible refine ks [] @Nat.add_zero ?_|refine kp @Nat.add_zero ?_
 exact⟨_,rfl,b1,hw1,rfl,rfl⟩
end Go.Proofs
end
section
open Go Go.Proofs Go.Sx Go.StP
namespace Go.Proofs
set_option maxRecDepth 10000
set_option maxHeartbeats 1000000
set_option linter.unusedSimpArgs false
def PubS (G:DkG) (R:Nat×DiskL) (N:Nat) (v:Value) (D:za_):Prop:=v=vi (R.1:Nat)∧ ∃G',G'.bd=G.bd∧DkA D G' R.2 N
theorem ahq_ (X:za_) (G:DkG) (S:DiskL) (N:Nat) (dir name data:List UInt8) (w:World) (hX: ∀p,p∈X→w.heap[p.1]? =some p.2) (hn: (keys X).Nodup) (hA:DkA X G S N) (hN:N<700000) (hnm:name.length≤900000) (hdt:data.length≤1000000):
  Rets Tryz.prog 39 #[vp G.bd 0,vs dir,vs name,vs data] w (XS w X (PubS G (pubV S dir name data true) (N+42))):=by
 have hB:TkB (tk0 dir name data true):=⟨hnm,hdt⟩
 refine Rets.enterX Tryz.func39 rfl (rs:= [.tmp 8]) Tryz.results39 Tryz.ntmps39 hX hn ?_
 refine kf ?_
 first|with_reducible refine ks [] @Nat.add_zero ?_|refine kp @Nat.add_zero ?_
 refine Ow.callF rfl rfl Tryz.call95 (S:=fun B v D=> ∃b',B≤b'∧v=vp b' 0∧D= [(b',tkO (tk0 dir name data true))]) (fun w' hw'=>ahs_ dir name data true w') ?_
 rintro B v D hab hB0 ⟨b1,hb1,rfl,rfl⟩
 refine⟨_,Mrg.fresh (by intro q hq;simp only[keys,List.map_cons,List.map_nil,List.mem_singleton] at hq;omega), ?_⟩
 refine Ow.callX (X:=X++ [(b1,tkO (tk0 dir name data true))]) (Y:= []) (List.append_nil _).symm rfl rfl Tryz.call94 (fun w' hw' hX' hn'=>anM_ X G S N b1 (tk0 dir name data true) w' hX' hn' hA hN hB rfl (Nat.succ_pos 5)) (fun v4 D4 hC4 hS4=> ?_)
 obtain⟨rfl,X2,G2,hp2,hbd2,hA2⟩:=hS4
 rw[List.append_nil]
 have hE2:=(((Ext.refl w X).app (o:=tkO (tk0 dir name data true)) (by omega)).came0 hC4).perm hp2
 refine Ow.permL hp2 ?_
 have hr:=aqT_ S dir name data true
 rw[←hr]
 refine ko @Nat.add_zero ?_
 first|with_reducible refine ks [] @Nat.add_zero ?_|refine kp @Nat.add_zero ?_
 refine⟨_,(ke @Nat.add_zero), ?_⟩
 exact⟨hE2,rfl,G2,hbd2,hA2.P.mono fun b o h=>zu_ h,hA2.H,hA2.B⟩
end Go.Proofs
end
section
open Go Go.Proofs Go.Sx Go.StP
namespace Go.Proofs
set_option maxRecDepth 10000
set_option maxHeartbeats 400000
set_option linter.unusedSimpArgs false
def at8_ (s:List UInt8):Bool:=decide (4≤s.length)&&s.drop (s.length - 4)== [46,116,109,112]
def JF_ (dir:List UInt8):List (List UInt8)→Nat→DiskL→Nat×Nat×DiskL
 | [],n,S=>(n,0,S)
 |s::l,n,S=>if at8_ s=true then(if(qz_ S dir s).2≠0 then(n,(qz_ S dir s).2,(qz_ S dir s).1) else JF_ dir l (n+1) (qz_ S dir s).1) else JF_ dir l n S
def ahd_ (dir:List UInt8) (n:Nat) (S:DiskL):Nat×Nat×DiskL:=
 if(JF_ dir (wb_ S dir) n S).2.1≠0∨(JF_ dir (wb_ S dir) n S).1=n then JF_ dir (wb_ S dir) n S else((JF_ dir (wb_ S dir) n S).1,(zI_ (JF_ dir (wb_ S dir) n S).2.2 dir).2,(zI_ (JF_ dir (wb_ S dir) n S).2.2 dir).1)
def apm_:Nat→Nat→Nat→DiskL→Nat×Nat×DiskL
 |0,_,n,S=>(n,0,S)
 |f+1,k,n,S=>if(ahd_ (Z6_ k) n S).2.1≠0 then ahd_ (Z6_ k) n S else apm_ f (k+1) (ahd_ (Z6_ k) n S).1 (ahd_ (Z6_ k) n S).2.2
def asM_ (S:DiskL):Nat×Nat×DiskL:=apm_ 3 0 0 S
theorem arl_ {S:DiskL} (hB:DkB S) (dir:List UInt8): (wb_ S dir).length≤1000000∧ ∀s,s∈wb_ S dir→s.length≤1000000:=by
 unfold wb_
 split
 ·exact⟨Nat.zero_le _,fun s hs=>by cases hs⟩
 ·rename_i h
  obtain⟨k,hk,-⟩:=Qv_ (S:=S) (dir:=dir) (names:= []) (by omega)
  rw[hk]
  have hk3:=(zD_ hk).1
  refine⟨by rw[List.length_map];exact(hB k hk3).1,fun s hs=> ?_⟩
  obtain⟨p,hp,rfl⟩:=List.mem_map.1 hs
  exact(hB k hk3).2 p hp
set_option linter.defProp false
def axr_:=And.intro (@zc_) (@zb_)
theorem Zg_ {A B:za_} (h: (keys (A++B)).Nodup) {b:Nat} {o:Obj} (hb:Sx.look B b=some o):Sx.look (A++B) b=some o:=by
 rw[zv_,List.nodup_append] at h
 rw[qf_ fun hm=>h.2.2 b hm b (List.mem_map.2 ⟨_,zB_ hb,rfl⟩) rfl]
 exact hb
structure ClnG where
 k:Nat
 n:Nat
 S:DiskL
 G:DkG
 X:za_
 M:Nat
structure CliG where
 j:Nat
 n:Nat
 S:DiskL
 G:DkG
 X:za_
def ClnS (G:DkG) (R:Nat×Nat×DiskL) (N:Nat) (v:Value) (D:za_):Prop:=v= .tuple #[vi (R.1:Nat),vi (R.2.1:Nat)]∧ ∃G',G'.bd=G.bd∧DkA D G' R.2.2 N
structure ClnM (N k M:Nat):Prop where
 z:k=0→M≤N
 o:k≤1→M≤2*N
 t:k≤2→M≤4*N
 e:M≤8*N
theorem ClnM.next {N k M m:Nat} (h:ClnM N k M) (hk:k<3) (hm:m≤M):ClnM N (k+1) (M+m):=by
 obtain⟨a,b,c,d⟩:=h
 exact⟨by omega,by omega,by omega,by omega⟩
set_option linter.defProp false
def awS_:=And.intro (And.intro (@zc_) (@zb_)) (And.intro (@Sx.tup2_0) (@Sx.tup2_1))
end Go.Proofs
end
section
open Go Go.Proofs Go.Sx Go.StP Go.Dig
namespace Go.Proofs
set_option maxRecDepth 10000
set_option maxHeartbeats 1000000
set_option linter.unusedSimpArgs false
structure GlbA (w:World) (m:Nat):Prop where
 C:GlobC w
 E:GlobE w
 D:ak8_ w
 le:m≤w.heap.size
 c: (2:Nat)<m
 e: (4:Nat)<m
 d: (0:Nat)<m
theorem GlbA.mk0 {w:World} (hC:GlobC w) (hE:GlobE w) (hD:ak8_ w):GlbA w w.heap.size:=by
 have h1:=Xl_ hC
 obtain⟨e0,e1,f0,f1,h2,h3⟩:=id hE
 obtain⟨e,fz,h4⟩:=id hD
 exact⟨hC,hE,hD,Nat.le_refl _,h1,(Array.getElem?_eq_some_iff.1 h3).1,(Array.getElem?_eq_some_iff.1 h4).1⟩
theorem GlbA.of {w w':World} {L:za_} {m:Nat} (h:GlbA w m) (hw:Hp w L w') (hL: ∀b,b∈keys L→m≤b):GlbA w' m:=
 ⟨h.C.of hw fun hm=>by have:=hL _ hm;have:=h.c;omega,h.E.of hw fun b hb=>by have:=hL _ hb;have:=h.e;omega,by
  obtain⟨e,fz,h4⟩:=id h.D
  exact⟨e,fz,(hw.old _ (Array.getElem?_eq_some_iff.1 h4).1 fun hm=>by have:=hL _ hm;have:=h.d;omega).trans h4⟩,Nat.le_trans h.le hw.size,h.c,h.e,h.d⟩
theorem GlbA.new {w w':World} {L:za_} {m:Nat} (h:GlbA w m) (hw:Hp w L w') (hn:New w.heap.size L):GlbA w' m:=h.of hw fun b hb=>Nat.le_trans h.le (hn.le b hb)
theorem GlbA.ext {w w':World} {X L:za_} {m:Nat} (h:GlbA w m) (hX: ∀b,b∈keys X→m≤b) (hw:Hp w L w') (hE:Ext w X L):GlbA w' m:=h.of hw fun b hb=>(hE.new b hb).elim (hX b) fun hb=>Nat.le_trans h.le hb
theorem WY_ {w:World} {X D E:za_} (h:Ext w X D) (hk:keys E=keys D):Ext w X E:=⟨fun c hc=>h.new c (by rw[←hk];exact hc),fun c hc=>by rw[hk];exact h.all c hc⟩
theorem agi_ {w:World} {X D E:za_} (h:Ext w X D) (hN:New w.heap.size E):Ext w X (D++E):=
 ⟨fun c hc=>by
  rw[zv_] at hc
  exact(List.mem_append.1 hc).elim (h.new c) fun hc=> .inr (hN.le c hc),fun c hc=>by rw[zv_];exact List.mem_append_left _ (h.all c hc)⟩
def LpS (G:DkG) (R:PutR) (N:Nat) (v:Value) (D:za_):Prop:=v= .tuple #[.agg (a8 R.x.l),vi (R.e:Nat)]∧ ∃G',G'.bd=G.bd∧DkA D G' R.S N
set_option linter.defProp false
def jo_:=And.intro (And.intro (And.intro (@qb_) (@zP_)) (And.intro (@zO_) (@zS_))) (And.intro (And.intro (@Sx.tup2_0) (@Sx.tup2_1)) (And.intro (@zc_) (And.intro (@zb_) (@qU_))))
theorem ai5_ (X:za_) (G:DkG) (S:DiskL) (N m:Nat) (k:Int) (t:List UInt8) (w:World) (hX: ∀p,p∈X→w.heap[p.1]? =some p.2) (hn: (keys X).Nodup) (hA:DkA X G S N) (hN:N<700000) (hG:GlbA w m) (hm: ∀b,b∈keys X→m≤b):
  Rets Tryz.prog 60 #[vp G.bd 0,obV k t] w (XS w X (LpS G (putL S k t) (N+42))):=by
 have hzb:jy_ (wE_ Tryz.prog 84) (zW_ Tryz.prog 84) []=some (.agg (a8 id0.l)):=id (by kernel_rfl)
 have hi0:=id0.h
 have hup: ∀ {Y:za_} {G':DkG} {S':DiskL},DkA Y G' S' N→DkA Y G' S' (N+42):=fun h=>⟨h.P,h.H,h.B.mono (by omega)⟩
 refine Rets.enterX Tryz.func60 rfl (rs:= [.cell 4 84, .tmp 5]) Tryz.results60 Tryz.ntmps60 hX hn ?_
 refine kf ?_
 first|with_reducible refine ks [] @jo_ ?_|refine kp @jo_ ?_
 refine Ow.box rfl rfl fun b3 hb3 hw3=> ?_
 simp only[z4_,z1_,z3_,zd_,List.nil_append,List.cons_append]
 refine Ow.permL (M:=(b3, .cells #[vi k,vs t] 82 (0,0))::X) (by classical exact List.perm_iff_count.2 fun a=>by simp only[List.count_append,List.count_cons,List.count_nil]<;>omega) ?_
 refine ko @jo_ ?_
 refine Ow.alloc rfl rfl ZN_ fun b4 hb4 hw4=> ?_
 simp only[zd_,List.nil_append,List.cons_append]
 have h34:b3<b4:=zk_ hb4 (by simp[keys])
 refine Ow.permL (M:=(b4, .cells (a8 id0.l) 84 (0,0)):: (b3, .cells #[vi k,vs t] 82 (0,0))::X) (by classical exact List.perm_iff_count.2 fun a=>by simp only[List.count_append,List.count_cons,List.count_nil]<;>omega) ?_
 have hE4:Ext w X ((b4, .cells (a8 id0.l) 84 (0,0)):: (b3, .cells #[vi k,vs t] 82 (0,0))::X):=QP_ (QP_ (Ext.refl w X) hw3) hw4
 have hA3:=hA.mono fun b o h=>vy_ (x:= .cells #[vi k,vs t] 82 (0,0)) hb3 h
 have hA4:=hA3.mono fun b o h=>vy_ (x:= .cells (a8 id0.l) 84 (0,0)) hb4 h
 refine ko @jo_ ?_
 first|with_reducible refine ks [] @jo_ ?_|refine kp @jo_ ?_
 refine Ow.callFV rfl Tryz.call104 (fun w' hw'=>agQ_ k t w' (hG.ext hm hw' hE4).E) ?_
 refine ko @jo_ ?_
 refine Ow.alloc rfl rfl ZN_ fun b6 hb6 hw6=> ?_
 simp only[zd_,List.nil_append,List.cons_append]
 have h36:b3<b6:=zk_ hb6 (by simp[keys])
 have h46:b4<b6:=zk_ hb6 (by simp[keys])
 refine Ow.permL (M:=(b6, .cells (a8 id0.l) 84 (0,0)):: (b4, .cells (a8 id0.l) 84 (0,0)):: (b3, .cells #[vi k,vs t] 82 (0,0))::X) (by classical exact List.perm_iff_count.2 fun a=>by simp only[List.count_append,List.count_cons,List.count_nil]<;>omega) ?_
 have hP:putL S k t=if xu_ k t=false then⟨id0,1,S⟩ else if(getL S (idV k t)).e=0 then⟨idV k t,0,S⟩ else if(pubV S zg_ (qa_ (idV k t).l) (w1_ k t) true).1=0 then⟨idV k t,0,(pubV S zg_ (qa_ (idV k t).l) (w1_ k t) true).2⟩ else⟨id0,(pubV S zg_ (qa_ (idV k t).l) (w1_ k t) true).1,(pubV S zg_ (qa_ (idV k t).l) (w1_ k t) true).2⟩:=rfl
 have hlb:=fun h=>ag7_ (k:=k) (t:=t) h
 generalize idV k t=x at*
 have hx:=x.h
 have hxl: (qa_ x.l).length=64:=by rw[ja_,x.h]
 have hE6:Ext w X ((b6, .cells (a8 x.l) 84 (0,0)):: (b4, .cells (a8 id0.l) 84 (0,0)):: (b3, .cells #[vi k,vs t] 82 (0,0))::X):=QP_ hE4 hw6
 have hA6:=hA4.mono fun b o h=>vy_ (x:= .cells (a8 x.l) 84 (0,0)) hb6 h
 refine ko @jo_ ?_
 cases hr:xu_ k t with
 |false=>
  rw[hr,if_pos rfl] at hP
  first|with_reducible refine ks [] @jo_ ?_|refine kp @jo_ ?_
  refine Ow.build _ rfl hzb ?_
  refine ko @jo_ ?_
  first|with_reducible refine ks [] @jo_ ?_|refine kp @jo_ ?_
  refine⟨_,(ke @jo_), ?_⟩
  rw[hP]
  exact⟨hE6,rfl,G,rfl,hup hA6⟩
 |true=>
  rw[hr,if_neg (by simp)] at hP
  have hll:=hlb hr
  first|with_reducible refine ks [] @jo_ ?_|refine kp @jo_ ?_
  refine Ow.callFV rfl Tryz.call62 (fun w' hw'=>Jl_ w' G S x (hA6.P.world hw') hA6.P.ok (hG.ext hm hw' hE6).C (hG.ext hm hw' hE6).E) ?_
  generalize getL S x=g at*
  obtain⟨gk,gt,ge⟩:=g
  simp only at hP ⊢
  refine ko @jo_ ?_
  refine Ow.alloc rfl rfl zrOb fun b8 hb8 hw8=> ?_
  simp only[zd_,List.nil_append,List.cons_append]
  have h38:b3<b8:=zk_ hb8 (by simp[keys])
  have h48:b4<b8:=zk_ hb8 (by simp[keys])
  have h68:b6<b8:=zk_ hb8 (by simp[keys])
  refine Ow.permL (M:=(b8, .cells #[vi 0,vs []] 82 (0,0)):: (b6, .cells (a8 x.l) 84 (0,0)):: (b4, .cells (a8 id0.l) 84 (0,0)):: (b3, .cells #[vi k,vs t] 82 (0,0))::X) (by classical exact List.perm_iff_count.2 fun a=>by simp only[List.count_append,List.count_cons,List.count_nil]<;>omega) ?_
  refine Ow.world fun wz hwz=> ?_
  have hnd:=hwz.nodup
  clear hwz
  have hE8:Ext w X ((b8, .cells #[vi gk,vs gt] 82 (0,0)):: (b6, .cells (a8 x.l) 84 (0,0)):: (b4, .cells (a8 id0.l) 84 (0,0)):: (b3, .cells #[vi k,vs t] 82 (0,0))::X):=QP_ hE6 hw8
  have hA8:=hA6.mono fun b o h=>vy_ (x:= .cells #[vi gk,vs gt] 82 (0,0)) hb8 h
  refine ko @jo_ ?_
  by_cases he:ge=0
  ·subst he
   rw[if_pos rfl] at hP
   have e1: (((0:Nat):Int)==0)=true:=rfl
   first|with_reducible refine ks [] (And.intro @jo_ @e1) ?_|refine kp (And.intro @jo_ @e1) ?_
   refine⟨_,(ke @jo_), ?_⟩
   rw[hP]
   exact⟨WY_ hE8 rfl,rfl,G,rfl,hup (hA.mono fun b o h=>Zg_ (A:= [(b8, .cells #[vi gk,vs gt] 82 (0,0)),(b6, .cells (a8 x.l) 84 (0,0)),(b4, .cells (a8 x.l) 84 (0,0)),(b3, .cells #[vi k,vs t] 82 (0,0))]) hnd h)⟩
  ·rw[if_neg he] at hP
   have e1: ((ge:Int)==0)=false:=beq_eq_false_iff_ne.2 (by omega)
   first|with_reducible refine ks [] (And.intro @jo_ @e1) ?_|refine kp (And.intro @jo_ @e1) ?_
   refine Ow.callC rfl rfl Tryz.call49 (fun w' hw'=>JW_ k t w' (hG.ext hm hw' hE8).C) (fun B9 v9 D9 hA9 hB9 hN9 hS9=> ?_)
   rw[hr,if_pos rfl] at hS9
   subst hS9
   have hN9':New w.heap.size D9:=hN9.mono hB9
   refine ko @jo_ ?_
   have hE9:Ext w X (X++ ((b8, .cells #[vi gk,vs gt] 82 (0,0)):: (b6, .cells (a8 x.l) 84 (0,0)):: (b4, .cells (a8 id0.l) 84 (0,0)):: (b3, .cells #[vi k,vs t] 82 (0,0))::D9)):=(agi_ hE8 hN9').perm (by classical exact List.perm_iff_count.2 fun a=>by simp only[List.count_append,List.count_cons,List.count_nil]<;>omega)
   first|with_reducible refine ks [] @jo_ ?_|refine kp @jo_ ?_
   refine Ow.callFV rfl Tryz.call52 (fun w' hw'=>j1_ x.l hx w') ?_
   refine ko @jo_ ?_
   refine Ow.permL (M:=X++ ((b8, .cells #[vi gk,vs gt] 82 (0,0)):: (b6, .cells (a8 x.l) 84 (0,0)):: (b4, .cells (a8 id0.l) 84 (0,0)):: (b3, .cells #[vi k,vs t] 82 (0,0))::D9)) (by classical exact List.perm_iff_count.2 fun a=>by simp only[List.count_append,List.count_cons,List.count_nil]<;>omega) ?_
   refine Ow.callX (X:=X) (Y:=(b8, .cells #[vi gk,vs gt] 82 (0,0)):: (b6, .cells (a8 x.l) 84 (0,0)):: (b4, .cells (a8 id0.l) 84 (0,0)):: (b3, .cells #[vi k,vs t] 82 (0,0))::D9) rfl rfl rfl Tryz.call39 (fun w' hw' hX' hn'=>ahq_ X G S N zg_ (qa_ x.l) (w1_ k t) w' hX' hn' hA hN (by omega) (by omega)) (fun v4 D4 hC4 hS4=> ?_)
   obtain⟨rfl,G',hbd,hA'⟩:=hS4
   generalize pubV S zg_ (qa_ x.l) (w1_ k t) true=q at*
   obtain⟨e,S'⟩:=q
   simp only at hP hA' ⊢
   have hE10:Ext w X ((b8, .cells #[vi gk,vs gt] 82 (0,0)):: (b6, .cells (a8 x.l) 84 (0,0)):: (b4, .cells (a8 id0.l) 84 (0,0)):: (b3, .cells #[vi k,vs t] 82 (0,0)):: (D4++D9)):=(hE9.came hC4).perm (by classical exact List.perm_iff_count.2 fun a=>by simp only[List.count_append,List.count_cons,List.count_nil]<;>omega)
   refine Ow.permL (M:=(b8, .cells #[vi gk,vs gt] 82 (0,0)):: (b6, .cells (a8 x.l) 84 (0,0)):: (b4, .cells (a8 id0.l) 84 (0,0)):: (b3, .cells #[vi k,vs t] 82 (0,0)):: (D4++D9)) (by classical exact List.perm_iff_count.2 fun a=>by simp only[List.count_append,List.count_cons,List.count_nil]<;>omega) ?_
   refine Ow.world fun wz hwz=> ?_
   have hnd2:=hwz.nodup
   clear hwz
   refine ko @jo_ ?_
   by_cases he0:e=0
   ·subst he0
    rw[if_pos rfl] at hP
    have e2: (((0:Nat):Int) !=0)=false:=rfl
    first|with_reducible refine ks [] (And.intro @jo_ @e2) ?_|refine kp (And.intro @jo_ @e2) ?_
    refine⟨_,(ke @jo_), ?_⟩
    rw[hP]
    exact⟨WY_ hE10 rfl,rfl,G',hbd,hA'.mono fun b o h=>Zg_ (A:= [(b8, .cells #[vi gk,vs gt] 82 (0,0)),(b6, .cells (a8 x.l) 84 (0,0)),(b4, .cells (a8 x.l) 84 (0,0)),(b3, .cells #[vi k,vs t] 82 (0,0))]) hnd2 (zu_ h)⟩
   ·rw[if_neg he0] at hP
    have e2:=jO_ he0
    first|with_reducible refine ks [] (And.intro @jo_ @e2) ?_|refine kp (And.intro @jo_ @e2) ?_
    refine Ow.build _ rfl hzb ?_
    refine ko @jo_ ?_
    first|with_reducible refine ks [] @jo_ ?_|refine kp @jo_ ?_
    refine⟨_,(ke @jo_), ?_⟩
    rw[hP]
    exact⟨WY_ hE10 rfl,rfl,G',hbd,hA'.mono fun b o h=>Zg_ (A:= [(b8, .cells #[vi gk,vs gt] 82 (0,0)),(b6, .cells (a8 x.l) 84 (0,0)),(b4, .cells (a8 id0.l) 84 (0,0)),(b3, .cells #[vi k,vs t] 82 (0,0))]) hnd2 (zu_ h)⟩
end Go.Proofs
end
section
open Go Go.Proofs Go.Sx Go.StP Go.Dig
namespace Go.Proofs
set_option maxRecDepth 10000
set_option maxHeartbeats 1000000
set_option linter.unusedSimpArgs false
set_option linter.defProp false
def xz_:=And.intro (And.intro (And.intro (@qb_) (@zP_)) (And.intro (@zO_) (@zS_))) (And.intro (And.intro (@Sx.tup2_0) (@Sx.tup2_1)) (And.intro (@zc_) (And.intro (@zb_) (@qU_))))
def LsS (G:DkG) (R:Nat×DiskL) (N:Nat) (v:Value) (D:za_):Prop:=v=vi (R.1:Nat)∧ ∃G',G'.bd=G.bd∧DkA D G' R.2 N
structure SetG where
 i:Nat
 S:DiskL
 G:DkG
 X:za_
 DG:za_
theorem aiV_ {ids:List IdL} {i:Nat} (hi:i<ids.length) (S:DiskL):wd_ (ids.drop i) S=if(qM_ S zg_ (qa_ (ids.getD i id0).l)).2≠0∧(qM_ S zg_ (qa_ (ids.getD i id0).l)).2≠6 then((qM_ S zg_ (qa_ (ids.getD i id0).l)).2,(qM_ S zg_ (qa_ (ids.getD i id0).l)).1) else wd_ (ids.drop (i+1)) (qM_ S zg_ (qa_ (ids.getD i id0).l)).1:=by
 rw[ab4_ (z:=id0) hi]
 rfl
theorem WT_ (X:za_) (G:DkG) (S:DiskL) (N:Nat) (v:Value) (ids:List IdL) (b off:Nat) (arr:Array Value) (E:TypeId) (fz:Nat×Nat) (w:World) (hX: ∀p,p∈X→w.heap[p.1]? =some p.2) (hn: (keys X).Nodup) (hA:DkA X G S N) (hN:N+ids.length<700000) (hr:RowS 32 Z7_ id0 w v ids b off arr E fz) (hbw:0<ids.length→b<w.heap.size) (hbX:0<ids.length→b∉keys X):
  Rets Tryz.prog 63 #[vp G.bd 0,v] w (XS w X (LsS G (Z2_ ids S) (N+ids.length+1))):=by
 have ln:=fun x=>hr.len x
 have hS:Z2_ ids S=if(wd_ ids S).1≠0 then wd_ ids S else if ids= [] then(0,(wd_ ids S).2) else((zI_ (wd_ ids S).2 zg_).2,(zI_ (wd_ ids S).2 zg_).1):=rfl
 refine Rets.enterX Tryz.func63 rfl (rs:= [.tmp 4]) Tryz.results63 Tryz.ntmps63 hX hn ?_
 refine kf ?_
 first|with_reducible refine ks [] (And.intro @xz_ @ln) ?_|refine kp (And.intro @xz_ @ln) ?_
 refine Cw.permL (M:=X++ []) (by rw[List.append_nil]) ?_
 refine Cw.loopG (G:=SetG) [11,12,13,6,14,15,16,17,7,18,19,20,21,22,23,24,4,25,10] (fun g=> [(10,vi g.i)]) (fun g=>g.X++g.DG) (fun g=>g.i≤ids.length∧wd_ (ids.drop g.i) g.S=wd_ ids S∧g.G.bd=G.bd∧DkA g.X g.G g.S (N+g.i)∧Ext w X (g.X++g.DG)) (fun g=>ids.length - g.i) ⟨0,S,G,X,[]⟩ rfl rfl ?_ ?_
 ·exact⟨Nat.zero_le _,rfl,rfl,hA,by rw[List.append_nil];exact Ext.refl w X⟩
 intro g j hg
 refine kv ?_
 clear hA
 obtain⟨i,S1,G1,X1,DG⟩:=g
 simp only at hg ⊢
 obtain⟨hi,hR,hbd,hA1,hE⟩:=hg
 rw[←hbd]
 by_cases hlt:i<ids.length
 ·have d1:decide ((i:Int)< (ids.length:Int))=true:=decide_eq_true (by omega)
  have h0:0<ids.length:=by omega
  have hnb:b∉keys (X1++DG):=fun hm=>(hE.new b hm).elim (hbX h0) fun h=>by have:=hbw h0;omega
  have rd:zE_ w (X1++DG) b=some (.cells arr E fz):=by rw[xs_ hnb];exact hr.has h0
  have ix:=hr.idx true i hlt
  have ld:=WA_ hr hlt
  rw[aiV_ hlt] at hR
  generalize ids.getD i id0=x at*
  have hx:=x.h
  have hxl: (qa_ x.l).length=64:=by rw[ja_,x.h]
  first|with_reducible refine ks [] (And.intro @xz_ (And.intro @d1 (And.intro @ln (And.intro @ix (And.intro @rd (@ld)))))) ?_|refine kp (And.intro @xz_ (And.intro @d1 (And.intro @ln (And.intro @ix (And.intro @rd (@ld)))))) ?_
  refine Ow.alloc rfl rfl ZN_ fun b6 hb6 hw6=> ?_
  simp only[zd_,List.nil_append,List.cons_append]
  refine Ow.permL (M:=(b6, .cells (a8 id0.l) 84 (0,0)):: (X1++DG)) (by classical exact List.perm_iff_count.2 fun a=>by simp only[List.count_append,List.count_cons,List.count_nil]<;>omega) ?_
  have hi0:=id0.h
  have hE6:Ext w X (X1++ ((b6, .cells (a8 x.l) 84 (0,0))::DG)):=(QP_ (o:= .cells (a8 x.l) 84 (0,0)) hE hw6).perm (by classical exact List.perm_iff_count.2 fun a=>by simp only[List.count_append,List.count_cons,List.count_nil]<;>omega)
  refine ko @xz_ ?_
  first|with_reducible refine ks [] @xz_ ?_|refine kp @xz_ ?_
  refine Ow.callFV rfl Tryz.call52 (fun w' hw'=>j1_ x.l hx w') ?_
  refine ko @xz_ ?_
  refine Ow.permL (M:=X1++ ((b6, .cells (a8 x.l) 84 (0,0))::DG)) (by classical exact List.perm_iff_count.2 fun a=>by simp only[List.count_append,List.count_cons,List.count_nil]<;>omega) ?_
  refine Ow.callX (X:=X1) (Y:=(b6, .cells (a8 x.l) 84 (0,0))::DG) rfl rfl rfl Tryz.call20 (fun w' hw' hX' hn'=>V3_ X1 G1 S1 zg_ (qa_ x.l) w' hX' hn' hA1.P (by omega)) (fun v4 D4 hC4 hS4=> ?_)
  obtain⟨rfl,hP2⟩:=hS4
  have hE4:=hE6.came hC4
  have hA2:=hA1.step hP2 (QC_ S1 zg_ (qa_ x.l) []) (by omega) (by simp)
  generalize qM_ S1 zg_ (qa_ x.l)=q at*
  obtain⟨S2,e⟩:=q
  simp only at hR hA2 ⊢
  by_cases he:e≠0∧e≠6
  ·have e1:=jO_ he.1
   have e2: ((e:Int) !=6)=true:=bne_iff_ne.2 (by have:=he.2;omega)
   rw[if_pos he] at hR
   rw[←hR,if_pos he.1] at hS
   refine ko @xz_ ?_
   first|with_reducible refine ks [] (And.intro @xz_ (And.intro @e1 (@e2))) ?_|refine kp (And.intro @xz_ (And.intro @e1 (@e2))) ?_
   refine⟨_,(ke @xz_), ?_⟩
   rw[hS]
   refine⟨hE4,rfl,G1,hbd, ?_⟩
   exact⟨hA2.P.mono fun b o h=>zu_ h,hA2.H,hA2.B.mono (show N+i+1≤N+ids.length+1 by omega)⟩
  ·rw[if_neg he] at hR
   by_cases e0:e=0
   ·subst e0
    have e1: (((0:Nat):Int) !=0)=false:=rfl
    refine ko @xz_ ?_
    first|with_reducible refine ks [] (And.intro @xz_ @e1) ?_|refine kp (And.intro @xz_ @e1) ?_
    exact Again.mk ⟨i+1,S2,G1,D4,(b6, .cells (a8 x.l) 84 (0,0))::DG⟩ (by show ids.length - (i+1)<ids.length - i;omega) ⟨hlt,hR,rfl,hA2,hE4⟩ rfl rfl
   ·obtain rfl:e=6:=Classical.byContradiction fun h6=>he ⟨e0,h6⟩
    have e1: (((6:Nat):Int) !=0)=true:=rfl
    have e2: (((6:Nat):Int) !=6)=false:=rfl
    refine ko @xz_ ?_
    first|with_reducible refine ks [] (And.intro @xz_ (And.intro @e1 (@e2))) ?_|refine kp (And.intro @xz_ (And.intro @e1 (@e2))) ?_
    exact Again.mk ⟨i+1,S2,G1,D4,(b6, .cells (a8 x.l) 84 (0,0))::DG⟩ (by show ids.length - (i+1)<ids.length - i;omega) ⟨hlt,hR,rfl,hA2,hE4⟩ rfl rfl
 ·obtain rfl:i=ids.length:=by omega
  have d1:decide ((ids.length:Int)< (ids.length:Int))=false:=decide_eq_false (by omega)
  rw[List.drop_length] at hR
  have hR1:wd_ ids S=(0,S1):=hR.symm
  rw[hR1,if_neg (by simp)] at hS
  by_cases h0:ids.length=0
  ·have h1:ids= []:=List.length_eq_zero_iff.1 h0
   have e1: ((ids.length:Int)==0)=true:=by rw[h0];rfl
   rw[if_pos h1] at hS
   first|with_reducible refine ks [] (And.intro @xz_ (And.intro @d1 (And.intro @ln (@e1)))) ?_|refine kp (And.intro @xz_ (And.intro @d1 (And.intro @ln (@e1)))) ?_
   refine⟨_,(ke @xz_), ?_⟩
   rw[hS]
   exact⟨hE,rfl,G1,hbd,(hA1.mono fun b o h=>zu_ h).up⟩
  ·have h1:ids≠ []:=fun h=>h0 (by rw[h];rfl)
   have e1: ((ids.length:Int)==0)=false:=beq_eq_false_iff_ne.2 (by omega)
   rw[if_neg h1] at hS
   first|with_reducible refine ks [] (And.intro @xz_ (And.intro @d1 (And.intro @ln (@e1)))) ?_|refine kp (And.intro @xz_ (And.intro @d1 (And.intro @ln (@e1)))) ?_
   refine Ow.callX (X:=X1) (Y:=DG) rfl rfl rfl Tryz.call21 (fun w' hw' hX' hn'=>Qn_ X1 G1 S1 zg_ w' hX' hn' hA1.P) (fun v4 D4 hC4 hS4=> ?_)
   obtain⟨rfl,G2,hbd2,hP2⟩:=hS4
   have hE4:=hE.came hC4
   refine ko @xz_ ?_
   first|with_reducible refine ks [] @xz_ ?_|refine kp @xz_ ?_
   refine⟨_,(ke @xz_), ?_⟩
   rw[hS]
   exact⟨hE4,rfl,G2,hbd2.trans hbd,(hA1.step hP2 (kL_ S1 zg_ [] []) (by simp) (by simp)).mono fun b o h=>zu_ h⟩
end Go.Proofs
end
section
open Go Go.Proofs Go.Sx Go.StP Go.Dig
namespace Go.Proofs
set_option maxRecDepth 10000
set_option maxHeartbeats 1000000
set_option linter.unusedSimpArgs false
theorem ai6_ (S:DiskL) {nms:List (List UInt8)} {k:Nat} (h:k<nms.length):Kc_ S (nms.take (k+1))=Kc_ S (nms.take k)++ (if looP S (nms.getD k [])=true then [hexI (nms.getD k [])] else []):=by
 unfold Kc_
 rw[StP.take_snoc (z:= []) h,List.filter_append,List.map_append]
 generalize nms.getD k []=s
 cases hp:looP S s<;>simp[hp]
theorem aku_ (S:DiskL) (l:List (List UInt8)): (Kc_ S l).length≤l.length:=by
 unfold Kc_
 rw[List.length_map]
 exact List.length_filter_le _ _
structure LilG where
 i:Nat
 v:Value
 D:za_
 DG:za_
set_option linter.defProp false
def kc_:=And.intro (And.intro (And.intro (@qb_) (@zP_)) (And.intro (@zO_) (@zS_))) (And.intro (And.intro (@Sx.tup2_0) (@Sx.tup2_1)) (And.intro (@zc_) (And.intro (@zb_) (@qU_))))
theorem adV_ (G:DkG) (S:DiskL) (m:Nat) (w:World) (hD:DkW w G S) (ok:DkOk S) (hB:DkB S) (hG:GlbA w m):
  Rets Tryz.prog 64 #[vp G.bd 0] w (XS w [] (fun v D=>GrI D 84 32 v (amh_ S).length ((amh_ S).map Z7_).flatten)):=by
 have hLL:amh_ S=Kc_ S (wb_ S zg_):=rfl
 have hlb:=arl_ hB zg_
 refine Rets.enterX Tryz.func64 rfl (rs:= [.tmp 2]) Tryz.results64 Tryz.ntmps64 (fun p hp=>by cases hp) (by simp[keys]) ?_
 refine kf ?_
 first|with_reducible refine ks [] @kc_ ?_|refine kp @kc_ ?_
 refine Ow.callC rfl rfl Tryz.call79 (fun w' hw'=>Ws_ w' G S zg_ (hD.old hw' trivial) hB) (fun B3 v3 D3 hA3 hB3 hN3 hS3=> ?_)
 rw[←abq_] at hS3
 rw[List.nil_append]
 generalize wb_ S zg_=nms at*
 have hN3':New w.heap.size D3:=hN3.mono hB3
 have ln3:=afE_ hS3
 refine ko (And.intro @kc_ @ln3) ?_
 refine Cw.world fun w1 hw1=> ?_
 obtain⟨rb,off,arr,E,fz,hr3,hlk⟩:=hS3.rowL (z:= []) rfl hw1 agL_
 have rd3: ∀ (Y:za_),0<nms.length→zE_ w (D3++Y) rb=some (.cells arr E fz):=fun Y h0=>zh_ (zu_ (hlk h0))
 clear hw1 hlk
 refine Cw.permL (M:=D3++ ([]++ [])) (by simp) ?_
 refine Cw.loopG (G:=LilG) [14,15,16,5,18,19,17,20,21,6,7,22,23,25,26,27,24,28,29,8,9,30,31,32,33,34,35,3,36,13] (fun g=> [(3,g.v),(13,vi g.i)]) (fun g=>D3++ (g.D++g.DG)) (fun g=>g.i≤nms.length∧New w.heap.size g.D∧New w.heap.size g.DG∧Gr g.D 84 32 g.v (Kc_ S (nms.take g.i)).length ((Kc_ S (nms.take g.i)).map Z7_).flatten) (fun g=>nms.length - g.i) ⟨0, .slice none 0 0,[],[]⟩ rfl rfl ?_ ?_
 ·exact⟨Nat.zero_le _,trivial,trivial,Gr.nl⟩
 intro g j hg
 refine kv ?_
 obtain⟨i,vo,D,DG⟩:=g
 simp only at hg ⊢
 obtain⟨hi,hN,hNG,hGr⟩:=hg
 by_cases hlt:i<nms.length
 ·have d1:decide ((i:Int)< (nms.length:Int))=true:=decide_eq_true (by omega)
  have ix3:=hr3.idx false i hlt
  have ld3:=fun n=>adZ_ hr3 hlt n
  have rdj:=rd3 (D++DG) (by omega)
  have hsn:=ai6_ S hlt
  have hsl:=hlb.2 _ (ag2_ (z:= []) hlt)
  have hol:=aku_ S (nms.take i)
  rw[List.length_take,Nat.min_eq_left (by omega)] at hol
  have hlm:=hlb.1
  generalize nms.getD i []=s at*
  generalize Kc_ S (nms.take i)=os at*
  first|with_reducible refine ks [6,8] (And.intro @kc_ (And.intro @d1 (And.intro @ln3 (And.intro @ix3 (And.intro @rdj (@ld3)))))) ?_|refine kp (And.intro @kc_ (And.intro @d1 (And.intro @ln3 (And.intro @ix3 (And.intro @rdj (@ld3)))))) ?_
  refine Ow.callFV rfl Tryz.call114 (fun w' hw'=>ah9_ s w') ?_
  have hxu:wP_ s=(hexI s).l:=rfl
  have hpe:looP S s=(JY_ s&& (getL S (hexI s)).e==0):=rfl
  rw[hxu]
  generalize hexI s=x at*
  have hx:=x.h
  have hi0:=id0.h
  refine ko @kc_ ?_
  refine Ow.alloc rfl rfl ZN_ fun b6 hb6 hw6=> ?_
  simp only[zd_,List.nil_append,List.cons_append]
  refine Ow.permL (M:=(b6, .cells (a8 id0.l) 84 (0,0)):: (D3++ (D++DG))) (by classical exact List.perm_iff_count.2 fun a=>by simp only[List.count_append,List.count_cons,List.count_nil]<;>omega) ?_
  refine ko @kc_ ?_
  cases hok:JY_ s with
  |false=>
   rw[hok,Bool.false_and] at hpe
   rw[hpe,if_neg (by simp),List.append_nil] at hsn
   refine Cw.permL (M:=D3++ (D++ ((b6, .cells (a8 x.l) 84 (0,0))::DG))) (by classical exact List.perm_iff_count.2 fun a=>by simp only[List.count_append,List.count_cons,List.count_nil]<;>omega) ?_
   first|with_reducible refine ks [] @kc_ ?_|refine kp @kc_ ?_
   exact Again.mk ⟨i+1,vo,D,(b6, .cells (a8 x.l) 84 (0,0))::DG⟩ (by show nms.length - (i+1)<nms.length - i;omega) ⟨hlt,hN,⟨hw6,hNG⟩,by rw[hsn];exact hGr⟩ rfl rfl
  |true=>
   rw[hok,Bool.true_and] at hpe
   first|with_reducible refine ks [] @kc_ ?_|refine kp @kc_ ?_
   have hN6:New w.heap.size ((b6,Obj.cells (a8 x.l) 84 (0,0)):: (D3++ (D++DG))):=⟨hw6,hN3'.app (hN.app hNG)⟩
   refine Ow.callFV rfl Tryz.call62 (fun w' hw'=>Jl_ w' G S x (hD.old hw' hN6) ok (hG.new hw' hN6).C (hG.new hw' hN6).E) ?_
   generalize getL S x=q at*
   obtain⟨gk,gt,ge⟩:=q
   simp only at hpe ⊢
   refine ko @kc_ ?_
   refine Ow.alloc rfl rfl zrOb fun b8 hb8 hw8=> ?_
   simp only[zd_,List.nil_append,List.cons_append]
   have h68:b6<b8:=zk_ hb8 (by simp[keys])
   refine Ow.permL (M:=(b8, .cells #[vi 0,vs []] 82 (0,0)):: (b6, .cells (a8 x.l) 84 (0,0)):: (D3++ (D++DG))) (by classical exact List.perm_iff_count.2 fun a=>by simp only[List.count_append,List.count_cons,List.count_nil]<;>omega) ?_
   refine ko @kc_ ?_
   by_cases he:ge=0
   ·subst he
    have e1: (((0:Nat):Int)==0)=true:=rfl
    rw[show((0:Nat)==0)=true from rfl] at hpe
    rw[hpe,if_pos rfl] at hsn
    first|with_reducible refine ks [] (And.intro @kc_ @e1) ?_|refine kp (And.intro @kc_ @e1) ?_
    refine Ow.buildSlice (e:=84) (a8 x.l) rfl rfl (vj_ (cs:=x.l.map v8) Tryz.underlying106 Kg_ ZN_ (by decide) (by simp[x.h])) fun ba hba hwa=> ?_
    refine ko @kc_ ?_
    refine Ow.permL (M:=D++ (D3++ ((b8, .cells #[vi gk,vs gt] 82 (0,0)):: (b6, .cells (a8 x.l) 84 (0,0)):: (ba, .cells (a8 x.l) 84 (0,0))::DG))) (by classical exact List.perm_iff_count.2 fun a=>by simp only[List.count_append,List.count_cons,List.count_nil]<;>omega) ?_
    refine Ow.appendXG (e:=84) (k:=1) (new:=Z7_ x) (X:=D) vo rfl rfl rfl rfl Tryz.underlying106 Kg_ (by kernel_rfl) ZN_ (by rw[zd_,wO_,id0.h]) Tryz.underlying106 (by intro k h;cases h) hGr (fun w' hw'=>AppX.one1 (by rw[ajh_];exact hw'.has ba (.cells (a8 x.l) 84 (0,0)) (by simp)) (vv_ _) (XE_ _)) (by omega) (fun B4 v4 D4 hA4 hB4 hG4 hk41 hk42 hlk4=> ?_)
    have hN4:New w.heap.size D4:=New.of_le fun q hq=>by
     rcases hk42 q hq with h|h
     ·exact hN.le q h
     ·omega
    refine Ow.permL (M:=D3++ (D4++ ((b8, .cells #[vi gk,vs gt] 82 (0,0)):: (b6, .cells (a8 x.l) 84 (0,0)):: (ba, .cells (a8 x.l) 84 (0,0))::DG))) (by classical exact List.perm_iff_count.2 fun a=>by simp only[List.count_append,List.count_cons,List.count_nil]<;>omega) ?_
    refine ko @kc_ ?_
    first|with_reducible refine ks [] @kc_ ?_|refine kp @kc_ ?_
    exact Again.mk ⟨i+1,v4,D4,(b8, .cells #[vi gk,vs gt] 82 (0,0)):: (b6, .cells (a8 x.l) 84 (0,0)):: (ba, .cells (a8 x.l) 84 (0,0))::DG⟩ (by show nms.length - (i+1)<nms.length - i;omega) ⟨hlt,hN4,⟨hw8,hw6,hwa,hNG⟩,by rw[hsn];simpa using hG4⟩ rfl rfl
   ·have e1: ((ge:Int)==0)=false:=beq_eq_false_iff_ne.2 (by omega)
    rw[show(ge==0)=false from beq_eq_false_iff_ne.2 he] at hpe
    rw[hpe,if_neg (by simp),List.append_nil] at hsn
    refine Cw.permL (M:=D3++ (D++ ((b8, .cells #[vi gk,vs gt] 82 (0,0)):: (b6, .cells (a8 x.l) 84 (0,0))::DG))) (by classical exact List.perm_iff_count.2 fun a=>by simp only[List.count_append,List.count_cons,List.count_nil]<;>omega) ?_
    first|with_reducible refine ks [] (And.intro @kc_ @e1) ?_|refine kp (And.intro @kc_ @e1) ?_
    exact Again.mk ⟨i+1,vo,D,(b8, .cells #[vi gk,vs gt] 82 (0,0)):: (b6, .cells (a8 x.l) 84 (0,0))::DG⟩ (by show nms.length - (i+1)<nms.length - i;omega) ⟨hlt,hN,⟨hw8,hw6,hNG⟩,by rw[hsn];exact hGr⟩ rfl rfl
 ·obtain rfl:i=nms.length:=by omega
  have d1:decide ((nms.length:Int)< (nms.length:Int))=false:=decide_eq_false (by omega)
  rw[List.take_length,←hLL] at hGr
  first|with_reducible refine ks [] (And.intro @kc_ (And.intro @d1 (@ln3))) ?_|refine kp (And.intro @kc_ (And.intro @d1 (@ln3))) ?_
  refine⟨_,(ke @kc_), ?_⟩
  exact⟨Ext.of_new (hN3'.app (hN.app hNG)),hGr.i fun p hp=>by simp[hp]⟩
end Go.Proofs
end
section
open Go Go.Proofs Go.Sx Go.StP Go.Dig
namespace Go.Proofs
set_option maxRecDepth 10000
set_option maxHeartbeats 1000000
set_option linter.unusedSimpArgs false
structure RightI (all:List ObL) (S:DiskL) (sts:List ObL):Prop where
 alls:FulS S
 obj: ∀ (x:IdL) (d:List UInt8),qo_ S 0 (qa_ x.l)=some d→xR_ (qa_ x.l) d=true→(⟨Xh_ (qa_ x.l) d,J8_ (qa_ x.l) d⟩:ObL)∈all
 keep: ∀o,o∈sts→xu_ o.k o.t=true∧o∈all∧ ∃n,KeepS S 0 (qa_ (idV o.k o.t).l) n (w1_ o.k o.t)
theorem aho_ {S:DiskL} {x:IdL} (h1: (qM_ S zg_ (qa_ x.l)).2=0):Z2_ [x] S=((zI_ (qM_ S zg_ (qa_ x.l)).1 zg_).2,(zI_ (qM_ S zg_ (qa_ x.l)).1 zg_).1):=by
 have e:wd_ [x] S=(0,(qM_ S zg_ (qa_ x.l)).1):=by
  unfold wd_
  rw[if_neg (by rw[h1];simp)];rfl
 unfold Z2_
 rw[e,if_neg (by simp),if_neg (by simp)]
structure KeepI (all:List ObL) (S:DiskL) (had:List ObL) (n:Nat):Prop where
 alls:FulS S
 max:S.max=1000000
 used:qR_ S≤n*4300
 names: ∀ (x:IdL) (d:List UInt8),qo_ S 0 (qa_ x.l)=some d→ ∃o,o∈all∧xu_ o.k o.t=true∧idV o.k o.t=x∧d=w1_ o.k o.t
 had: ∀o,o∈had→xu_ o.k o.t=true∧o∈all∧qo_ S 0 (qa_ (idV o.k o.t).l)=some (w1_ o.k o.t)
theorem am2_ (q:Int):qR_ (wZ_ q)=0:=rfl
end Go.Proofs
end
section
open Go Go.Proofs Go.Sx Go.StP Go.Dig
namespace Go.Proofs
set_option maxRecDepth 10000
set_option maxHeartbeats 1000000
set_option linter.unusedSimpArgs false
theorem atb_ (q:Int):wZ_ q=ofD q []:=by
 unfold ofD wZ_ setV
 simp only[List.foldl_nil]
 congr 1
 funext k
 split<;>rfl
theorem apT_ {q:Int} {l:List FiL} (ok:DkOk (ofD q l)):FulS (ofD q l):=⟨ok,aqk_ q l,aps_ q l,(aqv_ q l).1,arw_ q l⟩
theorem amz_ {q:Int} (ok:DkOk (wZ_ q)):FulS (wZ_ q):=by
 rw[atb_] at ok ⊢
 exact apT_ ok
theorem arg_: ∀s:List UInt8,ltB s s=true→False:=fun s h=>by
 have:=(show SrtN [(s,0),(s,1)] from List.pairwise_cons.2 ⟨fun q hq=>by rw[List.mem_singleton.1 hq];exact h,List.pairwise_singleton _ _⟩).nodup
 simp at this
theorem anG_ {l:NmL} (h:SrtN l) {nm:List UInt8} (h1: ∀x,x≠nm→zx_ l x=none) {n:Nat} (h2:zx_ l nm=some n):l.map Prod.fst= [nm]:=by
 have ha: ∀p,p∈l→p.1=nm:=fun p hp=>Classical.byContradiction fun hne=>by
  have:=QV_ h.nodup (s:=p.1) (n:=p.2) hp
  rw[h1 p.1 hne] at this
  cases this
 match l,h,ha,h2 with
 | [],_,_,h2=>cases h2
 | [p],_,ha,_=>rw[List.map_cons,ha p List.mem_cons_self];rfl
 |p::q::r,h,ha,_=>
  have h3:=(List.pairwise_cons.1 h).1 q List.mem_cons_self
  rw[ha p List.mem_cons_self,ha q (List.mem_cons_of_mem _ List.mem_cons_self)] at h3
  exact absurd h3 (arg_ nm)
def abT:List UInt8:= [97,98]
theorem asR_:xu_ 1 abT=true:=by decide
structure AliveI (p:PutR) (q:Nat×DiskL):Prop where
 e:p.e=0
 x:p.x=idV 1 abT
 f:q.1=0
 got:getL (qI_ q.2 []) p.x=⟨1,abT,0⟩
 list: (amh_ (qI_ q.2 [])).length=1
theorem abi_ (ok:DkOk (wZ_ 1000)):AliveI (putL (wZ_ 1000) 1 abT) (Z2_ [(putL (wZ_ 1000) 1 abT).x] (putL (wZ_ 1000) 1 abT).S):=by
 have ha:=amz_ ok
 have hv0: ∀x,qo_ (wZ_ 1000) 0 x=none:=fun x=>rfl
 have hg: (getL (wZ_ 1000) (idV 1 abT)).e=6:=by
  have hrd:=akn_ ha.calm (idV 1 abT)
  rw[hv0] at hrd
  unfold getL
  rw[hrd,if_pos (by simp)]
 obtain⟨e,S',hp,a1,-,hoth,-,htm,hor⟩:=ajZ_ ha (Qy_ (idV 1 abT)).1 (Qy_ (idV 1 abT)).2 (w1_ 1 abT)
 have hlb: (w1_ 1 abT).length≤100:=by
  have h3:=zQ_ (abT.length:Int)
  have h4:abT.length=2:=rfl
  have h5: (wK_ 1).length=1:=rfl
  unfold w1_ qB_ j2_
  rw[KN_]
  simp only[List.length_cons,List.length_append]
  omega
 obtain⟨rfl,h2⟩:e=0∧qo_ S' 0 (qa_ (idV 1 abT).l)=some (w1_ 1 abT):=by
  rcases hor with h| ⟨-,-,h⟩
  ·exact h
  ·exact absurd ⟨by omega,by rw[am2_];show((0:Nat):Int)+_≤1000;omega⟩ h
 have Jb_:putL (wZ_ 1000) 1 abT=⟨idV 1 abT,0,S'⟩:=by
  unfold putL
  rw[asR_,if_neg (by simp),hg,if_neg (by decide),hp]
  simp
 rw[Jb_]
 obtain⟨s1,s2,s3,s4,s5,n,s6⟩:=adB_ a1 (Qy_ (idV 1 abT)).1 h2
 have hset:Z2_ [idV 1 abT] S'=(0,(zI_ (qM_ S' zg_ (qa_ (idV 1 abT).l)).1 zg_).1):=by rw[aho_ s1,s2]
 simp only
 rw[hset]
 generalize (zI_ (qM_ S' zg_ (qa_ (idV 1 abT).l)).1 zg_).1=S2 at*
 have hgot:getL (qI_ S2 []) (idV 1 abT)=⟨1,abT,0⟩:=aqG_ asR_ (aiH_ (by decide) (Qy_ _).1 s6 [])
 refine⟨rfl,rfl,rfl,hgot, ?_⟩
 obtain⟨i,h3,h4⟩:=abS_ S2 [] (k:=0) (by decide)
 rw[s5] at h3
 obtain rfl:i=0:=by simpa using h3
 have h5: ((qI_ S2 []).dir 0).seen=(S'.dir 0).seen:=by
  rw[h4]
  show x0_ S2 0 0=_
  unfold x0_
  rw[s5];rfl
 have h6: ((qI_ S2 []).dir 0).seen.map Prod.fst= [qa_ (idV 1 abT).l]:=by
  rw[h5]
  refine anG_ (n:=n) (a1.ok.seen 0 (by decide)) (fun x hx=> ?_) ?_
  ·by_cases hx2:x=qP_ (qa_ (idV 1 abT).l)
   ·rw[hx2];exact KL_ htm
   ·exact KL_ ((hoth x hx hx2).trans (hv0 x))
  ·have:=s6.at_
   rw[s5] at this
   exact this
 have h7:wb_ (qI_ S2 []) zg_= [qa_ (idV 1 abT).l]:=by
  have:=abF_ (S:=qI_ S2 []) (k:=0) (by decide)
  rw[abV_,if_neg (by decide),h6] at this
  exact this
 unfold amh_ Kc_
 rw[h7]
 have h8:looP (qI_ S2 []) (qa_ (idV 1 abT).l)=true:=by
  unfold looP
  rw[Wh_ _ (idV 1 abT).h,show hexI (qa_ (idV 1 abT).l)=idV 1 abT from apJ_ (ad3_ _ (idV 1 abT).h),hgot]
  rfl
 rw[List.filter_cons,if_pos h8]
 rfl
end Go.Proofs
end
section
open Go Go.Proofs Go.Sx Go.StP Go.Flo
namespace Go.Proofs
set_option maxRecDepth 10000
set_option maxHeartbeats 400000
set_option linter.unusedSimpArgs false
def bl0:DiskL:=wZ_ 100
def bl1:DiskL:=(pubV bl0 zg_ [97] [120] false).2
def bl2:DiskL:=(pubV bl1 zg_ [98] [121] true).2
def bl3:DiskL:=qI_ bl2 []
def bl4:DiskL:=(asM_ bl3).2.2
set_option linter.defProp false
def avT_:=And.intro (And.intro (@zc_) (@zb_)) (And.intro (@Sx.tup2_0) (@Sx.tup2_1))
structure JbL where
 dir:List UInt8
 name:List UInt8
 data:List UInt8
 light:Bool
def jbC (r:JbL):List Value:= [vs r.dir]++ ([vs r.name]++ ([vs r.data]++ ([Value.bool r.light])))
def jb0:JbL:=⟨[],[],[],false⟩
theorem ard_ (r:JbL): (jbC r).length=4:=by simp[jbC]
theorem amC_ (r:JbL):Value.cells (.agg (jbC r).toArray)=(jbC r).toArray:=zd_ _
theorem asQ_ (r:JbL):jbC r=([]:List Value)++ (([vs r.dir])++ ([vs r.name]++ ([vs r.data]++ ([Value.bool r.light])))):=by
 unfold jbC;simp only[List.append_assoc,List.nil_append,List.append_nil]
theorem ana_ (r:JbL) (n:Nat) (E:TypeId) (fz:Nat×Nat):zo_ (some (false,n)) (some (.cells (jbC r).toArray E fz)) 0=some (vs r.dir):=by
 rw[asQ_];exact zN_ _ _ _ n E fz (by simp)
theorem asE_ (r:JbL):jbC r=(([vs r.dir]))++ (([vs r.name])++ ([vs r.data]++ ([Value.bool r.light]))):=by
 unfold jbC;simp only[List.append_assoc,List.nil_append,List.append_nil]
theorem anw_ (r:JbL) (n:Nat) (E:TypeId) (fz:Nat×Nat):zo_ (some (false,n)) (some (.cells (jbC r).toArray E fz)) 1=some (vs r.name):=by
 rw[asE_];exact zN_ _ _ _ n E fz (by simp)
theorem arY_ (r:JbL):jbC r=(([vs r.dir])++ ([vs r.name]))++ (([vs r.data])++ ([Value.bool r.light])):=by
 unfold jbC;simp only[List.append_assoc,List.nil_append,List.append_nil]
theorem anb_ (r:JbL) (n:Nat) (E:TypeId) (fz:Nat×Nat):zo_ (some (false,n)) (some (.cells (jbC r).toArray E fz)) 2=some (vs r.data):=by
 rw[arY_];exact zN_ _ _ _ n E fz (by simp)
theorem arX_ (r:JbL):jbC r=(([vs r.dir])++ ([vs r.name])++ ([vs r.data]))++ (([Value.bool r.light])++ (([]:List Value))):=by
 unfold jbC;simp only[List.append_assoc,List.nil_append,List.append_nil]
theorem am7_ (r:JbL) (n:Nat) (E:TypeId) (fz:Nat×Nat):zo_ (some (false,n)) (some (.cells (jbC r).toArray E fz)) 3=some (Value.bool r.light):=by
 rw[arX_];exact zN_ _ _ _ n E fz (by simp)
theorem apU_ (r:JbL) (E:TypeId) (fz:Nat×Nat):zo_ (some (true,4)) (some (.cells (jbC r).toArray E fz)) 0=some (.agg (jbC r).toArray):=jG_ _ E fz 4 (by rw[List.size_toArray,ard_])
def auB_ (a:JbL):Bool:=decide (200<a.name.length) ||decide (2000<a.data.length) ||decide (50<a.dir.length)
set_option linter.defProp false
def avj_:=And.intro (And.intro (And.intro (@zc_) (@zb_)) (And.intro (@apU_) (@ana_))) (And.intro (And.intro (@anw_) (@anb_)) (And.intro (@am7_) (@amC_)))
structure OtG where
 k:Nat
 v:Value
 D:za_
 DG:za_
set_option linter.defProp false
def avf_:=And.intro (And.intro (@zc_) (@zb_)) (And.intro (@WQ_) (@Zh_))
end Go.Proofs
end
section
open Go Go.Proofs Go.Sx Go.StP Go.Dig
namespace Go.Proofs
set_option maxRecDepth 10000
set_option maxHeartbeats 1000000
set_option linter.unusedSimpArgs false
theorem anK_ {w:World} {x:IdL} {b:Nat} {E:TypeId} (h:w.heap[b]? =some (.cells (a8 x.l) E (0,0))):RowS 32 Z7_ id0 w (vsl b 0 1 1) [x] b 0 (a8 x.l) E (0,0):=
 RowS.sl rfl h fun k hk j hj=>by
  obtain rfl:k=0:=by simpa using hk
  rw[←ajh_]
  simp
set_option linter.defProp false
def ke_:=And.intro (And.intro (And.intro (@qb_) (@zP_)) (And.intro (@zO_) (@zS_))) (And.intro (And.intro (@Sx.tup2_0) (@Sx.tup2_1)) (And.intro (@zc_) (And.intro (@zb_) (@qU_))))
theorem j3_ (m:Nat) (w:World) (hG:GlbA w m):Rets Tryz.prog 48 #[] w (fun v D=>v= .bool true∧D= []):=by
 refine Rets.enterV Tryz.func48 rfl (rs:= [.tmp 0]) Tryz.results48 Tryz.ntmps48 ?_
 refine kf ?_
 first|with_reducible refine ks [] @ke_ ?_|refine kp @ke_ ?_
 refine Ow.callC rfl rfl Tryz.call28 (fun w' hw'=>ajO_ 1000 w' (by decide) (hG.new hw' trivial).D) (fun B0 v0 D0 hA0 hB0 hN0 hS0=> ?_)
 obtain⟨G0,rfl,hP0⟩:=hS0
 rw[List.nil_append]
 have hE0:Ext w [] D0:=Ext.of_new (hN0.mono hB0)
 have hk0: ∀b,b∈keys D0→m≤b:=fun b hb=>Nat.le_trans hG.le (hE0.new0.le b hb)
 have hD0:DkA D0 G0 (wZ_ 1000) 0:=⟨hP0,anv_ 1000,ap3_ 1000⟩
 obtain⟨a1,a2,a3,a4,a5⟩:=abi_ hP0.ok
 generalize wZ_ 1000=S0 at*
 refine ko @ke_ ?_
 first|with_reducible refine ks [] @ke_ ?_|refine kp @ke_ ?_
 refine Ow.build (obV 1 abT) rfl (acw_ 1 abT) ?_
 refine ko @ke_ ?_
 refine Ow.callX (X:=D0) (Y:= []) (List.append_nil _).symm rfl rfl Tryz.call60 (fun w' hw' hX' hn'=>ai5_ D0 G0 S0 0 m 1 abT w' hX' hn' hD0 (by omega) (hG.new hw' hE0.new0) hk0) (fun v1 D1 hC1 hS1=> ?_)
 rw[List.append_nil]
 obtain⟨rfl,G1,hb1,hA1⟩:=hS1
 have hE1:=hE0.came0 hC1
 generalize putL S0 1 abT=p at*
 obtain⟨x,pe,S1⟩:=p
 simp only at a1 a2 a3 a4 a5 hA1 ⊢
 subst a1
 rw[←hb1]
 refine ko @ke_ ?_
 refine Ow.alloc rfl rfl ZN_ fun b2 hb2 hw2=> ?_
 simp only[zd_,List.nil_append,List.cons_append]
 have hx:=x.h
 have hi0:=id0.h
 refine Ow.permL (M:=(b2, .cells (a8 id0.l) 84 (0,0))::D1) (by classical exact List.perm_iff_count.2 fun a=>by simp only[List.count_append,List.count_cons,List.count_nil]<;>omega) ?_
 refine ko @ke_ ?_
 first|with_reducible refine ks [] @ke_ ?_|refine kp @ke_ ?_
 refine Ow.buildSlice (e:=84) (a8 x.l) rfl rfl (vj_ (cs:=x.l.map v8) Tryz.underlying106 Kg_ ZN_ (by decide) (by simp[x.h])) fun ba hba hwa=> ?_
 refine ko @ke_ ?_
 have h2a:b2<ba:=zk_ hba (by simp[keys])
 have hn1a:ba∉keys D1:=fun hm=>by
  have:=zk_ hba (show ba∈keys _ from List.mem_cons_of_mem _ hm)
  omega
 have hYE:Ext w [] (D1++ [(b2, .cells (a8 x.l) 84 (0,0)),(ba, .cells (a8 x.l) 84 (0,0))]):=agi_ hE1 ⟨hw2,hwa,trivial⟩
 refine Ow.permL (M:=D1++ [(b2, .cells (a8 x.l) 84 (0,0)),(ba, .cells (a8 x.l) 84 (0,0))]) (by classical exact List.perm_iff_count.2 fun a=>by simp only[List.count_append,List.count_cons,List.count_nil]<;>omega) ?_
 refine Ow.callX (X:=D1) (Y:= [(b2, .cells (a8 x.l) 84 (0,0)),(ba, .cells (a8 x.l) 84 (0,0))]) rfl rfl rfl Tryz.call63 (fun w' hw' hX' hn'=>WT_ D1 G1 S1 (0+42) _ [x] ba 0 _ _ _ w' hX' hn' hA1 (by simp) (anK_ (hw'.has ba (.cells (a8 x.l) 84 (0,0)) (by simp))) (fun _=>(Array.getElem?_eq_some_iff.1 (hw'.has ba (.cells (a8 x.l) 84 (0,0)) (by simp))).1) (fun _=>hn1a)) (fun v2 D2 hC2 hS2=> ?_)
 obtain⟨rfl,G2,hb2',hA2⟩:=hS2
 have hE2:=hYE.came hC2
 generalize Z2_ [x] S1=q at*
 obtain⟨qe,S2⟩:=q
 simp only at a3 a4 a5 hA2 ⊢
 subst a3
 rw[←hb2']
 refine ko @ke_ ?_
 first|with_reducible refine ks [] @ke_ ?_|refine kp @ke_ ?_
 refine Ow.callX (X:=D2) (Y:= [(b2, .cells (a8 x.l) 84 (0,0)),(ba, .cells (a8 x.l) 84 (0,0))]) rfl rfl rfl Tryz.call22 (fun w' hw' hX' hn'=>adS_ D2 G2 S2 (.slice none 0 0) [] w' hX' hn' hA2.P (hG.new hw' hE2.new0).D (fun hm=>by have:=hE2.new0.le _ (show _∈keys _ by rw[zv_];exact List.mem_append_left _ hm);have:=hG.d;have:=hG.le;omega) ((Q7_ (q:=(S2,[])) hA2.B 3).b (by simp)) (.inl (SlV.nil w')) (fun h=>absurd rfl h) (by decide) (fun k hk=>⟨(hA2.H k).2,hA2.pend (by simp) k hk⟩)) (fun v3 D3 hC3 hS3=> ?_)
 obtain⟨G3,hb3,hP3⟩:=hS3
 have hE3:=hE2.came hC3
 have hA3:DkA D3 G3 (qI_ S2 []) (0+42+ [x].length+1):=⟨hP3,ahQ_ hA2.H _,ajw_ hA2.B _⟩
 generalize qI_ S2 []=S3 at*
 rw[←hb3]
 refine Ow.permL (M:=(b2, .cells (a8 x.l) 84 (0,0)):: (D3++ [(ba, .cells (a8 x.l) 84 (0,0))])) (by classical exact List.perm_iff_count.2 fun a=>by simp only[List.count_append,List.count_cons,List.count_nil]<;>omega) ?_
 have hE3p:Ext w [] ((b2, .cells (a8 x.l) 84 (0,0)):: (D3++ [(ba, .cells (a8 x.l) 84 (0,0))])):=hE3.perm (by classical exact List.perm_iff_count.2 fun a=>by simp only[List.count_append,List.count_cons,List.count_nil]<;>omega)
 refine Ow.world fun wz hwz=> ?_
 have hA4:DkA ((b2, .cells (a8 x.l) 84 (0,0)):: (D3++ [(ba, .cells (a8 x.l) 84 (0,0))])) G3 S3 (0+42+ [x].length+1):=hA3.mono fun b o h=>Zg_ (A:= [(b2, .cells (a8 x.l) 84 (0,0))]) hwz.nodup (zu_ h)
 clear hwz
 generalize D3++ [(ba,Obj.cells (a8 x.l) 84 (0,0))]=D4 at*
 refine ko @ke_ ?_
 first|with_reducible refine ks [6] @ke_ ?_|refine kp @ke_ ?_
 refine Ow.callFV rfl Tryz.call62 (fun w' hw'=>Jl_ w' G3 S3 x (hA4.P.world hw') hA4.P.ok (hG.new hw' hE3p.new0).C (hG.new hw' hE3p.new0).E) ?_
 rw[a4]
 refine ko @ke_ ?_
 refine Ow.alloc rfl rfl zrOb fun b5 hb5 hw5=> ?_
 simp only[zd_,List.nil_append,List.cons_append]
 have h25:b2<b5:=zk_ hb5 (by simp[keys])
 refine Ow.permL (M:=(b5, .cells #[vi 0,vs []] 82 (0,0)):: (b2, .cells (a8 x.l) 84 (0,0))::D4) (by classical exact List.perm_iff_count.2 fun a=>by simp only[List.count_append,List.count_cons,List.count_nil]<;>omega) ?_
 have hN5:New w.heap.size ((b5, .cells #[vi 1,vs abT] 82 (0,0)):: (b2, .cells (a8 x.l) 84 (0,0))::D4):=⟨hw5,hE3p.new0⟩
 have hA5:DkA ((b5, .cells #[vi 1,vs abT] 82 (0,0)):: (b2, .cells (a8 x.l) 84 (0,0))::D4) G3 S3 (0+42+ [x].length+1):=hA4.mono fun b o h=>vy_ hb5 h
 refine ko @ke_ ?_
 have z0: (((0:Nat):Int)==0)=true:=rfl
 have zb: (abT== [97,98])=true:=rfl
 refine Cw.regionS [b5,b2] [0,1,2,3,4,5,6,7,8,9,10,11,12,13,14,15,16,17,18,19,20,21,22,24,23,25,26,27,28] [] (by kernel_rfl) (by kernel_rfl) (by kernel_rfl) ?_
 simp only[zp_, ↓zi_, ↓ze_, ↓zA_, ↓zz_,zf_]
 refine kq (And.intro @ke_ (And.intro @z0 (@zb))) ?_
 refine Ow.soft rfl rfl rfl ?_
 refine Ow.callC rfl rfl Tryz.call64 (fun w' hw'=>adV_ G3 S3 m w' (hA5.P.world hw') hA5.P.ok (hA5.b (by simp)) (hG.new hw' hN5)) (fun B6 v6 D6 hA6 hB6 hN6 hS6=> ?_)
 have hN56:=hN5.app (hN6.mono hB6)
 have ln6:=afE_ hS6
 rw[a5] at ln6
 with_reducible refine Ow.nil ?_
 refine⟨Zb_ (by simp[keys]), ?_⟩
 have z1: (((1:Nat):Int)==1)=true:=rfl
 refine kq (And.intro @ke_ (And.intro @ln6 (@z1))) ?_
 refine Ow.soft rfl rfl rfl ?_
 refine Ow.callFV rfl Tryz.call52 (fun w' hw'=>j1_ x.l hx w') ?_
 with_reducible refine Ow.nil ?_
 refine⟨by intro b hb;simp only[List.mem_cons,List.not_mem_nil,or_false] at hb;(try subst hb);rfl, ?_⟩
 refine kq @ke_ ?_
 refine Ow.soft rfl rfl rfl ?_
 refine Ow.callFV rfl Tryz.call53 (fun w' hw'=>vE_ x.l hx w') ?_
 with_reducible refine Ow.nil ?_
 refine⟨by intro b hb;simp only[List.mem_cons,List.not_mem_nil,or_false] at hb;(try subst hb);rfl, ?_⟩
 refine kq (And.intro @ke_ @decide_true) ?_
 refine⟨_,(ke @ke_),hN56, ?_⟩
 rfl
end Go.Proofs
end
section
open Go Go.Proofs Go.Sx Go.StP Go.Dig
namespace Go.Proofs
set_option maxRecDepth 10000
set_option maxHeartbeats 1000000
set_option linter.unusedSimpArgs false
theorem as6_ {s:List UInt8} (h:lfOk s=true): (lfT (s.drop 1)).1.length≤4096:=by
 unfold lfOk at h
 rw[Bool.and_eq_true] at h
 have h2:=h.2
 rw[←w5_] at h2
 exact agm_ h2
set_option linter.defProp false
def qN_:=And.intro (And.intro (And.intro (@qb_) (@zP_)) (And.intro (@zO_) (@zS_))) (And.intro (And.intro (@Sx.tup2_0) (@Sx.tup2_1)) (And.intro (@zc_) (@zb_)))
theorem aa5_ (name b:List UInt8) (w:World) (hb:b.length<1099511627776):Rets Tryz.prog 51 #[vs name,vs b] w (fun v D=>v= .tuple #[obV (Xh_ name b) (J8_ name b), .bool (xR_ name b)]∧D= []):=by
 have hul:=am3_ b
 have hzb:jy_ (wE_ Tryz.prog 82) (zW_ Tryz.prog 82) []=some (obV 0 []):=id (by kernel_rfl)
 have hO:xR_ name b=((zw_ b).2&& (cutV (zw_ b).1 [83,76,79,49]).2&&Xc_ (looS b)&& (qa_ (idV (frK (looS b)) (frT (looS b)).1).l==name)):=rfl
 have hC:cutV (zw_ b).1 [83,76,79,49]=if(decide (4≤ (zw_ b).1.length)&& ((zw_ b).1.take 4== [83,76,79,49]))=true then((zw_ b).1.drop 4,true) else((zw_ b).1,false):=rfl
 have hS:looS b=(cutV (zw_ b).1 [83,76,79,49]).1:=rfl
 refine Rets.enterV Tryz.func51 rfl (rs:= [.cell 4 82, .tmp 5]) Tryz.results51 Tryz.ntmps51 ?_
 refine kf ?_
 first|with_reducible refine ks [] @qN_ ?_|refine kp @qN_ ?_
 refine Ow.alloc rfl rfl zrOb fun b4 hb4 hw4=> ?_
 simp only[zd_,List.nil_append,List.cons_append]
 refine ko @qN_ ?_
 first|with_reducible refine ks [] @qN_ ?_|refine kp @qN_ ?_
 have hN4:New w.heap.size [(b4,Obj.cells #[vi 0,vs []] 82 (0,0))]:=⟨hw4,trivial⟩
 refine Ow.callFV rfl Tryz.call105 (fun w' hw'=>Vd_ b w' (by omega)) ?_
 generalize zw_ b=u at*
 obtain⟨s,ok⟩:=u
 simp only at hul hO hC hS ⊢
 refine ko @qN_ ?_
 cases ok with
 |false=>
  have hlo:xR_ name b=false:=by rw[hO];rfl
  first|with_reducible refine ks [] @qN_ ?_|refine kp @qN_ ?_
  ((try with_reducible refine Cw.go [] ?_);(try simp(disch:=(first|assumption|omega| (simp only[x5_,xZ_,UInt64.reduceToNat];try omega))) only[↓Sx.S0,Sx.S1,Tryz.fx,qN_,Nat.reduceAdd,Nat.reducePow,Int.reducePow,Nat.reduceBEq, ↓reduceIte,UInt8.reduceToNat,UInt16.reduceToNat,UInt32.reduceToNat,UInt64.reduceToNat,Int.reduceToNat,Bool.not_false,Bool.not_true,hul]))
  refine Ow.build _ rfl hzb ?_
  refine ko @qN_ ?_
  first|with_reducible refine ks [] @qN_ ?_|refine kp @qN_ ?_
  refine⟨_,(ke @qN_),hN4, ?_⟩
  rw[Xh_,J8_,hlo];rfl
 |true=>
  by_cases h4:4≤s.length
  ·have d4:decide ((s.length:Int)<4)=false:=decide_eq_false (by omega)
   have d4':decide ((0:Int)≤4∧(4:Int)≤ (s.length:Int))=true:=decide_eq_true (by omega)
   have d4'':decide ((4:Int)≤ (s.length:Int)∧(s.length:Int)≤ (s.length:Int))=true:=decide_eq_true (by omega)
   by_cases hm:s.take 4= [83,76,79,49]
   ·have d5: (s.take 4 != [83,76,79,49])=false:=by simp[hm]
    rw[hm] at hC
    rw[if_pos (by rw[decide_eq_true h4];rfl)] at hC
    rw[hC] at hO hS
    simp only at hO hS
    rw[hS] at hO
    ((try with_reducible refine Cw.go [] ?_);(try simp(disch:=(first|assumption|omega| (simp only[x5_,xZ_,UInt64.reduceToNat];try omega))) only[↓Sx.S0,Sx.S1,Tryz.fx,qN_,Nat.reduceAdd,Nat.reducePow,Int.reducePow,Nat.reduceBEq, ↓reduceIte,UInt8.reduceToNat,UInt16.reduceToNat,UInt32.reduceToNat,UInt64.reduceToNat,Int.reduceToNat,Bool.not_false,Bool.not_true,d4,d4',d4'',d5]))
    refine Ow.callFV rfl Tryz.call106 (fun w' hw'=>aiw_ (s.drop 4) w' (by rw[List.length_drop];omega)) ?_
    obtain⟨hf1,hf2⟩:=aty_ (s.drop 4)
    have hlen:=as6_ (s:=s.drop 4)
    rw[hf1] at hO hf2
    refine ko @qN_ ?_
    refine Ow.alloc rfl rfl zrOb fun b8 hb8 hw8=> ?_
    simp only[zd_,List.nil_append,List.cons_append]
    have h48:b4<b8:=zk_ hb8 (by simp[keys])
    refine ko @qN_ ?_
    cases hf:lfOk (s.drop 4) with
    |false=>
     have hlo:xR_ name b=false:=by rw[hO,hf];rfl
     have hN8:New w.heap.size [(b4,Obj.cells #[vi 0,vs []] 82 (0,0)),(b8,Obj.cells #[vi 0,vs []] 82 (0,0))]:=⟨hw4,hw8,trivial⟩
     rw[if_neg (by simp),if_neg (by simp)]
     ((try with_reducible refine Cw.go [] ?_);(try simp(disch:=(first|assumption|omega| (simp only[x5_,xZ_,UInt64.reduceToNat];try omega))) only[↓Sx.S0,Sx.S1,Tryz.fx,qN_,Nat.reduceAdd,Nat.reducePow,Int.reducePow,Nat.reduceBEq, ↓reduceIte,UInt8.reduceToNat,UInt16.reduceToNat,UInt32.reduceToNat,UInt64.reduceToNat,Int.reduceToNat,Bool.not_false,Bool.not_true,hul]))
     refine Ow.build _ rfl hzb ?_
     refine ko @qN_ ?_
     first|with_reducible refine ks [] @qN_ ?_|refine kp @qN_ ?_
     refine⟨_,(ke @qN_),hN8, ?_⟩
     rw[Xh_,J8_,hlo];rfl
    |true=>
     obtain⟨e1,e2⟩:=hf2 hf
     have hln:=hlen hf
     have hok:xu_ (lfK (s.drop 4)) (lfT ((s.drop 4).drop 1)).1=true:=by
      unfold lfOk at hf
      rw[Bool.and_eq_true] at hf
      rw[w5_]
      exact hf.2
     rw[if_pos rfl,if_pos rfl]
     rw[hf,e1,e2] at hO
     generalize lfK (s.drop 4)=K at*
     generalize (lfT ((s.drop 4).drop 1)).1=T at*
     have hid:Dig.shaR (wx_ K T)=(idV K T).l:=by
      unfold idV
      rw[if_pos hok,Kq_ hok]
     have hil:=(idV K T).h
     have hN8:New w.heap.size [(b4,Obj.cells #[vi 0,vs []] 82 (0,0)),(b8,Obj.cells #[vi K,vs T] 82 (0,0))]:=⟨hw4,hw8,trivial⟩
     ((try with_reducible refine Cw.go [] ?_);(try simp(disch:=(first|assumption|omega| (simp only[x5_,xZ_,UInt64.reduceToNat];try omega))) only[↓Sx.S0,Sx.S1,Tryz.fx,qN_,Nat.reduceAdd,Nat.reducePow,Int.reducePow,Nat.reduceBEq, ↓reduceIte,UInt8.reduceToNat,UInt16.reduceToNat,UInt32.reduceToNat,UInt64.reduceToNat,Int.reduceToNat,Bool.not_false,Bool.not_true]))
     refine Ow.callFV rfl Tryz.call55 (fun w' hw'=>agZ_ K T w' (by omega)) ?_
     rw[hid]
     refine ko @qN_ ?_
     refine Ow.callFV rfl Tryz.call53 (fun w' hw'=>vE_ (idV K T).l hil w') ?_
     cases hq: (qa_ (idV K T).l==name) with
     |false=>
      have hq2: (qa_ (idV K T).l !=name)=true:=by simp[bne,hq]
      have hlo:xR_ name b=false:=by rw[hO,hq];rfl
      refine ko (And.intro @qN_ @hq2) ?_
      ((try with_reducible refine Cw.go [] ?_);(try simp(disch:=(first|assumption|omega| (simp only[x5_,xZ_,UInt64.reduceToNat];try omega))) only[↓Sx.S0,Sx.S1,Tryz.fx,qN_,Nat.reduceAdd,Nat.reducePow,Int.reducePow,Nat.reduceBEq, ↓reduceIte,UInt8.reduceToNat,UInt16.reduceToNat,UInt32.reduceToNat,UInt64.reduceToNat,Int.reduceToNat,Bool.not_false,Bool.not_true,hq2]))
      refine Ow.build _ rfl hzb ?_
      refine ko @qN_ ?_
      first|with_reducible refine ks [] @qN_ ?_|refine kp @qN_ ?_
      refine⟨_,(ke @qN_),hN8, ?_⟩
      rw[Xh_,J8_,hlo];rfl
     |true=>
      have hq2: (qa_ (idV K T).l !=name)=false:=by simp[bne,hq]
      have hlo:xR_ name b=true:=by rw[hO,hq];rfl
      refine ko (And.intro @qN_ @hq2) ?_
      first|with_reducible refine ks [] @qN_ ?_|refine kp @qN_ ?_
      refine⟨_,(ke @qN_),hN8, ?_⟩
      rw[Xh_,J8_,hlo,if_pos rfl,if_pos rfl,hS,e1,e2];rfl
   ·have d5: (s.take 4 != [83,76,79,49])=true:=by simp[bne,hm]
    rw[if_neg (fun h=>hm (by simp only[Bool.and_eq_true,beq_iff_eq] at h;exact h.2))] at hC
    rw[hC] at hO
    have hlo:xR_ name b=false:=by rw[hO];rfl
    ((try with_reducible refine Cw.go [] ?_);(try simp(disch:=(first|assumption|omega| (simp only[x5_,xZ_,UInt64.reduceToNat];try omega))) only[↓Sx.S0,Sx.S1,Tryz.fx,qN_,Nat.reduceAdd,Nat.reducePow,Int.reducePow,Nat.reduceBEq, ↓reduceIte,UInt8.reduceToNat,UInt16.reduceToNat,UInt32.reduceToNat,UInt64.reduceToNat,Int.reduceToNat,Bool.not_false,Bool.not_true,d4,d4',d4'',d5]))
    refine Ow.build _ rfl hzb ?_
    refine ko @qN_ ?_
    first|with_reducible refine ks [] @qN_ ?_|refine kp @qN_ ?_
    refine⟨_,(ke @qN_),hN4, ?_⟩
    rw[Xh_,J8_,hlo];rfl
  ·have d4:decide ((s.length:Int)<4)=true:=decide_eq_true (by omega)
   rw[if_neg (fun h=>h4 (by simp only[Bool.and_eq_true,decide_eq_true_eq] at h;exact h.1))] at hC
   rw[hC] at hO
   have hlo:xR_ name b=false:=by rw[hO];rfl
   ((try with_reducible refine Cw.go [] ?_);(try simp(disch:=(first|assumption|omega| (simp only[x5_,xZ_,UInt64.reduceToNat];try omega))) only[↓Sx.S0,Sx.S1,Tryz.fx,qN_,Nat.reduceAdd,Nat.reducePow,Int.reducePow,Nat.reduceBEq, ↓reduceIte,UInt8.reduceToNat,UInt16.reduceToNat,UInt32.reduceToNat,UInt64.reduceToNat,Int.reduceToNat,Bool.not_false,Bool.not_true,d4]))
   refine Ow.build _ rfl hzb ?_
   refine ko @qN_ ?_
   first|with_reducible refine ks [] @qN_ ?_|refine kp @qN_ ?_
   refine⟨_,(ke @qN_),hN4, ?_⟩
   rw[Xh_,J8_,hlo];rfl
end Go.Proofs
end
section
open Go Go.Proofs Go.Sx Go.StP Go.Dig
namespace Go.Proofs
set_option maxRecDepth 10000
set_option maxHeartbeats 1000000
set_option linter.unusedSimpArgs false
set_option linter.defProp false
def z0_:=And.intro (And.intro (And.intro (@qb_) (@zP_)) (And.intro (@zO_) (@zS_))) (And.intro (And.intro (@Sx.tup2_0) (@Sx.tup2_1)) (And.intro (@zc_) (And.intro (@zb_) (@qU_))))
theorem XJ_ (k:Int) (t name b:List UInt8) (x:IdL) (m:Nat) (w:World) (hG:GlbA w m):
  Rets Tryz.prog 10 #[obV k t,vs name,vs b, .agg (a8 x.l)] w (fun v D=>v= .bool true∧D= []):=by
 have hx:=x.h
 have hxl: (qa_ x.l).length=64:=by rw[ja_,x.h]
 refine Rets.enterV Tryz.func10 rfl (rs:= [.tmp 8]) Tryz.results10 Tryz.ntmps10 ?_
 refine kf ?_
 first|with_reducible refine ks [] @z0_ ?_|refine kp @z0_ ?_
 refine Ow.box rfl rfl fun b4 hb4 hw4=> ?_
 simp only[z4_,z1_,z3_,zd_,List.nil_append]
 refine ko @z0_ ?_
 refine Ow.box rfl rfl fun b7 hb7 hw7=> ?_
 simp only[z4_,z1_,z3_,zd_,List.nil_append,List.cons_append]
 have h47:b4<b7:=zk_ hb7 (by simp[keys])
 have hN7:New w.heap.size [(b4,Obj.cells #[vi k,vs t] 82 (0,0)),(b7,Obj.cells (a8 x.l) 84 (0,0))]:=⟨hw4,hw7,trivial⟩
 refine ko @z0_ ?_
 first|with_reducible refine ks [] @z0_ ?_|refine kp @z0_ ?_
 refine Ow.callFV rfl Tryz.call48 (fun w' hw'=>j3_ m w' (hG.new hw' hN7)) ?_
 refine ko @z0_ ?_
 cases g1:decide ((5000:Int)< (t.length:Int)) with
 |true=>
  first|with_reducible refine ks [] (And.intro @z0_ @g1) ?_|refine kp (And.intro @z0_ @g1) ?_
  refine Ow.callFV rfl Tryz.call48 (fun w' hw'=>j3_ m w' (hG.new hw' hN7)) ?_
  refine ko @z0_ ?_
  first|with_reducible refine ks [] @z0_ ?_|refine kp @z0_ ?_
  refine⟨_,(ke @z0_),hN7, ?_⟩
  rfl
 |false=>
  cases g2:decide ((200:Int)< (name.length:Int)) with
  |true=>
   first|with_reducible refine ks [] (And.intro @z0_ (And.intro @g1 (@g2))) ?_|refine kp (And.intro @z0_ (And.intro @g1 (@g2))) ?_
   refine Ow.callFV rfl Tryz.call48 (fun w' hw'=>j3_ m w' (hG.new hw' hN7)) ?_
   refine ko @z0_ ?_
   first|with_reducible refine ks [] @z0_ ?_|refine kp @z0_ ?_
   refine⟨_,(ke @z0_),hN7, ?_⟩
   rfl
  |false=>
   cases g3:decide ((6000:Int)< (b.length:Int)) with
   |true=>
    first|with_reducible refine ks [] (And.intro @z0_ (And.intro @g1 (And.intro @g2 (@g3)))) ?_|refine kp (And.intro @z0_ (And.intro @g1 (And.intro @g2 (@g3)))) ?_
    refine Ow.callFV rfl Tryz.call48 (fun w' hw'=>j3_ m w' (hG.new hw' hN7)) ?_
    refine ko @z0_ ?_
    first|with_reducible refine ks [] @z0_ ?_|refine kp @z0_ ?_
    refine⟨_,(ke @z0_),hN7, ?_⟩
    rfl
   |false=>
    have l1:=of_decide_eq_false g1
    have l2:=of_decide_eq_false g2
    have l3:=of_decide_eq_false g3
    first|with_reducible refine ks [8] (And.intro @z0_ (And.intro @g1 (And.intro @g2 (@g3)))) ?_|refine kp (And.intro @z0_ (And.intro @g1 (And.intro @g2 (@g3)))) ?_
    refine Ow.callC rfl rfl Tryz.call49 (fun w' hw'=>JW_ k t w' (hG.new hw' hN7).C) (fun B9 v9 D9 hA9 hB9 hN9 hS9=> ?_)
    have hN9':New w.heap.size D9:=hN9.mono hB9
    obtain⟨s,e,rfl,hse⟩: ∃ (s:List UInt8) (e:Int),v9= .tuple #[vs s,vi e]∧((xu_ k t=true∧s=w1_ k t∧e=0)∨(xu_ k t=false∧s= []∧e=1)):=by
     cases hr:xu_ k t with
     |true=>exact⟨_,_,by rw[hS9,hr,if_pos rfl], .inl ⟨rfl,rfl,rfl⟩⟩
     |false=>exact⟨_,_,by rw[hS9,hr,if_neg (by simp)], .inr ⟨rfl,rfl,rfl⟩⟩
    clear hS9
    have hNa:New w.heap.size ([(b4,Obj.cells #[vi k,vs t] 82 (0,0)),(b7,Obj.cells (a8 x.l) 84 (0,0))]++D9):=hN7.app hN9'
    refine ko @z0_ ?_
    first|with_reducible refine ks [] @z0_ ?_|refine kp @z0_ ?_
    refine Ow.callFV rfl Tryz.call50 (fun w' hw'=>ZW_ name b w' (hG.new hw' hNa).C (hG.new hw' hNa).E (by omega)) ?_
    obtain⟨K,hK⟩: ∃K,Xh_ name b=K:=⟨_,rfl⟩
    obtain⟨T,hT⟩: ∃T,J8_ name b=T:=⟨_,rfl⟩
    obtain⟨ok,hok⟩: ∃ok,xR_ name b=ok:=⟨_,rfl⟩
    rw[hK,hT,hok]
    refine ko @z0_ ?_
    refine Ow.alloc rfl rfl zrOb fun b11 hb11 hw11=> ?_
    simp only[zd_,List.nil_append,List.cons_append]
    have h411:b4<b11:=zk_ hb11 (by simp[keys])
    have h711:b7<b11:=zk_ hb11 (by simp[keys])
    refine Ow.permL (M:=(b11, .cells #[vi 0,vs []] 82 (0,0)):: (b4, .cells #[vi k,vs t] 82 (0,0)):: (b7, .cells (a8 x.l) 84 (0,0))::D9) (by classical exact List.perm_iff_count.2 fun a=>by simp only[List.count_append,List.count_cons,List.count_nil]<;>omega) ?_
    refine ko @z0_ ?_
    first|with_reducible refine ks [] @z0_ ?_|refine kp @z0_ ?_
    refine Ow.callFV rfl Tryz.call51 (fun w' hw'=>aa5_ name b w' (by omega)) ?_
    rw[hK,hT,hok]
    refine ko @z0_ ?_
    refine Ow.alloc rfl rfl zrOb fun b13 hb13 hw13=> ?_
    simp only[zd_,List.nil_append,List.cons_append]
    have h413:b4<b13:=zk_ hb13 (by simp[keys])
    have h713:b7<b13:=zk_ hb13 (by simp[keys])
    have h1113:b11<b13:=zk_ hb13 (by simp[keys])
    refine Ow.permL (M:=(b13, .cells #[vi 0,vs []] 82 (0,0)):: (b11, .cells #[vi K,vs T] 82 (0,0)):: (b4, .cells #[vi k,vs t] 82 (0,0)):: (b7, .cells (a8 x.l) 84 (0,0))::D9) (by classical exact List.perm_iff_count.2 fun a=>by simp only[List.count_append,List.count_cons,List.count_nil]<;>omega) ?_
    have hNb:New w.heap.size ((b13, .cells #[vi K,vs T] 82 (0,0)):: (b11, .cells #[vi K,vs T] 82 (0,0)):: (b4, .cells #[vi k,vs t] 82 (0,0)):: (b7, .cells (a8 x.l) 84 (0,0))::D9):=⟨hw13,hw11,hw4,hw7,hN9'⟩
    refine ko @z0_ ?_
    have nq:qy_ Tryz.prog .neq 82 (obV K T) (obV K T)=some (.bool false):=by
     have h:=aud_ ⟨K,T⟩ ⟨K,T⟩
     rw[decide_eq_true rfl] at h
     exact h
    have nb:qy_ Tryz.prog .neq 4 (.bool ok) (.bool ok)=some (.bool false):=by cases ok<;>rfl
    have nx: (qa_ x.l !=qa_ x.l)=false:=bne_self_eq_false _
    refine Cw.regionS [b13,b11,b4,b7] [0,1,2,3,4,5,6,7,8,9,11,10,12,13,14] [] (by kernel_rfl) (by kernel_rfl) (by kernel_rfl) ?_
    simp only[zp_, ↓zi_, ↓ze_, ↓zA_, ↓zz_,zf_]
    refine kq (And.intro @z0_ (And.intro @nq (@nb))) ?_
    refine Ow.soft rfl rfl rfl ?_
    refine Ow.callFV rfl Tryz.call52 (fun w' hw'=>j1_ x.l hx w') ?_
    with_reducible refine Ow.nil ?_
    refine⟨by intro b hb;simp only[List.mem_cons,List.not_mem_nil,or_false] at hb;(try subst hb);rfl, ?_⟩
    refine kq @z0_ ?_
    refine Ow.soft rfl rfl rfl ?_
    refine Ow.callFV rfl Tryz.call53 (fun w' hw'=>vE_ x.l hx w') ?_
    with_reducible refine Ow.nil ?_
    refine⟨by intro b hb;simp only[List.mem_cons,List.not_mem_nil,or_false] at hb;(try subst hb);rfl, ?_⟩
    refine kq (And.intro @z0_ @nx) ?_
    first|with_reducible refine ks [] @z0_ ?_|refine kp @z0_ ?_
    refine Ow.callFV rfl Tryz.call54 (fun w' hw'=>XO_ k t w') ?_
    rw[←w5_]
    refine ko @z0_ ?_
    rcases hse with⟨hr,rfl,rfl⟩ | ⟨hr,rfl,rfl⟩
    ·rw[hr]
     have ht:=agm_ hr
     have hbl:=ag7_ hr
     obtain⟨r1,r2,r3⟩:=af4_ hr
     have hid:Dig.shaR (wx_ k t)=(idV k t).l:=by
      have e:idV k t=⟨Dig.shaR (qB_ k t),Qr_ _⟩:=if_pos hr
      rw[e]
      exact congrArg Dig.shaR (Kq_ hr)
     have hil:=(idV k t).h
     first|with_reducible refine ks [] @z0_ ?_|refine kp @z0_ ?_
     refine Ow.callFV rfl Tryz.call55 (fun w' hw'=>agZ_ k t w' (by omega)) ?_
     rw[hid]
     refine ko @z0_ ?_
     refine Ow.callFV rfl Tryz.call53 (fun w' hw'=>vE_ (idV k t).l hil w') ?_
     refine ko @z0_ ?_
     refine Ow.callFV rfl Tryz.call50 (fun w' hw'=>ZW_ (qa_ (idV k t).l) (w1_ k t) w' (hG.new hw' hNb).C (hG.new hw' hNb).E (by omega)) ?_
     rw[r1,r2,r3]
     refine ko @z0_ ?_
     refine Ow.alloc rfl rfl zrOb fun b15 hb15 hw15=> ?_
     simp only[zd_,List.nil_append,List.cons_append]
     have h415:b4<b15:=zk_ hb15 (by simp[keys])
     refine Ow.permL (M:=(b15, .cells #[vi 0,vs []] 82 (0,0)):: (b13, .cells #[vi K,vs T] 82 (0,0)):: (b11, .cells #[vi K,vs T] 82 (0,0)):: (b4, .cells #[vi k,vs t] 82 (0,0)):: (b7, .cells (a8 x.l) 84 (0,0))::D9) (by classical exact List.perm_iff_count.2 fun a=>by simp only[List.count_append,List.count_cons,List.count_nil]<;>omega) ?_
     have hNc:New w.heap.size ((b15, .cells #[vi k,vs t] 82 (0,0)):: (b13, .cells #[vi K,vs T] 82 (0,0)):: (b11, .cells #[vi K,vs T] 82 (0,0)):: (b4, .cells #[vi k,vs t] 82 (0,0)):: (b7, .cells (a8 x.l) 84 (0,0))::D9):=⟨hw15,hNb⟩
     have eq:qy_ Tryz.prog .eql 82 (obV k t) (obV k t)=some (.bool true):=by
      have h:=aqE_ ⟨k,t⟩ ⟨k,t⟩
      rw[decide_eq_true rfl] at h
      exact h
     have z0: ((0:Int)==0)=true:=rfl
     refine ko @z0_ ?_
     first|with_reducible refine ks [] @z0_ ?_|refine kp @z0_ ?_
     refine Ow.callFV rfl Tryz.call48 (fun w' hw'=>j3_ m w' (hG.new hw' hNc)) ?_
     refine ko (And.intro @z0_ @z0) ?_
     refine Ow.callFV rfl Tryz.call56 (fun w' hw'=>WX_ k t w' hr) ?_
     have eb: (w1_ k t==w1_ k t)=true:=beq_self_eq_true _
     refine ko (And.intro @z0_ (And.intro @eb (@eq))) ?_
     first|with_reducible refine ks [] (And.intro @z0_ (And.intro @eb (@eq))) ?_|refine kp (And.intro @z0_ (And.intro @eb (@eq))) ?_
     refine⟨_,(ke @z0_),hNc, ?_⟩
     rfl
    ·rw[hr]
     have z1: ((1:Int)==1)=true:=rfl
     have zs: (([]:List UInt8)== [])=true:=rfl
     first|with_reducible refine ks [] @z0_ ?_|refine kp @z0_ ?_
     refine Ow.callFV rfl Tryz.call48 (fun w' hw'=>j3_ m w' (hG.new hw' hNb)) ?_
     refine ko (And.intro @z0_ (And.intro @z1 (@zs))) ?_
     first|with_reducible refine ks [] (And.intro @z0_ (And.intro @z1 (@zs))) ?_|refine kp (And.intro @z0_ (And.intro @z1 (@zs))) ?_
     refine⟨_,(ke @z0_),hNb, ?_⟩
     rfl
end Go.Proofs
end
section
open Go Go.Proofs Go.Sx Go.StP Go.Flo
namespace Go.Proofs
set_option maxRecDepth 10000
set_option maxHeartbeats 1000000
set_option linter.unusedSimpArgs false
def HadL (n i:Nat):Prop:=n≤3000000* (i+1)
structure BgG where
 i:Nat
 S:DiskL
 G:DkG
 X:za_
 had:List FiL
 v:Value
 D:za_
 DG:za_
def inF (had:List FiL) (f:FiL):Bool:=had.any fun h=>h.dir==f.dir&& (decide (f.data.length≤h.data.length)&&h.data.take f.data.length==f.data)
structure InG where
 k:Nat
 c:Bool
set_option linter.defProp false
def avE_:=And.intro (And.intro (@zc_) (And.intro (@zb_) (@QZ_))) (And.intro (@w3_) (And.intro (@Zi_) (@Zh_)))
end Go.Proofs
end
section
open Go Go.Proofs Go.Sx Go.StP Go.Flo
namespace Go.Proofs
set_option maxRecDepth 10000
set_option maxHeartbeats 1000000
set_option linter.unusedSimpArgs false
def auY_ (f:FiL) (a:ActL):Bool:=a.dir==f.dir&& (a.name==f.name|| (a.kind.tmod 9==4&&a.s==f.name))
structure SeG where
 i:Nat
 S:DiskL
 G:DkG
 X:za_
 DG:za_
set_option linter.defProp false
def awz_:=And.intro (And.intro (And.intro (And.intro (@zc_) (@zb_)) (And.intro (@QZ_) (@w3_))) (And.intro (And.intro (@J7_) (@Xv_)) (And.intro (@Xn_) (And.intro (@Xg_) (@XU_))))) (And.intro (And.intro (And.intro (@Zi_) (@WQ_)) (And.intro (@agW_) (@agF_))) (And.intro (And.intro (@ahg_) (@acE_)) (And.intro (@Zh_) (And.intro (@Sx.tup2_0) (@Sx.tup2_1)))))
end Go.Proofs
end
namespace Go.Sx
open Go Go.ChangeShapes Go.WideShapes Go.RowKit
theorem Hp.same0 {W W':World} (h:Hp W [] W') {b:Nat} (hb:b<W.heap.size):W'.heap[b]? =W.heap[b]? :=h.old b hb (fun hm=>by cases hm)
theorem Hp.kept {W W':World} (h:Hp W [] W') (may:MemPlace→Prop):W.keptBut W' may:=by
 refine⟨h.os,h.output,fun i hi=> ?_⟩
 rw[h.same0 hi]
 cases ho:W.heap[i]? with
 |none=>rfl
 |some o=>
  cases o<;>first
   |exact⟨rfl,rfl,rfl,fun _ _=>rfl⟩
   |exact .inr ⟨rfl,rfl⟩
   |rfl
theorem Hp.sameAt {W W':World} (h:Hp W [] W') {p:MemPlace} (hp:p.block<W.heap.size):W.sameAt W' p:=by
 cases p with
 |cell b off=>
  have:=h.same0 (b:=b) hp
  simp only[World.sameAt,World.cell?,this]
 |map b=>exact h.same0 hp
theorem Hp.frozen {W W':World} (h:Hp W [] W') {a:Addr} (ha:a.block<W.heap.size):W'.frozen? a=W.frozen? a:=by
 simp only[World.frozen?,h.same0 ha]
section
variable {H:Type} {enc:TypeId×Value→H} {P:Program}
theorem QM_ (hl:laidOutB P=true) {W W':World} {sp:Nat→Bool} (hp:Hp W [] W'): ∀ {ts:List TypeId} {vs:List Value} {ds:List (DataW H)} {ps:List MemPlace},
  (∀t∈ts,P.readableRec t=true∧t<P.types.size)→(∀p∈ps,p.block<W.heap.size)→(∀p∈ps,sp p.block=true)→
  DataW.TrodAll enc P W 0 (fun _=>true) true ts vs ds ps→DataW.TrodAll enc P W' 0 sp true ts vs ds ps
 | [],_,_,_,_,_,_,h=>by
  obtain⟨rfl,rfl,rfl⟩:=trodAll_nil h
  exact trodAll_mk0
 |t::ts,_,_,_,ht,hlt,hs,h=>by
  obtain⟨v,vs,d,ds,p,q,rfl,rfl,rfl,h1,h2⟩:=trodAll_cons h
  have hlt1: ∀x∈p,x.block<W.heap.size:=fun x hx=>hlt x (List.mem_append_left _ hx)
  exact trodAll_cons_mk (WideElems.Trod_stays hl (ht t List.mem_cons_self).1 (ht t List.mem_cons_self).2 h1 (fun x hx=>hp.sameAt (hlt1 x hx)) (fun x hx=>hs x (List.mem_append_left _ hx)))
   (QM_ hl hp (fun u hu=>ht u (List.mem_cons_of_mem _ hu)) (fun x hx=>hlt x (List.mem_append_right _ hx)) (fun x hx=>hs x (List.mem_append_right _ hx)) h2)
theorem ala_ {f:Func} {s:ChangeSpec} {W W':World} {args:Array Value} {ds gs:List (DataW H)} {before:List MemPlace} {tb:TypeId} (hl:laidOutB P=true)
  (hW:DataW.Whole enc P f.params.toList s.vars false W args.toList ds gs before) (hv:s.vars= []) (hpar: ∀t∈f.params.toList,P.readableRec t=true∧t<P.types.size)
  (hr:f.resultTypes= #[tb]) (htb:P.underlying tb=some .bool) (hfn:s.fn H ds={results:= [.lit (.bool true)],args:=ds}) (hp:Hp W [] W'):
  s.post enc P f false true false false W args (.bool true) W':=by
 have hlt:=hW.lt
 have hW0:=hW
 obtain⟨p,q,hA,hV,rfl,hz,hn⟩:=hW
 rw[hv] at hV
 obtain⟨rfl,rfl⟩:=trodVars_none hV
 rw[List.append_nil] at hW0 hlt hz
 have hargs: ∀sp:Nat→Bool,(∀x∈p,sp x.block=true)→DataW.TrodAll enc P W' 0 sp true f.params.toList args.toList (s.fn H (ds++ [])).args p:=fun sp hs=>by
  rw[List.append_nil,hfn]
  exact QM_ hl hp hpar hlt hs hA
 have hvars: ∀sp:Nat→Bool,DataW.TrodVars enc P W' sp s.vars (s.fn H (ds++ [])).vars []:=fun sp=>by
  rw[List.append_nil,hfn,hv];rfl
 have hres: ∀ (b:Nat) (sp:Nat→Bool) (hd:Bool),DataW.TrodAll enc P W' b sp hd f.resultTypes.toList ((Value.bool true).resultList f.resultTypes.size) (s.fn H (ds++ [])).results []:=fun b sp hd=>by
  rw[List.append_nil,hfn,hr]
  exact trodAll_cons_mk (shut_bool htb true) trodAll_mk0
 have hold: ∀x∈p,(fun b=>decide (b<W.heap.size)) x.block=true:=fun x hx=>by simpa using hlt x hx
 refine⟨ds,[],p,[],p,[],hW0,hres _ _ _,hargs _ hold,hvars _,hp.kept _,fun _=> ?_⟩
 refine⟨ok_one hr rfl (okWide_bool_mk htb true),_,_,([]++p)++ [],⟨[]++p,[],trodAll_append (hargs _ (fun _ _=>rfl)) (hres _ _ _),hvars _,rfl, ?_,fun h=>by cases h⟩, ?_⟩
 ·intro b off hx
  have hx':MemPlace.cell b off∈p:=by simpa using hx
  rw[hp.frozen (hlt _ hx')]
  exact hz b off hx'
 ·intro x hx _
  simpa using hx
end
section
variable {P:Program} {W:World} {name:String} {k:IntKind} {zs:List Int}
theorem vY_ {t e:TypeId} {g n:Nat} (hg:P.globalNamed name=some g) (hty: (P.globals[g]?).map (·.type)=some t) (ht:P.underlying t=some (.array n e)) (he:P.underlying e=some (.int k)) (hce:P.cellsOf e=1) (hct:P.cellsOf t=n):
  ∀ {laid:List (String×DataW Unit)} {ps:List MemPlace},DataW.LaidVars P W laid ps→(name,Lib.tabData k zs)∈laid→Lib.TabIs P W name k zs
 | [],_,_,hm=>by cases hm
 | (n',d')::rest,ps,h,hm=>by
  obtain⟨g',t',cs,fuel,p,q,hg',ht',hvar,hd,hr,-⟩:=h
  rcases List.mem_cons.1 hm with hm|hm
  ·cases hm
   obtain rfl:=Option.some.inj (hg.symm.trans hg')
   obtain rfl:=Option.some.inj (hty.symm.trans ht')
   unfold Lib.TabIs
   rw[hvar,←Lib.cells_of_tab ht he hce hct hd]
  ·exact vY_ hg hty ht he hce hct hr hm
theorem ZJ_ {g:Nat} (hg:P.globalNamed name=some g) (h:Lib.TabIs P W name k zs): ∃e f,W.heap[g]? =some (.cells (zs.map fun z=>Value.int k z).toArray e f):=by
 unfold Lib.TabIs at h
 simp only[World.var?,hg,Option.bind_some] at h
 split at h
 ·rename_i cs e f hb
  cases h
  exact⟨e,f,hb⟩
 ·cases h
end
section
variable {H:Type} {enc:TypeId×Value→H} {P:Program}
end
end Go.Sx
namespace Go.Sx
open Go
section
variable {P:Program}
end
end Go.Sx
section
open Go Go.Proofs Go.Sx Go.StP Go.Flo
open Go.ChangeShapes Go.WideShapes Go.ChangeAt Go.RowKit Go.ChangeMaps
namespace Go.Proofs
set_option maxRecDepth 10000
set_option maxHeartbeats 1000000
set_option linter.unusedSimpArgs false
end Go.Proofs
end
section
open Go Go.Proofs Go.Sx Go.StP Go.Flo
namespace Go.Proofs
set_option maxRecDepth 10000
set_option maxHeartbeats 1000000
set_option linter.unusedSimpArgs false
def WS_:DataW Unit:= .agg [.lit (.string zg_), .lit (.string Zv_), .lit (.string refD)]
theorem Vx_ {W:World} {base:Nat} {sp:Nat→Bool} {held:Bool} {fuel:Nat} {cs:List Value} {p:List MemPlace}
  (hd:DataW.trod (fun _=>()) Tryz.prog W base sp held fuel 131 cs=some (WS_,p)):cs= [vs zg_,vs Zv_,vs refD]:=by
 obtain⟨xs,m,-,hx,hlen,hxl,hel⟩:=DataW.trod_array Tryz.underlying131 hd
 have hc: (Tryz.prog).cellsOf 131=3:=by kernel_rfl
 have h1: (Tryz.prog).cellsOf 9=1:=by kernel_rfl
 rw[hc] at hlen
 rw[h1] at hel
 have hm:xs.map (·.1)= [.lit (.string zg_), .lit (.string Zv_), .lit (.string refD)]:=by
  have:=congrArg Prod.fst hx
  unfold WS_ at this
  simp only[DataW.agg.injEq] at this
  exact this.symm
 have h0:=hel 0 (by omega)
 have h2:=hel 1 (by omega)
 have h3:=hel 2 (by omega)
 rw[List.getElem?_eq_getElem (by omega)] at h0 h2 h3
 obtain⟨s0,hs0,hy0,-⟩:=DataW.trod_string Tryz.underlying9 h0
 obtain⟨s1,hs1,hy1,-⟩:=DataW.trod_string Tryz.underlying9 h2
 obtain⟨s2,hs2,hy2,-⟩:=DataW.trod_string Tryz.underlying9 h3
 match xs,hxl,hm,hy0,hy1,hy2 with
 | [x0,x1,x2],_,hm,hy0,hy1,hy2=>
  simp only[List.map_cons,List.map_nil,List.cons.injEq,and_true] at hm
  simp only[List.getElem_cons_zero,List.getElem_cons_succ] at hy0 hy1 hy2
  obtain⟨m0,m1,m2⟩:=hm
  rw[hy0] at m0
  rw[hy1] at m1
  rw[hy2] at m2
  simp only[DataW.lit.injEq,Lit.string.injEq] at m0 m1 m2
  match cs,hlen with
  | [c0,c1,c2],_=>
   simp only[Nat.zero_mul,List.drop_zero,List.take_succ_cons,List.take_zero,List.cons.injEq,and_true,Nat.one_mul,List.drop_succ_cons,Nat.reduceMul] at hs0 hs1 hs2
   rw[hs0,hs1,hs2,←m0,←m1,←m2]
   rfl
theorem Qk_ {W:World}: ∀ {laid:List (String×DataW Unit)} {ps:List MemPlace},DataW.LaidVars Tryz.prog W laid ps→("sediment/disk.order",WS_)∈laid→ak8_ W
 | [],_,_,hm=>by cases hm
 | (n',d')::rest,ps,h,hm=>by
  obtain⟨g',t',cs,fuel,p,q,hg',ht',hvar,hd,hr,-⟩:=h
  rcases List.mem_cons.1 hm with hm|hm
  ·cases hm
   have hg: (Tryz.prog).globalNamed "sediment/disk.order" =some 0:=by kernel_rfl
   have hty: ((Tryz.prog).globals[(0:Nat)]?).map (·.type)=some 131:=by kernel_rfl
   obtain rfl:=Option.some.inj (hg.symm.trans hg')
   obtain rfl:=Option.some.inj (hty.symm.trans ht')
   have hcs:=Vx_ hd
   simp only[World.var?,hg,Option.bind_some] at hvar
   split at hvar
   ·rename_i cs' e f hb
    cases hvar
    refine⟨e,f, ?_⟩
    rw[hb]
    congr 2
    apply Array.ext'
    rw[hcs]
   ·cases hvar
  ·exact Qk_ hr hm
end Go.Proofs
end
section
open Go Go.Proofs Go.Sx Go.StP Go.Flo
open Go.ChangeShapes Go.WideShapes Go.ChangeAt Go.RowKit Go.ChangeMaps
namespace Go.Proofs
set_option maxRecDepth 10000
set_option maxHeartbeats 1000000
set_option linter.unusedSimpArgs false
end Go.Proofs
end
section
open Go Go.Proofs Go.Sx Go.StP Go.ChangeShapes
namespace Go.Proofs
set_option maxRecDepth 10000
set_option maxHeartbeats 1000000
set_option linter.unusedSimpArgs false
theorem arj_ {H:Type} {tell:TypeId×Value→H} {W:World} {base:Nat} {sp:Nat→Bool} {held:Bool} {n:Nat} {cs:List Value} {y:DataW H×List MemPlace}
  (h:DataW.trod tell Tryz.prog W base sp held n 84 cs=some y): ∃i:IdL,cs=i.l.map v8:=by
 obtain⟨xs,m,-,-,hlen,hxl,hel⟩:=DataW.trod_array Tryz.underlying84 h
 have hc: (Tryz.prog).cellsOf 84=32:=by kernel_rfl
 have h1: (Tryz.prog).cellsOf 5=1:=by kernel_rfl
 rw[hc] at hlen
 rw[h1] at hel
 have hex: ∀i (hi:i<cs.length),∃x:UInt8,cs[i]=v8 x:=by
  intro i hi
  have h2:=hel i (by omega)
  rw[List.getElem?_eq_getElem (by omega),Nat.mul_one,List.drop_eq_getElem_cons hi,List.take_succ_cons,List.take_zero] at h2
  obtain⟨z,hz,-,hw⟩:=DataW.trod_int Tryz.underlying5 h2
  simp only[List.cons.injEq,and_true] at hz
  rw[hz]
  simp only[Lit.wf,Bool.and_eq_true,decide_eq_true_eq] at hw
  have hw1:0≤z:=by simpa [IntKind.min,IntKind.bits,IntKind.signed] using hw.1
  have hw2:z≤255:=by simpa [IntKind.max,IntKind.bits,IntKind.signed] using hw.2
  refine⟨UInt8.ofNat z.toNat, ?_⟩
  unfold v8
  rw[UInt8.toNat_ofNat',Nat.mod_eq_of_lt (by omega)]
  congr 1;omega
 have hl: ∃l:List UInt8,cs=l.map v8:=by
  clear hel hlen hxl h
  induction cs with
  |nil=>exact⟨[],rfl⟩
  |cons c r ih=>
   obtain⟨x,hx⟩:=hex 0 (by simp)
   obtain⟨l,hl⟩:=ih (fun i hi=>by have:=hex (i+1) (by simpa using hi);simpa using this)
   exact⟨x::l,by rw[hl];simp at hx;simp[hx]⟩
 obtain⟨l,rfl⟩:=hl
 exact⟨⟨l,by simpa using hlen⟩,rfl⟩
theorem aq8_ {H:Type} {tell:TypeId×Value→H} {W:World} {r:Reach} {base b0:Nat} {sp:Nat→Bool} {held:Bool} {fuel:Nat} {v:Value} {x:DataW H×List MemPlace}
  (hval:Value.okWide Tryz.prog W r b0 84 v) (hd:DataW.trod tell Tryz.prog W base sp held fuel 84 v.cells.toList=some x): ∃i:IdL,v= .agg (a8 i.l):=by
 unfold Value.okWide at hval
 rw[Tryz.underlying84] at hval
 obtain⟨cs,rfl,-⟩:=hval
 rw[zd_] at hd
 obtain⟨i,hi⟩:=arj_ hd
 refine⟨i, ?_⟩
 congr 1
 exact Array.toList_inj.1 (by rw[hi];rfl)
theorem aow_ {H:Type} {enc:TypeId×Value→H} {W:World} {r:Reach} {b0 base:Nat} {sp:Nat→Bool} {held:Bool} {v:Value} {d:DataW H} {p:List MemPlace}
  (hval:Value.okWide Tryz.prog W r b0 82 v) (hd:DataW.Trod enc Tryz.prog W base sp held 82 v d p): ∃k t,v=obV k t:=by
 have hc: (Tryz.prog).cellsOf 82=2:=by kernel_rfl
 have hc3: (Tryz.prog).cellsOf 3=1:=by kernel_rfl
 have hcT: (Tryz.prog).cellsOf 9=1:=by kernel_rfl
 obtain⟨fu,hf⟩:=hd
 obtain⟨y0,y1,n',-,hlen,h0,h1⟩:=ChangeShapes.trod_struct2 Tryz.underlying82 hf
 unfold Value.okWide at hval
 rw[Tryz.underlying82] at hval
 obtain⟨cs,rfl,hs,ts,hts,-,hcell⟩:=hval
 obtain⟨cs⟩:=cs
 rw[zd_] at h0 h1 hlen
 simp only at h0 h1 hlen
 rw[hc3,List.drop_zero] at h0
 rw[hcT] at h1
 rw[hc] at hlen
 obtain⟨z,hz,-,-⟩:=DataW.trod_int Tryz.underlying3 h0
 obtain⟨s,hs2,-,-⟩:=DataW.trod_string Tryz.underlying9 h1
 have hd:cs=cs.take 1++ (cs.drop 1).take 1:=by
  rw[show(cs.drop 1).take 1=cs.drop 1 from List.take_of_length_le (by rw[List.length_drop];omega),List.take_append_drop]
 rw[hz,hs2] at hd
 exact⟨z,s.data.toList,by rw[hd];rfl⟩
end Go.Proofs
end
namespace Go.Sx
open Go
theorem amr_ {P:Program} {f:FuncId} {fn:Func} {s:ChangeSpec} {c:OpenClaim}
  (h1: (c.wf (OpenSpec.ofChange s))=true)
  (h2: (laidOutB P)=true)
  (h3: (mapsRowed P)=true)
  (h4: (fn.params.all (P.readableRec ·))=true)
  (h5: (namedTie P c.named s.vars)=true)
  (h6: ((c.stops== []))=true)
  (h7: ((P.stops== []))=true)
  (h8: ((c.knobs== []))=true)
  (h9: ((P.stopKnobs== []))=true)
  (h10: ((c.inPlace==P.inPlace f))=true)
  (h11: ((c.unfollowed==P.unfollowed f))=true)
  (h12: ((c.recurses==P.recurses f))=true)
  (h13: ((c.named==P.varsNamed f))=true)
  (h14: ((c.maps==(fn.params.toList++s.plain.varTypes P).any (P.mapsRec ·)))=true)
  (h15: ((c.ifaces==(fn.params.toList++s.plain.varTypes P).any (P.ifacesRec ·)))=true)
  (h16: ((c.mapsOut==P.mapsAmong fn.resultTypes.toList))=true)
  (h17: ((c.loops==(fn.params.toList++s.plain.varTypes P).any (P.loopsFrom ·)))=true)
  (h18: ((c.wideKeys==(fn.params.toList++s.plain.varTypes P++fn.resultTypes.toList).any (P.wideKeysFrom ·)))=true)
  (h19: (s.vars.all (P.varReadable ·))=true)
  (h20: (fn.resultTypes.all (fun t=>P.readableRec t&&decide (t<P.types.size)))=true)
  (h21: ((c.ifacesOut==fn.resultTypes.toList.any (P.ifacesRec ·)))=true)
  (h22: ((c.loopsOut==fn.resultTypes.toList.any (P.loopsFrom ·)))=true)
  (h23: ((c.plainKeys==P.plainKeys))=true)
  (h24: (c.shortTexts.isNone)=true)
  (h25: (P.stopsHeard)=true)
  (h26: (P.mayEnter)=true)
  (h27: ((c.lifted==P.liftsFinal))=true)
  (h28: ((P.make==some c.make))=true)
  (h29: ((c.kinds==(if c.domain.isEmpty then [] else fn.params.toList.map fun t=>match P.underlying t with|some (.int k)=>some k|_=>none)))=true)
  (h30: ((c.pinned==c.pinnedBy))=true)
  (h31: ((c.veiled==(fn.params.toList++s.plain.varTypes P++fn.resultTypes.toList).any (P.veiledRec ·)))=true)
  (h32: (c.veiledFits P fn.params.toList (fn.params.toList++s.plain.varTypes P++fn.resultTypes.toList))=true):
  joinedFacts P f fn s c=true:=by
 unfold joinedFacts
 exact(Bool.and_eq_true_iff.2 ⟨(Bool.and_eq_true_iff.2 ⟨(Bool.and_eq_true_iff.2 ⟨(Bool.and_eq_true_iff.2 ⟨(Bool.and_eq_true_iff.2 ⟨(Bool.and_eq_true_iff.2 ⟨(Bool.and_eq_true_iff.2 ⟨(Bool.and_eq_true_iff.2 ⟨(Bool.and_eq_true_iff.2 ⟨(Bool.and_eq_true_iff.2 ⟨(Bool.and_eq_true_iff.2 ⟨(Bool.and_eq_true_iff.2 ⟨(Bool.and_eq_true_iff.2 ⟨(Bool.and_eq_true_iff.2 ⟨(Bool.and_eq_true_iff.2 ⟨(Bool.and_eq_true_iff.2 ⟨(Bool.and_eq_true_iff.2 ⟨(Bool.and_eq_true_iff.2 ⟨(Bool.and_eq_true_iff.2 ⟨(Bool.and_eq_true_iff.2 ⟨(Bool.and_eq_true_iff.2 ⟨(Bool.and_eq_true_iff.2 ⟨(Bool.and_eq_true_iff.2 ⟨(Bool.and_eq_true_iff.2 ⟨(Bool.and_eq_true_iff.2 ⟨(Bool.and_eq_true_iff.2 ⟨(Bool.and_eq_true_iff.2 ⟨(Bool.and_eq_true_iff.2 ⟨(Bool.and_eq_true_iff.2 ⟨(Bool.and_eq_true_iff.2 ⟨(Bool.and_eq_true_iff.2 ⟨h1,h2⟩),h3⟩),h4⟩),h5⟩),h6⟩),h7⟩),h8⟩),h9⟩),h10⟩),h11⟩),h12⟩),h13⟩),h14⟩),h15⟩),h16⟩),h17⟩),h18⟩),h19⟩),h20⟩),h21⟩),h22⟩),h23⟩),h24⟩),h25⟩),h26⟩),h27⟩),h28⟩),h29⟩),h30⟩),h31⟩),h32⟩)
end Go.Sx
