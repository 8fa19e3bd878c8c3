/-
  Part 4 of the walk: contracts of the functions that the law reaches, and the calculus they stand on.
  No conditions.
-/
import Derived.Test.YtdffddfgldlijaaGreatDoorL3
set_option maxRecDepth 10000
set_option maxHeartbeats 4000000
set_option linter.unusedSimpArgs false
set_option linter.defProp false
open Go.Proofs.Tryz
section
open Go Go.Proofs Go.Sx Go.StP
namespace Go.Proofs
def NR {l:NmL} {s:List UInt8} (h: ∀p,p∈l→p.1≠s):aM l s=none:=by
 cases hf:aM l s with
 |none=>rfl
 |some n=>exact absurd rfl (h _ (iG hf))
def Ji_ (l:NmL) (s:List UInt8):aM (cA l s) s=none:=NR fun _ hp=>(mem_wipe.1 hp).2
def Xk_ {l:NmL} (h:SrtN l) (x:List UInt8×Nat):aM (f5 l x) x.1=some x.2:=zW (AV x h).nodup (mem_put.2 (.inl rfl))
def sY {S:DiskL} (hc:kK S) {dir:List UInt8} {k:Nat} (hk:bO dir=some k) (names:List (List UInt8)):co S dir names=if names.all bX=false then 1 else 0:=by
 unfold co
 rw[hk,hc.1]
 cases names.all bX<;>simp
def AN {S:DiskL} {k:Nat} {x d:List UInt8} (h:cv S k x=some d): ∃n,aM (S.dir k).seen x=some n∧(aE S n).data=d:=by
 unfold cv at h
 cases hf:aM (S.dir k).seen x with
 |none=>rw[hf] at h;cases h
 |some n=>rw[hf] at h;exact⟨n,rfl,Option.some.inj h⟩
def LV {S:DiskL} {k:Nat} {x:List UInt8} (h:cv S k x=none):aM (S.dir k).seen x=none:=by
 unfold cv at h
 cases hf:aM (S.dir k).seen x with
 |none=>rfl
 |some n=>rw[hf] at h;cases h
def mz {S:DiskL} {dir:List UInt8} {k:Nat} (hk:bO dir=some k) (x:List UInt8):atD S dir x=aM (S.dir k).seen x:=by
 unfold atD
 rw[hk];rfl
def By {S:DiskL} (hc:kK S) {dir:List UInt8} {k:Nat} (hk:bO dir=some k) {x:List UInt8} (hf:bX x=true):d8 S dir x=match cv S k x with|none=>([],6) |some d=>(d,0):=by
 have h0:co S dir [x]=0:=by rw[sY hc hk,if_neg (by simp[hf])]
 unfold d8
 rw[if_neg (by rw[h0];simp)]
 have h1: ((bO dir).bind fun k=>aM (S.dir k).seen x)=aM (S.dir k).seen x:=by rw[hk];rfl
 rw[h1]
 unfold cv
 cases aM (S.dir k).seen x<;>rfl
section
variable {S:DiskL} {dir x:List UInt8} {k:Nat}
def Pi (hg:GoodS S) (hc:kK S) (hk:bO dir=some k) (hf:bX x=true) (hv:cv S k x=none): (kE S dir x).2=0∧cv (kE S dir x).1 k x=some []:=by
 have h0:co S dir [x]=0:=by rw[sY hc hk,if_neg (by simp[hf])]
 have aj:=(dT hk).1
 unfold kE
 rw[if_neg (by rw[h0];simp),mz hk,LV hv]
 simp only
 rw[sj hc,if_neg (by simp),hk]
 refine⟨rfl, ?_⟩
 show(aM ((gd (eH S cg) k ⟨0,x,[],S.files.length⟩).dir k).seen x).map _=_
 rw[r_,if_pos rfl]
 show(aM (f5 (S.dir k).seen (x,S.files.length)) x).map _=_
 rw[Xk_ (hg.srt k aj) (x,S.files.length)]
 show some (aE (eH S cg) S.files.length).data=_
 rw[DK];rfl
def VJ_ (hc:kK S) (hk:bO dir=some k) (hf:bX x=true) {d:List UInt8} (hv:cv S k x=some d): (fo S dir x).2=0∧cv (fo S dir x).1 k x=none:=by
 have h0:co S dir [x]=0:=by rw[sY hc hk,if_neg (by simp[hf])]
 obtain⟨n,hn,-⟩:=AN hv
 unfold fo
 rw[if_neg (by rw[h0];simp),mz hk,hn]
 simp only
 rw[sj hc,if_neg (by simp),hk]
 refine⟨rfl, ?_⟩
 show(aM ((gd S k ⟨2,x,[],0⟩).dir k).seen x).map _=_
 rw[r_,if_pos rfl]
 show(aM (cA (S.dir k).seen x) x).map _=_
 rw[Ji_];rfl
def P0 (hg:GoodS S) (hc:kK S) (hk:bO dir=some k) (hf:bX x=true) {d:List UInt8} (hv:cv S k x=some d) (s:List UInt8): ((iC S dir x s).2=8∧(iC S dir x s).1=S)∨((iC S dir x s).2=0∧cv (iC S dir x s).1 k x=some (d++s)):=by
 have h0:co S dir [x]=0:=by rw[sY hc hk,if_neg (by simp[hf])]
 obtain⟨n,hn,hd⟩:=AN hv
 have cT:=hg.lt k (dT hk).1 _ (iG hn)
 unfold iC
 rw[if_neg (by rw[h0];simp),mz hk,hn]
 simp only
 by_cases eV:jF S n s=true
 ·rw[if_pos eV];exact .inl ⟨rfl,rfl⟩
 rw[if_neg eV,sj hc,if_neg (by simp)]
 refine .inr ⟨rfl, ?_⟩
 show(aM (S.dir k).seen x).map (fun m=>(aE (eG S n _) m).data)=_
 rw[hn]
 show some (aE (eG S n _) n).data=_
 rw[va _ _ cT,if_pos rfl,←hd]
def Sg (hg:GoodS S) (hc:kK S) (hk:bO dir=some k) (hf:bX x=true) {d:List UInt8} (hv:cv S k x=some d): (cu S dir x).2=0∧cv (cu S dir x).1 k x=some d:=by
 have h0:co S dir [x]=0:=by rw[sY hc hk,if_neg (by simp[hf])]
 obtain⟨n,hn,hd⟩:=AN hv
 have cT:=hg.lt k (dT hk).1 _ (iG hn)
 unfold cu
 rw[if_neg (by rw[h0];simp),mz hk,hn]
 simp only
 rw[sj hc,if_neg (by simp)]
 refine⟨rfl, ?_⟩
 show(aM (S.dir k).seen x).map (fun m=>(aE (eG S n _) m).data)=_
 rw[hn]
 show some (aE (eG S n _) n).data=_
 rw[va _ _ cT,if_pos rfl,←hd]
def Nw (hc:kK S) (hk:bO dir=some k): (eZ S dir).2=0∧ ∀j y,cv (eZ S dir).1 j y=cv S j y:=by
 have h0:co S dir []=0:=by rw[sY hc hk,if_neg (by simp)]
 unfold eZ
 rw[if_neg (by rw[h0];simp),sj hc,if_neg (by simp),hk]
 refine⟨rfl,fun j y=> ?_⟩
 unfold cv
 show(aM ((mh S k).dir j).seen y).map _=_
 rw[AA];rfl
def Or0 (hg:GoodS S) (hc:kK S) (hk:bO dir=some k) (hf:bX x=true) {y:List UInt8} (hy:bX y=true) (aX:x≠y) {d:List UInt8} (hv:cv S k x=some d): (jg S dir x y).2=0∧cv (jg S dir x y).1 k y=some d∧cv (jg S dir x y).1 k x=none:=by
 have h0:co S dir [x,y]=0:=by rw[sY hc hk,if_neg (by simp[hf,hy])]
 obtain⟨n,hn,hd⟩:=AN hv
 have aj:=(dT hk).1
 unfold jg
 rw[if_neg (by rw[h0];simp),mz hk,hn]
 simp only
 rw[if_neg aX,sj hc,if_neg (by simp),hk]
 have hs: ((gd S k ⟨1,x,y,0⟩).dir k).seen=f5 (cA (S.dir k).seen x) (y,n):=by
  rw[r_,if_pos rfl]
  show f5 (cA (S.dir k).seen x) (y,(aM (S.dir k).seen x).getD 0)=_
  rw[hn];rfl
 refine⟨rfl, ?_, ?_⟩
 ·show(aM ((gd S k ⟨1,x,y,0⟩).dir k).seen y).map _=_
  rw[hs,Xk_ (JA _ (hg.srt k aj)) (y,n)]
  exact congrArg some hd
 show(aM ((gd S k ⟨1,x,y,0⟩).dir k).seen x).map _=_
 rw[hs,we (x:=(y,n)) (Ne.symm aX),Ji_];rfl
end
def wJ {f:Nat} {t t':TkL} {S:DiskL} {r:PhR} (hr:phT t.next t S=r) (he:r.e=0) (hn:iI (nxT r)=false) (ht:iS r=t'):phG (f+1) t S=phG f t' r.S:=by
 conv=>lhs;unfold phG
 rw[hr,if_neg (by rw[he];simp),if_neg (by rw[hn];simp),ht]
def DM {f:Nat} {t:TkL} {S:DiskL} {r:PhR} (hr:phT t.next t S=r) (he:r.e≠0):phG (f+1) t S=((jL r).e,(jL r).S):=by
 unfold phG
 rw[hr,if_pos he]
def Fe {f:Nat} {t:TkL} {S:DiskL} {r:PhR} (hr:phT t.next t S=r) (he:r.e=0) (hn:iI (nxT r)=true):phG (f+1) t S=(0,r.S):=by
 unfold phG
 rw[hr,if_neg (by rw[he];simp),if_pos hn]
def tkN (dir nm data:List UInt8) (light:Bool) (n:Nat) (made:Bool):TkL:=⟨dir,nm,data,light,n,made,false⟩
section
variable {S0 S:DiskL} {k:Nat} {nm dir data:List UInt8} {m:Nat}
end
structure NdR where
 s:List UInt8
 n:Int
def ndC (r:NdR):List Value:= [vs r.s]++ ([vi r.n])
def nd0:NdR:=⟨[],0⟩
def fM (r:NdR): (ndC r).length=2:=by simp[ndC]
def sc (r:NdR):Value.cells (.agg (ndC r).toArray)=(ndC r).toArray:=aS _
def vr (r:NdR): (ndC r).all Value.oneCell'=true:=by
 unfold ndC
 simp only[List.all_append,List.all_cons,List.all_nil,qW,Bool.and_true,Bool.true_and]
 rfl
def zrNd:an prog 95=some (.agg (ndC nd0).toArray):=id kR
def pc:aR prog 95=some (true,2):=id kR
def Fu (r:NdR):ndC r=([]:List Value)++ (([vs r.s])++ ([vi r.n])):=by
 unfold ndC;simp only[List.append_assoc,List.nil_append,List.append_nil]
def Er (r:NdR) (n:Nat) (E:TypeId) (fz:Nat×Nat):aG (some (false,n)) (some (.cells (ndC r).toArray E fz)) 0=some (vs r.s):=by
 rw[Fu];exact iR _ _ _ n E fz (by simp)
def tE {w:World} {v:Value} {l:List NdR} {b off:Nat} {arr:Array Value} {E:TypeId} {fz:Nat×Nat} (h:RowS 2 ndC nd0 w v l b off arr E fz) {k:Nat} (hk:k<l.length) (n:Nat):aG (some (false,n)) (some (.cells arr E fz)) (off+k*2+0)=some (vs (l.getD k nd0).s):=by
 rw[RowS.cell h hk oM];generalize l.getD k nd0=r;rw[Fu];exact vb _ _ _ (by simp)
def F' (r:NdR):ndC r=(([vs r.s]))++ (([vi r.n])++ (([]:List Value))):=by
 unfold ndC;simp only[List.append_assoc,List.nil_append,List.append_nil]
def Ez (r:NdR) (n:Nat) (E:TypeId) (fz:Nat×Nat):aG (some (false,n)) (some (.cells (ndC r).toArray E fz)) 1=some (vi r.n):=by
 rw[F'];exact iR _ _ _ n E fz (by simp)
def Fb {w:World} {v:Value} {l:List NdR} {b off:Nat} {arr:Array Value} {E:TypeId} {fz:Nat×Nat} (h:RowS 2 ndC nd0 w v l b off arr E fz) {k:Nat} (hk:k<l.length) (n:Nat):aG (some (false,n)) (some (.cells arr E fz)) (off+k*2+1)=some (vi (l.getD k nd0).n):=by
 rw[RowS.cell h hk oM];generalize l.getD k nd0=r;rw[F'];exact vb _ _ _ (by simp)
def Fi (r:NdR) (E:TypeId) (fz:Nat×Nat):aG (some (true,2)) (some (.cells (ndC r).toArray E fz)) 0=some (.agg (ndC r).toArray):=rx _ E fz 2 (by rw[List.size_toArray,fM])
def Vr (old:Array Value) (r:NdR) (a:Bool) (E:TypeId) (h:old.size=2):ad (some (a,2)) (some (.cells old E (0,0))) 0 (.agg (ndC r).toArray)=some (.cells (ndC r).toArray E (0,0)):=vq _ a old E (fM r) (vr r) h
def Tz (r r':NdR) (a:Bool) (E:TypeId):ad (some (a,2)) (some (.cells (ndC r').toArray E (0,0))) 0 (.agg (ndC r).toArray)=some (.cells (ndC r).toArray E (0,0)):=Vr _ r a E (by rw[List.size_toArray,fM])
def xX {w:World} {v:Value} {l:List NdR} {b off:Nat} {arr:Array Value} {E:TypeId} {fz:Nat×Nat} (h:RowS 2 ndC nd0 w v l b off arr E fz) {k:Nat} (hk:k<l.length):aG (some (true,2)) (some (.cells arr E fz)) (off+k*2)=some (.agg (ndC (l.getD k nd0)).toArray):=RowS.load h fM oM hk
structure KcR where
 kind:Int
 a:List UInt8
 b:List UInt8
 n:Int
def kcC (r:KcR):List Value:= [vi r.kind]++ ([vs r.a]++ ([vs r.b]++ ([vi r.n])))
def kc0:KcR:=⟨0,[],[],0⟩
def sy (r:KcR): (kcC r).length=4:=by simp[kcC]
def wU (r:KcR):Value.cells (.agg (kcC r).toArray)=(kcC r).toArray:=aS _
def FD (r:KcR): (kcC r).all Value.oneCell'=true:=by
 unfold kcC
 simp only[List.all_append,List.all_cons,List.all_nil,qW,Bool.and_true,Bool.true_and]
 rfl
def zrKc:an prog 130=some (.agg (kcC kc0).toArray):=id kR
def GR:aR prog 130=some (true,4):=id kR
def xV (r:KcR):kcC r=([]:List Value)++ (([vi r.kind])++ ([vs r.a]++ ([vs r.b]++ ([vi r.n])))):=by
 unfold kcC;simp only[List.append_assoc,List.nil_append,List.append_nil]
def EZ (r:KcR) (n:Nat) (E:TypeId) (fz:Nat×Nat):aG (some (false,n)) (some (.cells (kcC r).toArray E fz)) 0=some (vi r.kind):=by
 rw[xV];exact iR _ _ _ n E fz (by simp)
def RZ (r:KcR) (x:Int) (a:Bool) (E:TypeId):ad (some (a,1)) (some (.cells (kcC r).toArray E (0,0))) 0 (vi x)=some (.cells (kcC {r with kind:=x}).toArray E (0,0)):=by
 rw[xV r,xV {r with kind:=x}];exact dR _ _ _ _ a _ E (by simp) rfl (rfl) rfl (rfl)
def xQ (r:KcR):kcC r=(([vi r.kind]))++ (([vs r.a])++ ([vs r.b]++ ([vi r.n]))):=by
 unfold kcC;simp only[List.append_assoc,List.nil_append,List.append_nil]
def E5 (r:KcR) (n:Nat) (E:TypeId) (fz:Nat×Nat):aG (some (false,n)) (some (.cells (kcC r).toArray E fz)) 1=some (vs r.a):=by
 rw[xQ];exact iR _ _ _ n E fz (by simp)
def TF (r:KcR) (x:List UInt8) (a:Bool) (E:TypeId):ad (some (a,1)) (some (.cells (kcC r).toArray E (0,0))) 1 (vs x)=some (.cells (kcC {r with a:=x}).toArray E (0,0)):=by
 rw[xQ r,xQ {r with a:=x}];exact dR _ _ _ _ a _ E (by simp) rfl (rfl) rfl (rfl)
def xJ (r:KcR):kcC r=(([vi r.kind])++ ([vs r.a]))++ (([vs r.b])++ ([vi r.n])):=by
 unfold kcC;simp only[List.append_assoc,List.nil_append,List.append_nil]
def Dm (r:KcR) (n:Nat) (E:TypeId) (fz:Nat×Nat):aG (some (false,n)) (some (.cells (kcC r).toArray E fz)) 2=some (vs r.b):=by
 rw[xJ];exact iR _ _ _ n E fz (by simp)
def Tp (r:KcR) (x:List UInt8) (a:Bool) (E:TypeId):ad (some (a,1)) (some (.cells (kcC r).toArray E (0,0))) 2 (vs x)=some (.cells (kcC {r with b:=x}).toArray E (0,0)):=by
 rw[xJ r,xJ {r with b:=x}];exact dR _ _ _ _ a _ E (by simp) rfl (rfl) rfl (rfl)
def xT (r:KcR):kcC r=(([vi r.kind])++ ([vs r.a])++ ([vs r.b]))++ (([vi r.n])++ (([]:List Value))):=by
 unfold kcC;simp only[List.append_assoc,List.nil_append,List.append_nil]
def ES (r:KcR) (n:Nat) (E:TypeId) (fz:Nat×Nat):aG (some (false,n)) (some (.cells (kcC r).toArray E fz)) 3=some (vi r.n):=by
 rw[xT];exact iR _ _ _ n E fz (by simp)
def Tc (r:KcR) (x:Int) (a:Bool) (E:TypeId):ad (some (a,1)) (some (.cells (kcC r).toArray E (0,0))) 3 (vi x)=some (.cells (kcC {r with n:=x}).toArray E (0,0)):=by
 rw[xT r,xT {r with n:=x}];exact dR _ _ _ _ a _ E (by simp) rfl (rfl) rfl (rfl)
def Fa (r:KcR) (E:TypeId) (fz:Nat×Nat):aG (some (true,4)) (some (.cells (kcC r).toArray E fz)) 0=some (.agg (kcC r).toArray):=rx _ E fz 4 (by rw[List.size_toArray,sy])
def V_ (old:Array Value) (r:KcR) (a:Bool) (E:TypeId) (h:old.size=4):ad (some (a,4)) (some (.cells old E (0,0))) 0 (.agg (kcC r).toArray)=some (.cells (kcC r).toArray E (0,0)):=vq _ a old E (sy r) (FD r) h
def TK (r r':KcR) (a:Bool) (E:TypeId):ad (some (a,4)) (some (.cells (kcC r').toArray E (0,0))) 0 (.agg (kcC r).toArray)=some (.cells (kcC r).toArray E (0,0)):=V_ _ r a E (by rw[List.size_toArray,sy])
structure FdR where
 data:List UInt8
 stl:Int
def fdC (r:FdR):List Value:= [vs r.data]++ ([vi r.stl])
def fd0:FdR:=⟨[],0⟩
def kw (r:FdR): (fdC r).length=2:=by simp[fdC]
def IX (r:FdR):Value.cells (.agg (fdC r).toArray)=(fdC r).toArray:=aS _
def FO (r:FdR): (fdC r).all Value.oneCell'=true:=by
 unfold fdC
 simp only[List.all_append,List.all_cons,List.all_nil,qW,Bool.and_true,Bool.true_and]
 rfl
def zrFd:an prog 92=some (.agg (fdC fd0).toArray):=id kR
def tc:aR prog 92=some (true,2):=id kR
def Z1 (r:FdR):fdC r=([]:List Value)++ (([vs r.data])++ ([vi r.stl])):=by
 unfold fdC;simp only[List.append_assoc,List.nil_append,List.append_nil]
def xF {w:World} {v:Value} {l:List FdR} {b off:Nat} {arr:Array Value} {E:TypeId} {fz:Nat×Nat} (h:RowS 2 fdC fd0 w v l b off arr E fz) {k:Nat} (hk:k<l.length) (n:Nat):aG (some (false,n)) (some (.cells arr E fz)) (off+k*2+0)=some (vs (l.getD k fd0).data):=by
 rw[RowS.cell h hk oM];generalize l.getD k fd0=r;rw[Z1];exact vb _ _ _ (by simp)
def W7 (r:FdR):dl (cC prog 92) (an prog 92) [(0,vs r.data),(1,vi r.stl)]=some (.agg (fdC r).toArray):=by
 have hp:cC prog 92=some [(0,1),(1,1)]:=id kR
 rw[hp,zrFd]
 have e0: (fdC fd0).toArray=(([]:List Value)++ (([vs fd0.data])++ ([vi fd0.stl]))).toArray:=by congr 1<;>simp only[fdC,List.append_assoc,List.nil_append,List.append_nil]
 have q0:eb (([]:List Value)++ (([vs fd0.data])++ ([vi fd0.stl]))).toArray 0 ([vs r.data])=(([]:List Value)++ (([vs r.data])++ ([vi fd0.stl]))).toArray:=Ad _ _ _ _ (by simp) (rfl)
 have s0: (([]:List Value)++ (([vs fd0.data])++ ([vi fd0.stl]))).toArray.size=2:=by simp
 have z0: (Value.cells (vs r.data)).toList= [vs r.data]:=by rfl
 have y0: (Value.cells (vs r.data)).size=1:=by rw[←Array.length_toList,z0];simp
 have e1: (([]:List Value)++ (([vs r.data])++ ([vi fd0.stl]))).toArray=((([vs r.data]))++ (([vi fd0.stl])++ (([]:List Value)))).toArray:=by congr 1<;>simp only[fdC,List.append_assoc,List.nil_append,List.append_nil]
 have q1:eb ((([vs r.data]))++ (([vi fd0.stl])++ (([]:List Value)))).toArray 1 ([vi r.stl])=((([vs r.data]))++ (([vi r.stl])++ (([]:List Value)))).toArray:=Ad _ _ _ _ (by simp) (rfl)
 have s1: ((([vs r.data]))++ (([vi fd0.stl])++ (([]:List Value)))).toArray.size=2:=by simp
 have z1: (Value.cells (vi r.stl)).toList= [vi r.stl]:=by rfl
 have y1: (Value.cells (vi r.stl)).size=1:=by rw[←Array.length_toList,z1];simp
 have e2: ((([vs r.data]))++ (([vi r.stl])++ (([]:List Value)))).toArray=(fdC r).toArray:=by congr 1<;>simp only[fdC,List.append_assoc,List.nil_append,List.append_nil]
 simp only[dl]
 rw[e0]
 unfold Sx.fillV
 simp only[List.getElem?_cons_zero,List.getElem?_cons_succ,z0,y0]
 rw[if_pos ⟨trivial,by rw[s0];decide⟩,q0]
 rw[e1]
 unfold Sx.fillV
 simp only[List.getElem?_cons_zero,List.getElem?_cons_succ,z1,y1]
 rw[if_pos ⟨trivial,by rw[s1];decide⟩,q1]
 rw[e2];rfl
def aa (p:List UInt8×Nat):NdR:=⟨p.1,(p.2:Int)⟩
def kcOf (c:CallL):KcR:=⟨(c.kind:Int),c.a,c.b,(c.n:Int)⟩
def ck (f:FileL):FdR:=⟨f.data,(f.stl:Int)⟩
def w4 (l:NmL) (k:Nat): (l.map aa).getD k nd0=aa (l.getD k ([],0)):=by
 rw[List.getD_eq_getElem?_getD,List.getD_eq_getElem?_getD,List.getElem?_map]
 cases l[k]? <;>rfl
def Yj (l:List CallL) (k:Nat): (l.map kcOf).getD k kc0=kcOf (l.getD k ⟨0,[],[],0⟩):=by
 rw[List.getD_eq_getElem?_getD,List.getD_eq_getElem?_getD,List.getElem?_map]
 cases l[k]? <;>rfl
def sq (l:List FileL) (k:Nat): (l.map ck).getD k fd0=ck (l.getD k cg):=by
 rw[List.getD_eq_getElem?_getD,List.getD_eq_getElem?_getD,List.getElem?_map]
 cases l[k]? <;>rfl
abbrev NdSl (w:World) (v:Value) (l:NmL):Prop:=SlV 2 ndC nd0 w v (l.map aa)
def NdG (D:aB) (v:Value) (l:NmL):Prop:=GrI D 95 2 v (l.map aa).length ((l.map aa).map ndC).flatten
def l7 (s:List UInt8):Int:=match bO s with|some k=>(k:Int) |none=> -1
def m8:Obj:= .cells #[vs aD,vs lN,vs refD] 9 (0,0)
def VL {s:List UInt8} (h: ∀j,j<3→cB j≠s):bO s=none:=by
 cases hw:bO s with
 |none=>rfl
 |some k=>exact absurd (dT hw).2.symm (h k (dT hw).1)
def Ec (b:Nat) {k:Nat} (hk:k<3) (a:Bool):i_ (.sl (a,1)) (vsl b 0 3 3) (some (k:Int))=some (vp b k):=by
 rw[pS _ _ _ _ _ _ oM];simp
def Ch {k:Nat} (hk:k<3) (n:Nat):aG (some (false,n)) (some m8) k=some (vs (cB k)):=by
 have:k=0∨k=1∨k=2:=by omega
 rcases this with rfl|rfl|rfl<;>rfl
def iP:=aN @av @au
def Cj (w:World):Rets prog 64 #[] w (XS w [] (fun v D=> ∃b,v=vsl b 0 3 3∧D= [(b,m8)])):=by
 refine Rets.enterX func64 rfl (rs:= [.tmp 0]) results64 ntmps64 (fun p hp=>by cases hp) (by simp[keys]) ?_
 refine kf ?_
 refine ky @iP ?_
 refine Ow.buildSlice (e:=9) #[vs aD,vs lN,vs refD] rfl rfl kR fun b1 aW aI=> ?_
 refine ko @iP ?_
 refine ky @iP ?_
 refine⟨_,(ke @iP), ?_⟩
 exact⟨Ext.of_new ⟨aI,trivial⟩,b1,rfl,rfl⟩
def Ik (s:List UInt8) (w:World):Rets prog 37 #[vs s] w (fun v D=>v=vi (l7 s)∧D= []):=by
 refine Rets.enterV func37 rfl (rs:= [.tmp 2]) results37 ntmps37 ?_
 refine kf ?_
 refine ky @iP ?_
 refine Ow.callC rfl rfl call64 (fun w' aA=>Cj w') (fun B1 v1 D1 dN di cR dr=> ?_)
 obtain⟨b1,rfl,rfl⟩:=dr
 have cL:=cR.mono di
 rw[List.nil_append]
 refine ko @iP ?_
 refine ky @iP ?_
 refine Cw.loopG (G:=Nat) [6,7,10,11,12,13,14,15,16,2,8,9,4] (fun g=> [(4,vi g)]) (fun g=> [(b1,m8)]) (fun g=>g≤3∧ ∀j,j<g→cB j≠s) (fun g=>3 - g) 0 rfl rfl ?_ ?_
 ·exact⟨aV _,fun j hj=>absurd hj (Nat.not_lt_zero j)⟩
 intro i ji hi
 refine kv ?_
 obtain⟨hi1,sO⟩:=hi
 by_cases aC:i<3
 ·have d1:decide ((i:Int)<3)=true:=aK oM
  have ix:=Ec b1 aC true
  have ld:=fun n=>Ch aC n
  by_cases he:cB i=s
  ·have e1: (cB i==s)=true:=beq_iff_eq.2 he
   refine ky (aN @iP (aN @d1 (aN @ix (aN @ld @e1)))) ?_
   refine⟨_,(ke @iP),cL, ?_⟩
   (unfold l7;rw[←he,qK aC];rfl)
  have e1: (cB i==s)=false:=beq_eq_false_iff_ne.2 he
  refine ky (aN @iP (aN @d1 (aN @ix (aN @ld @e1)))) ?_
  exact Again.mk (i+1) oM ⟨aC,fun j hj=>by
   by_cases h:j=i
   ·rw[h];exact he
   exact sO j oM⟩ rfl rfl
 obtain rfl:i=3:=by omega
 have d1:decide (((3:Nat):Int)<3)=false:=rfl
 refine ky (aN @iP @d1) ?_
 refine⟨_,(ke @iP),cL, ?_⟩
 (unfold l7;rw[VL sO];rfl)
def JJ (s:List UInt8) (w:World) (hs:s.length<1099511627776):Rets prog 38 #[vs s] w (fun v D=>v= .bool (bX s)∧D= []):=by
 refine Rets.enterV func38 rfl (rs:= [.tmp 2]) results38 ntmps38 ?_
 refine kf ?_
 refine ky @iP ?_
 refine Cw.loopG (G:=Nat) [4,5,6,7,10,11,12,13,14,15,16,17,18,19,20,21,22,23,24,25,2,8,9,3] (fun g=> [(3,vi g)]) (fun g=> []) (fun g=>g≤s.length∧(s.take g).any fN=false) (fun g=>s.length - g) 0 rfl rfl ?_ ?_
 ·exact⟨aV _,rfl⟩
 intro i ji hi
 refine kv ?_
 obtain⟨hi1,sO⟩:=hi
 by_cases aC:i<s.length
 ·have d1:decide ((i:Int)< (s.length:Int))=true:=aK oM
  have cF: (s.take (i+1)).any fN=fN (s.getD i 0):=by
   rw[StP.take_snoc (z:=0) aC,List.any_append,sO];simp
  have yc:fN (s.getD i 0)=true→bX s=false:=fun h=>by
   unfold bX
   rw[show s.any fN=true from List.any_eq_true.2 ⟨_,n_ (z:=0) aC,h⟩];simp
  rw[Fh] at cF yc
  cases h1:decide (s.getD i 0<33) with
  |true=>
   refine ky (aN @iP (aN @d1 @h1)) ?_
   refine⟨_,(ke @iP),trivial, ?_⟩
   (rw[yc (by rw[h1];rfl)];rfl)
  |false=>
   cases h2:decide (126<s.getD i 0) with
   |true=>
    refine ky (aN @iP (aN @d1 (aN @h1 @h2))) ?_
    refine⟨_,(ke @iP),trivial, ?_⟩
    (rw[yc (by rw[h1,h2];rfl)];rfl)
   |false=>
    cases h3: (s.getD i 0==47) with
    |true=>
     refine ky (aN @iP (aN @d1 (aN @h1 (aN @h2 @h3)))) ?_
     refine⟨_,(ke @iP),trivial, ?_⟩
     (rw[yc (by rw[h1,h2,h3];rfl)];rfl)
    |false=>
     rw[h1,h2,h3] at cF
     refine ky (aN @iP (aN @d1 (aN @h1 (aN @h2 @h3)))) ?_
     exact Again.mk (i+1) oM ⟨aC,cF⟩ rfl rfl
 obtain rfl:i=s.length:=by omega
 have d1:decide ((s.length:Int)< (s.length:Int))=false:=aO oM
 rw[List.take_length] at sO
 have hf:bX s=(!(s== [])&&decide (s.length≤80)):=by unfold bX;rw[sO];simp
 cases h1:decide ((1:Int)≤ (s.length:Int)) with
 |true=>
  have t_:=of_decide_eq_true h1
  have g1: (s== [])=false:=beq_eq_false_iff_ne.2 (by rintro rfl;simp at t_)
  have g2:decide ((s.length:Int)≤80)=decide (s.length≤80):=by congr 1;rw[eq_iff_iff];omega
  refine ky (aN @iP (aN @d1 (aN @h1 @g2))) ?_
  refine⟨_,(ke @iP),trivial, ?_⟩
  (rw[hf,g1];rfl)
 |false=>
  have t_:=of_decide_eq_false h1
  have g1:s= []:=List.eq_nil_of_length_eq_zero oM
  refine ky (aN @iP (aN @d1 @h1)) ?_
  refine⟨_,(ke @iP),trivial, ?_⟩
  (rw[hf,g1];rfl)
def lP (l:NmL) (s:List UInt8):Int:=match aM l s with|some n=>(n:Int) |none=> -1
def S6 {l:NmL} {k:Nat} (h:k<l.length) (s:List UInt8):aM (l.drop k) s=if(l.getD k ([],0)).1=s then some (l.getD k ([],0)).2 else aM (l.drop (k+1)) s:=by
 rw[List.drop_eq_getElem_cons h,List.getD_eq_getElem?_getD,List.getElem?_eq_getElem h]
 show(List.find? _ _).map Prod.snd=_
 rw[List.find?_cons]
 by_cases e: (l[k]).1=s
 ·rw[show(s==(l[k]).1)=true from beq_iff_eq.2 e.symm]
  simp[e]
 rw[show(s==(l[k]).1)=false from beq_eq_false_iff_ne.2 (Ne.symm e)]
 simp only[Option.getD_some,e, ↓reduceIte]
 rfl
def o9:=aN (aN @av @au) (aN @Fi @sc)
def Kt (v:Value) (l:NmL) (s:List UInt8) (w:World) (hv:NdSl w v l) (hl:l.length<1000000000):Rets prog 93 #[v,vs s] w (fun r D=>r=vi (lP l s)∧D= []):=by
 have ln:=hv.len
 rw[List.length_map] at ln
 obtain⟨rb,off,arr,E,fz,hr⟩:=hv.row
 refine Rets.enterV func93 rfl (rs:= [.tmp 4]) results93 ntmps93 ?_
 refine kf ?_
 refine ky @o9 ?_
 refine Cw.loopG (G:=Nat) [6,7,8,9,12,13,14,15,16,17,18,19,20,21,22,23,4,10,11,5] (fun g=> [(5,vi g)]) (fun g=> []) (fun g=>g≤l.length∧aM (l.drop g) s=aM l s) (fun g=>l.length - g) 0 rfl rfl ?_ ?_
 ·exact⟨aV _,rfl⟩
 intro k jk hk
 refine kv ?_
 obtain⟨cS,cZ⟩:=hk
 by_cases aC:k<l.length
 ·have d1:decide ((k:Int)< (l.length:Int))=true:=aK oM
  have eE:k< (l.map aa).length:=by rw[List.length_map];exact aC
  have ix:=hr.idx true k eE
  have hh:=hr.has oM
  have l0: ∀n,aG (some (false,n)) (some (.cells arr E fz)) (off+k*2)=some (vs ((l.map aa).getD k nd0).s):=fun n=>by have:=tE hr eE n;rwa [Nat.add_zero] at this
  have l1: ∀n,aG (some (false,n)) (some (.cells arr E fz)) (off+k*2+1)=some (vi ((l.map aa).getD k nd0).n):=fun n=>Fb hr eE n
  rw[w4] at l0 l1
  rw[S6 aC] at cZ
  generalize l.getD k ([],0)=q at*
  obtain⟨qs,qn⟩:=q
  simp only[aa] at l0 l1 cZ
  by_cases he:qs=s
  ·have e1: (qs==s)=true:=beq_iff_eq.2 he
   rw[if_pos he] at cZ
   refine ky (aN @o9 (aN @ln (aN @d1 (aN @ix (aN @hh (aN @l0 (aN @l1 @e1))))))) ?_
   refine⟨_,(ke @o9),trivial, ?_⟩
   (unfold lP;rw[←cZ];rfl)
  have e1: (qs==s)=false:=beq_eq_false_iff_ne.2 he
  rw[if_neg he] at cZ
  refine ky (aN @o9 (aN @ln (aN @d1 (aN @ix (aN @hh (aN @l0 (aN @l1 @e1))))))) ?_
  exact Again.mk (k+1) oM ⟨aC,cZ⟩ rfl rfl
 obtain rfl:k=l.length:=by omega
 have d1:decide ((l.length:Int)< (l.length:Int))=false:=aO oM
 rw[List.drop_length] at cZ
 refine ky (aN @o9 (aN @ln @d1)) ?_
 refine⟨_,(ke @o9),trivial, ?_⟩
 (unfold lP;rw[←cZ];rfl)
structure WoG where
 k:Nat
 o:NmL
 v:Value
 D:aB
 DG:aB
def AZ {l:NmL} {k:Nat} (h:k<l.length) (s:List UInt8):cA (l.drop k) s=(if(l.getD k ([],0)).1=s then [] else [l.getD k ([],0)])++cA (l.drop (k+1)) s:=by
 rw[List.drop_eq_getElem_cons h,List.getD_eq_getElem?_getD,List.getElem?_eq_getElem h]
 unfold cA
 rw[List.filter_cons]
 by_cases e: (l[k]).1=s
 ·rw[show(s==(l[k]).1)=true from beq_iff_eq.2 e.symm]
  simp[e]
 rw[show(s==(l[k]).1)=false from beq_eq_false_iff_ne.2 (Ne.symm e)]
 simp[e]
def KN_ (v:Value) (l:NmL) (s:List UInt8) (w:World) (hv:NdSl w v l) (hl:l.length<1000000000):Rets prog 106 #[v,vs s] w (XS w [] (fun r D=>NdG D r (cA l s))):=by
 have ln:=hv.len
 rw[List.length_map] at ln
 obtain⟨rb,off,arr,E,fz,hr⟩:=hv.row
 refine Rets.enterX func106 rfl (rs:= [.tmp 4]) results106 ntmps106 (fun p hp=>by cases hp) (by simp[keys]) ?_
 refine kf ?_
 refine ky @o9 ?_
 refine Cw.permL (M:= []++ []) (List.Perm.refl _) ?_
 refine Cw.loopG (G:=WoG) [7,8,9,10,13,14,15,16,17,18,19,20,21,22,23,24,25,26,5,11,12,6] (fun g=> [(5,g.v),(6,vi g.k)]) (fun g=>g.D++g.DG) (fun g=>g.k≤l.length∧g.o.length≤g.k∧New w.heap.size g.D∧New w.heap.size g.DG∧g.o++cA (l.drop g.k) s=cA l s∧Gr g.D 95 2 g.v (g.o.map aa).length ((g.o.map aa).map ndC).flatten) (fun g=>l.length - g.k) ⟨0,[], .slice none 0 0,[],[]⟩ rfl rfl ?_ ?_
 ·exact⟨aV _,aV _,trivial,trivial,rfl,Gr.nl⟩
 intro g j hg
 refine kv ?_
 obtain⟨k,o,v3,D,DG⟩:=g
 simp only at hg ⊢
 obtain⟨hk,ja,hN,bG,hR,cI⟩:=hg
 have dK:New w.heap.size (D++DG):=hN.app bG
 have holm: (o.map aa).length≤k:=by rw[List.length_map];exact ja
 by_cases aC:k<l.length
 ·have d1:decide ((k:Int)< (l.length:Int))=true:=aK oM
  have eE:k< (l.map aa).length:=by rw[List.length_map];exact aC
  have ix:=hr.idx true k eE
  have rda:aU w (D++DG) rb=some (.cells arr E fz):=by rw[jn (dK.not (hr.lt oM))];exact hr.has oM
  have l0: ∀n,aG (some (false,n)) (some (.cells arr E fz)) (off+k*2)=some (vs ((l.map aa).getD k nd0).s):=fun n=>by have:=tE hr eE n;rwa [Nat.add_zero] at this
  have lda:=xX hr eE
  rw[w4] at l0 lda
  rw[AZ aC] at hR
  generalize l.getD k ([],0)=q at*
  by_cases he:q.1=s
  ·have e1: ((aa q).s !=s)=false:=by show(q.1 !=s)=false;rw[he];exact bne_self_eq_false _
   rw[if_pos he,List.nil_append] at hR
   refine ky (aN @o9 (aN @ln (aN @d1 (aN @ix (aN @rda (aN @l0 (aN @lda @e1))))))) ?_
   exact Again.mk ⟨k+1,o,v3,D,DG⟩ (by show l.length - (k+1)<l.length - k;omega) ⟨aC,by show o.length≤k+1;omega,hN,bG,hR,cI⟩ rfl rfl
  have e1: ((aa q).s !=s)=true:=bne_iff_ne.2 he
  rw[if_neg he,←List.append_assoc] at hR
  refine ky (aN @o9 (aN @ln (aN @d1 (aN @ix (aN @rda (aN @l0 (aN @lda @e1))))))) ?_
  refine Ow.buildSlice (e:=95) (ndC (aa q)).toArray rfl rfl (gX underlying84 pc zrNd (by decide) (fM _)) fun bc qA jd=> ?_
  refine ko @o9 ?_
  refine Ow.permL (M:=D++ (DG++ [(bc, .cells (ndC (aa q)).toArray 95 (0,0))])) pM ?_
  refine Ow.appendXG (e:=95) (k:=1) (new:=ndC (aa q)) (X:=D) v3 rfl rfl rfl rfl underlying84 pc kR zrNd (by rw[sc,List.size_toArray,fM]) underlying84 (by intro k h;cases h) cI (fun w' aA=>AppX.one1 (aA.has bc (.cells (ndC (aa q)).toArray 95 (0,0)) (by simp)) (fM _) (vr _)) oM (fun B5 v5 D5 lX jS j2 jZ dU fZ=> ?_)
  have dq:New w.heap.size D5:=New.of_le fun q hq=>by
   rcases dU q hq with h|h
   ·exact hN.le q h
   omega
  refine ko @o9 ?_
  refine ky @o9 ?_
  exact Again.mk ⟨k+1,o++ [q],v5,D5,DG++ [(bc, .cells (ndC (aa q)).toArray 95 (0,0))]⟩ (by show l.length - (k+1)<l.length - k;omega) ⟨aC,by rw[List.length_append];simp;omega,dq,bG.app ⟨jd,trivial⟩,hR,by simpa using j2⟩ rfl rfl
 obtain rfl:k=l.length:=by omega
 have d1:decide ((l.length:Int)< (l.length:Int))=false:=aO oM
 rw[List.drop_length,show cA [] s= [] from rfl,List.append_nil] at hR
 refine ky (aN @o9 (aN @ln @d1)) ?_
 refine⟨_,(ke @o9), ?_⟩
 rw[←hR]
 exact⟨Ext.of_new dK,cI.i fun q hq=>cz _ hq⟩
def jN (d:Bool) (r:NmL) (x:List UInt8×Nat):NmL:=if d=true then cA r x.1 else insN (cA r x.1) x
def Ww {l:NmL} {k:Nat} (h:k<l.length) (d:Bool) (x:List UInt8×Nat) (he: (l.getD k ([],0)).1=x.1):jN d (l.drop k) x=jN d (l.drop (k+1)) x:=by
 unfold jN
 rw[AZ h,if_pos he];rfl
def Yy {l:NmL} {k:Nat} (h:k<l.length) (x:List UInt8×Nat) (he: (l.getD k ([],0)).1≠x.1):jN true (l.drop k) x=l.getD k ([],0)::jN true (l.drop (k+1)) x:=by
 unfold jN
 rw[AZ h,if_neg he];rfl
def Yv {l:NmL} {k:Nat} (h:k<l.length) (x:List UInt8×Nat) (he: (l.getD k ([],0)).1≠x.1) (hl:ltB x.1 (l.getD k ([],0)).1=true):jN false (l.drop k) x=x::l.getD k ([],0)::jN true (l.drop (k+1)) x:=by
 unfold jN
 rw[AZ h,if_neg he]
 have e:insN (l.getD k ([],0)::cA (l.drop (k+1)) x.1) x=if ltB x.1 (l.getD k ([],0)).1=true then x::l.getD k ([],0)::cA (l.drop (k+1)) x.1 else l.getD k ([],0)::insN (cA (l.drop (k+1)) x.1) x:=rfl
 show insN (l.getD k ([],0)::cA (l.drop (k+1)) x.1) x=_
 rw[e,if_pos hl];rfl
def Yp {l:NmL} {k:Nat} (h:k<l.length) (x:List UInt8×Nat) (he: (l.getD k ([],0)).1≠x.1) (hl:ltB x.1 (l.getD k ([],0)).1=false):jN false (l.drop k) x=l.getD k ([],0)::jN false (l.drop (k+1)) x:=by
 unfold jN
 rw[AZ h,if_neg he]
 have e:insN (l.getD k ([],0)::cA (l.drop (k+1)) x.1) x=if ltB x.1 (l.getD k ([],0)).1=true then x::l.getD k ([],0)::cA (l.drop (k+1)) x.1 else l.getD k ([],0)::insN (cA (l.drop (k+1)) x.1) x:=rfl
 show insN (l.getD k ([],0)::cA (l.drop (k+1)) x.1) x=_
 rw[e,if_neg (by rw[hl];simp)];rfl
structure PuG where
 k:Nat
 d:Bool
 o:NmL
 v:Value
 D:aB
 DG:aB
def ez:=aN (aN @av (aN @au @Fi)) (aN @Er (aN @Ez @sc))
def LT0 (v:Value) (l:NmL) (x:List UInt8×Nat) (w:World) (hv:NdSl w v l) (hl:l.length<1000000000):Rets prog 39 #[v, .agg (ndC (aa x)).toArray] w (XS w [] (fun r D=>NdG D r (f5 l x))):=by
 have ln:=hv.len
 rw[List.length_map] at ln
 obtain⟨rb,off,arr,E,fz,hr⟩:=hv.row
 refine Rets.enterX func39 rfl (rs:= [.tmp 4]) results39 ntmps39 (fun p hp=>by cases hp) (by simp[keys]) ?_
 refine kf ?_
 refine ky @ez ?_
 refine Ow.box rfl rfl fun b3 da dV=> ?_
 simp only[dC,cy,dA,aS,List.nil_append,List.cons_append]
 refine ko @ez ?_
 refine ky @ez ?_
 refine Cw.permL (M:=(b3, .cells (ndC (aa x)).toArray 95 (0,0)):: ([]++ [])) (List.Perm.refl _) ?_
 refine Cw.loopG (G:=PuG) [8,9,10,11,14,15,16,17,18,19,20,21,22,23,24,25,26,27,28,29,30,31,32,33,34,35,36,37,5,6,38,39,40,41,42,43,44,12,13,7] (fun g=> [(5,g.v),(6, .bool g.d),(7,vi g.k)]) (fun g=>(b3, .cells (ndC (aa x)).toArray 95 (0,0)):: (g.D++g.DG)) (fun g=>g.k≤l.length∧((g.d=false→g.o.length≤g.k)∧g.o.length≤g.k+1)∧New w.heap.size g.D∧New w.heap.size g.DG∧g.o++jN g.d (l.drop g.k) x=f5 l x∧Gr g.D 95 2 g.v (g.o.map aa).length ((g.o.map aa).map ndC).flatten) (fun g=>l.length - g.k) ⟨0,false,[], .slice none 0 0,[],[]⟩ rfl rfl ?_ ?_
 ·exact⟨aV _,⟨fun _=>aV _,aV _⟩,trivial,trivial,rfl,Gr.nl⟩
 intro g j hg
 refine kv ?_
 obtain⟨k,d,o,v3,D,DG⟩:=g
 simp only at hg ⊢
 obtain⟨hk,⟨sS,ja⟩,hN,bG,hR,cI⟩:=hg
 have dK:New w.heap.size ((b3,Obj.cells (ndC (aa x)).toArray 95 (0,0)):: (D++DG)):=⟨dV,hN.app bG⟩
 have holm: (o.map aa).length≤k+1:=by rw[List.length_map];exact ja
 by_cases aC:k<l.length
 ·have d1:decide ((k:Int)< (l.length:Int))=true:=aK oM
  have eE:k< (l.map aa).length:=by rw[List.length_map];exact aC
  have ix:=hr.idx true k eE
  have rda: ∀Y,New w.heap.size Y→aU w Y rb=some (.cells arr E fz):=fun Y hY=>by rw[jn (hY.not (hr.lt oM))];exact hr.has oM
  have rd1:=rda _ dK
  have l0: ∀n,aG (some (false,n)) (some (.cells arr E fz)) (off+k*2)=some (vs ((l.map aa).getD k nd0).s):=fun n=>by have:=tE hr eE n;rwa [Nat.add_zero] at this
  have lda:=xX hr eE
  rw[w4] at l0 lda
  have i1:=Ww aC (x:=x)
  have i2:=Yy aC (x:=x)
  have i3:=Yv aC (x:=x)
  have i4:=Yp aC (x:=x)
  generalize l.getD k ([],0)=q at*
  refine kz [5] (aN @ez (aN @ln @d1)) ?_
  refine Cw.regionS [rb,b3] [0,1,2,3,5,4,6,7] [] kR kR kR ?_
  simp only[ai, ↓ah, ↓ab, ↓ag, ↓ae,ac]
  refine kq (aN @ez (aN @ix (aN @rd1 @l0))) ?_
  by_cases he:q.1=x.1
  ·have e1: ((aa q).s==(aa x).s)=true:=beq_iff_eq.2 he
   rw[i1 d he] at hR
   refine ky (aN @ez @e1) ?_
   refine ky @ez ?_
   exact Again.mk ⟨k+1,d,o,v3,D,DG⟩ (by show l.length - (k+1)<l.length - k;omega) ⟨aC,⟨(fun h=>by have:=sS h;show o.length≤k+1;omega),by show o.length≤k+1+1;omega⟩,hN,bG,hR,cI⟩ rfl rfl
  have e1: ((aa q).s==(aa x).s)=false:=beq_eq_false_iff_ne.2 he
  cases d with
  |true=>
   rw[i2 he] at hR
   rw[show o++q::jN true (l.drop (k+1)) x=(o++ [q])++jN true (l.drop (k+1)) x by simp] at hR
   refine kz [5] (aN @ez @e1) ?_
   refine Cw.regionS [rb,b3] [0,1,2,3,4,5,6,8,7,9,10,11] [] kR kR kR ?_
   simp only[ai, ↓ah, ↓ab, ↓ag, ↓ae,ac]
   refine kq @ez ?_
   refine kz [5] (aN @ez (aN @ix (aN @rd1 @lda))) ?_
   refine Ow.buildSlice (e:=95) (ndC (aa q)).toArray rfl rfl (gX underlying84 pc zrNd (by decide) (fM _)) fun bc qA jd=> ?_
   refine ko @ez ?_
   refine Ow.permL (M:=D++ ((b3, .cells (ndC (aa x)).toArray 95 (0,0)):: (DG++ [(bc, .cells (ndC (aa q)).toArray 95 (0,0))]))) pM ?_
   refine Ow.appendXG (e:=95) (k:=1) (new:=ndC (aa q)) (X:=D) v3 rfl rfl rfl rfl underlying84 pc kR zrNd (by rw[sc,List.size_toArray,fM]) underlying84 (by intro k h;cases h) cI (fun w' aA=>AppX.one1 (aA.has bc (.cells (ndC (aa q)).toArray 95 (0,0)) (by simp)) (fM _) (vr _)) oM (fun B5 v5 D5 lX jS j2 jZ dU fZ=> ?_)
   have dq:New w.heap.size D5:=New.of_le fun q hq=>by
    rcases dU q hq with h|h
    ·exact hN.le q h
    omega
   refine ko @ez ?_
   refine Cw.permL (M:=(b3, .cells (ndC (aa x)).toArray 95 (0,0)):: (D5++ (DG++ [(bc, .cells (ndC (aa q)).toArray 95 (0,0))]))) pM ?_
   refine ky @ez ?_
   exact Again.mk ⟨k+1,true,o++ [q],v5,D5,DG++ [(bc, .cells (ndC (aa q)).toArray 95 (0,0))]⟩ (by show l.length - (k+1)<l.length - k;omega) ⟨aC,⟨(fun h=>by have:=sS h;rw[List.length_append];simp;omega),by rw[List.length_append];simp;omega⟩,dq,bG.app ⟨jd,trivial⟩,hR,by simpa using j2⟩ rfl rfl
  |false=>
   cases Jw:ltB x.1 q.1 with
   |true=>
    have e2:Op.bytesLess (aa q).s (aa x).s=false:=DE Jw
    rw[i3 he Jw] at hR
    rw[show o++x::q::jN true (l.drop (k+1)) x=((o++ [x])++ [q])++jN true (l.drop (k+1)) x by simp] at hR
    refine kz [5] (aN @ez @e1) ?_
    refine Cw.regionS [rb,b3] [0,1,2,3,4,5,6,8,7,9,10,11] [] kR kR kR ?_
    simp only[ai, ↓ah, ↓ab, ↓ag, ↓ae,ac]
    refine kq (aN @ez (aN @ix (aN @rd1 (aN @l0 (aN @e2 @e1))))) ?_
    refine kz [5] @ez ?_
    refine Ow.buildSlice (e:=95) (ndC (aa x)).toArray rfl rfl (gX underlying84 pc zrNd (by decide) (fM _)) fun bc qA jd=> ?_
    refine ko @ez ?_
    refine Ow.permL (M:=D++ ((b3, .cells (ndC (aa x)).toArray 95 (0,0)):: (DG++ [(bc, .cells (ndC (aa x)).toArray 95 (0,0))]))) pM ?_
    refine Ow.appendXG (e:=95) (k:=1) (new:=ndC (aa x)) (X:=D) v3 rfl rfl rfl rfl underlying84 pc kR zrNd (by rw[sc,List.size_toArray,fM]) underlying84 (by intro k h;cases h) cI (fun w' aA=>AppX.one1 (aA.has bc (.cells (ndC (aa x)).toArray 95 (0,0)) (by simp)) (fM _) (vr _)) oM (fun B5 v5 D5 lX jS j2 jZ dU fZ=> ?_)
    have dq:New w.heap.size D5:=New.of_le fun q hq=>by
     rcases dU q hq with h|h
     ·exact hN.le q h
     omega
    have Gl:New w.heap.size (DG++ [(bc,Obj.cells (ndC (aa x)).toArray 95 (0,0))]):=bG.app ⟨jd,trivial⟩
    generalize DG++ [(bc,Obj.cells (ndC (aa x)).toArray 95 (0,0))]=DG2 at*
    have lZ:Gr D5 95 2 v5 ((o++ [x]).map aa).length (((o++ [x]).map aa).map ndC).flatten:=by simpa using j2
    have Gs:New w.heap.size ((b3,Obj.cells (ndC (aa x)).toArray 95 (0,0)):: (D5++DG2)):=⟨dV,dq.app Gl⟩
    have rd2:=rda _ Gs
    refine Ow.permL (M:=(b3, .cells (ndC (aa x)).toArray 95 (0,0)):: (D5++DG2)) pM ?_
    refine ko (aN @ez (aN @ix (aN @rd2 @lda))) ?_
    have yg: ((o++ [x]).map aa).length≤k+2:=by rw[List.length_map,List.length_append];simp;omega
    refine Ow.buildSlice (e:=95) (ndC (aa q)).toArray rfl rfl (gX underlying84 pc zrNd (by decide) (fM _)) fun bd bP vV=> ?_
    refine ko @ez ?_
    refine Ow.permL (M:=D5++ ((b3, .cells (ndC (aa x)).toArray 95 (0,0)):: (DG2++ [(bd, .cells (ndC (aa q)).toArray 95 (0,0))]))) pM ?_
    refine Ow.appendXG (e:=95) (k:=1) (new:=ndC (aa q)) (X:=D5) v5 rfl rfl rfl rfl underlying84 pc kR zrNd (by rw[sc,List.size_toArray,fM]) underlying84 (by intro k h;cases h) lZ (fun w' aA=>AppX.one1 (aA.has bd (.cells (ndC (aa q)).toArray 95 (0,0)) (by simp)) (fM _) (vr _)) oM (fun B6 v6 D6 qz ni p_ hk61 hk62 yX=> ?_)
    have fD:New w.heap.size D6:=New.of_le fun q hq=>by
     rcases hk62 q hq with h|h
     ·exact dq.le q h
     omega
    refine ko @ez ?_
    refine Cw.permL (M:=(b3, .cells (ndC (aa x)).toArray 95 (0,0)):: (D6++ (DG2++ [(bd, .cells (ndC (aa q)).toArray 95 (0,0))]))) pM ?_
    refine ky @ez ?_
    exact Again.mk ⟨k+1,true,(o++ [x])++ [q],v6,D6,DG2++ [(bd, .cells (ndC (aa q)).toArray 95 (0,0))]⟩ (by show l.length - (k+1)<l.length - k;omega) ⟨aC,⟨(fun h=>by cases h),by have:=sS rfl;rw[List.length_append,List.length_append];simp;omega⟩,fD,Gl.app ⟨vV,trivial⟩,hR,by simpa using p_⟩ rfl rfl
   |false=>
    have e2:Op.bytesLess (aa q).s (aa x).s=true:=JI Jw (Ne.symm he)
    rw[i4 he Jw] at hR
    rw[show o++q::jN false (l.drop (k+1)) x=(o++ [q])++jN false (l.drop (k+1)) x by simp] at hR
    refine kz [5] (aN @ez @e1) ?_
    refine Cw.regionS [rb,b3] [0,1,2,3,4,5,6,8,7,9,10,11] [] kR kR kR ?_
    simp only[ai, ↓ah, ↓ab, ↓ag, ↓ae,ac]
    refine kq (aN @ez (aN @ix (aN @rd1 (aN @l0 (aN @e2 @e1))))) ?_
    refine kz [5] (aN @ez (aN @ix (aN @rd1 @lda))) ?_
    refine Ow.buildSlice (e:=95) (ndC (aa q)).toArray rfl rfl (gX underlying84 pc zrNd (by decide) (fM _)) fun bc qA jd=> ?_
    refine ko @ez ?_
    refine Ow.permL (M:=D++ ((b3, .cells (ndC (aa x)).toArray 95 (0,0)):: (DG++ [(bc, .cells (ndC (aa q)).toArray 95 (0,0))]))) pM ?_
    refine Ow.appendXG (e:=95) (k:=1) (new:=ndC (aa q)) (X:=D) v3 rfl rfl rfl rfl underlying84 pc kR zrNd (by rw[sc,List.size_toArray,fM]) underlying84 (by intro k h;cases h) cI (fun w' aA=>AppX.one1 (aA.has bc (.cells (ndC (aa q)).toArray 95 (0,0)) (by simp)) (fM _) (vr _)) oM (fun B5 v5 D5 lX jS j2 jZ dU fZ=> ?_)
    have dq:New w.heap.size D5:=New.of_le fun q hq=>by
     rcases dU q hq with h|h
     ·exact hN.le q h
     omega
    refine ko @ez ?_
    refine Cw.permL (M:=(b3, .cells (ndC (aa x)).toArray 95 (0,0)):: (D5++ (DG++ [(bc, .cells (ndC (aa q)).toArray 95 (0,0))]))) pM ?_
    refine ky @ez ?_
    exact Again.mk ⟨k+1,false,o++ [q],v5,D5,DG++ [(bc, .cells (ndC (aa q)).toArray 95 (0,0))]⟩ (by show l.length - (k+1)<l.length - k;omega) ⟨aC,⟨(fun h=>by have:=sS h;rw[List.length_append];simp;omega),by rw[List.length_append];simp;omega⟩,dq,bG.app ⟨jd,trivial⟩,hR,by simpa using j2⟩ rfl rfl
 obtain rfl:k=l.length:=by omega
 have d1:decide ((l.length:Int)< (l.length:Int))=false:=aO oM
 rw[List.drop_length] at hR
 cases d with
 |true=>
  rw[show jN true [] x= [] from rfl,List.append_nil] at hR
  refine ky (aN @ez (aN @ln @d1)) ?_
  refine⟨_,(ke @ez), ?_⟩
  rw[←hR]
  exact⟨Ext.of_new dK,cI.i fun q hq=>cN _ (cz _ hq)⟩
 |false=>
  rw[show jN false [] x= [x] from rfl] at hR
  refine ky (aN @ez (aN @ln @d1)) ?_
  refine Ow.buildSlice (e:=95) (ndC (aa x)).toArray rfl rfl (gX underlying84 pc zrNd (by decide) (fM _)) fun bc qA jd=> ?_
  refine ko @ez ?_
  refine Ow.permL (M:=D++ ((b3, .cells (ndC (aa x)).toArray 95 (0,0)):: (DG++ [(bc, .cells (ndC (aa x)).toArray 95 (0,0))]))) pM ?_
  refine Ow.appendXG (e:=95) (k:=1) (new:=ndC (aa x)) (X:=D) v3 rfl rfl rfl rfl underlying84 pc kR zrNd (by rw[sc,List.size_toArray,fM]) underlying84 (by intro k h;cases h) cI (fun w' aA=>AppX.one1 (aA.has bc (.cells (ndC (aa x)).toArray 95 (0,0)) (by simp)) (fM _) (vr _)) oM (fun B5 v5 D5 lX jS j2 jZ dU fZ=> ?_)
  have dq:New w.heap.size D5:=New.of_le fun q hq=>by
   rcases dU q hq with h|h
   ·exact hN.le q h
   omega
  refine ko @ez ?_
  refine ky @ez ?_
  refine⟨_,(ke @ez), ?_⟩
  rw[←hR]
  have lZ:Gr D5 95 2 v5 ((o++ [x]).map aa).length (((o++ [x]).map aa).map ndC).flatten:=by simpa using j2
  exact⟨Ext.of_new (dq.app (show New w.heap.size ((b3,_):: (DG++ [(bc,_)])) from⟨dV,bG.app ⟨jd,trivial⟩⟩)),lZ.i fun q hq=>cz _ hq⟩
def me:=aN (aN (aN @av @au) (aN @Fa @EZ)) (aN (aN @E5 @Dm) (aN @ES @wU))
def Ln (x:List UInt8×Nat):dl (cC prog 95) (an prog 95) [(0,vs x.1),(1,vi (x.2:Int))]=some (.agg (ndC (aa x)).toArray):=by
 rw[show cC prog 95=some [(0,1),(1,1)] from id kR,zr95];rfl
def Bh (v:Value) (l:NmL) (c:CallL) (w:World) (hv:NdSl w v l) (hl:l.length<999999999) (bU:c.kind=1→aM l c.a≠none):Rets prog 63 #[v, .agg (kcC (kcOf c)).toArray] w (XS w [] (fun r D=>NdG D r (ci l c))):=by
 have kh: (kcOf c).kind=(c.kind:Int):=rfl
 have zx: (kcOf c).a=c.a:=rfl
 have hkb: (kcOf c).b=c.b:=rfl
 have hkn: (kcOf c).n=(c.n:Int):=rfl
 refine Rets.enterX func63 rfl (rs:= [.tmp 4]) results63 ntmps63 (fun p hp=>by cases hp) (by simp[keys]) ?_
 refine kf ?_
 refine ky @me ?_
 refine Ow.box rfl rfl fun b3 da dV=> ?_
 simp only[dC,cy,dA,aS,List.nil_append,List.cons_append]
 have fC:New w.heap.size [(b3,Obj.cells (kcC (kcOf c)).toArray 130 (0,0))]:=⟨dV,trivial⟩
 refine ko @me ?_
 by_cases k0:c.kind=0
 ·have e0: (((c.kind:Nat):Int)==0)=true:=by rw[k0];rfl
  have hd:ci l c=f5 l (c.a,c.n):=by unfold ci;rw[k0];rfl
  refine ky (aN @me (aN @kh (aN @e0 (aN @zx @hkn)))) ?_
  refine Ow.build (.agg (ndC (aa (c.a,c.n))).toArray) rfl (Ln (c.a,c.n)) ?_
  refine ko @me ?_
  refine Ow.callC rfl rfl call39 (fun w' aA=>LT0 v l (c.a,c.n) w' (hv.oldN aA fC) oM) (fun B1 v1 D1 dN di cR dr=> ?_)
  refine ko @me ?_
  refine⟨_,(ke @me), ?_⟩
  rw[hd]
  exact⟨Ext.of_new (show New w.heap.size ((b3,_)::D1) from⟨dV,cR.mono di⟩),dr.mono fun q hq=>cN _ hq⟩
 have e0: (((c.kind:Nat):Int)==0)=false:=beq_eq_false_iff_ne.2 oM
 by_cases k1:c.kind=1
 ·have e1: (((c.kind:Nat):Int)==1)=true:=by rw[k1];rfl
  obtain⟨n,hn⟩: ∃n,aM l c.a=some n:=by
   cases h:aM l c.a with
   |none=>exact absurd h (bU k1)
   |some n=>exact⟨n,rfl⟩
  have hd:ci l c=f5 (cA l c.a) (c.b,n):=by unfold ci;rw[k1,hn];rfl
  have p5:lP l c.a=(n:Int):=by unfold lP;rw[hn]
  have hwl:=JM l c.a
  refine kz [6] (aN @me (aN @kh (aN @e0 (aN @e1 @zx)))) ?_
  refine Ow.callFV rfl call93 (fun w' aA=>Kt v l c.a w' (hv.oldN aA fC) oM) ?_
  rw[p5]
  refine ko @me ?_
  refine Cw.regionS [b3] [0,1,4,6,2,5,7,3,8,9] [] kR kR kR ?_
  simp only[ai, ↓ah, ↓ab, ↓ag, ↓ae,ac]
  refine kq (aN @me (aN @zx @hkb)) ?_
  refine Ow.build (.agg (ndC (aa (c.b,n))).toArray) rfl (Ln (c.b,n)) ?_
  refine kq @me ?_
  refine Ow.soft rfl rfl rfl ?_
  refine Ow.callC rfl rfl call106 (fun w' aA=>KN_ v l c.a w' (hv.oldN aA fC) oM) (fun B1 v1 D1 dN di cR dr=> ?_)
  have cL:New w.heap.size ([(b3,Obj.cells (kcC (kcOf c)).toArray 130 (0,0))]++D1):=fC.app (cR.mono di)
  with_reducible refine Ow.nil ?_
  refine⟨vn (by simp[keys]), ?_⟩
  refine kq @me ?_
  refine Ow.soft rfl rfl rfl ?_
  refine Ow.callC rfl rfl call39 (fun w' aA=>LT0 v1 (cA l c.a) (c.b,n) w' ((dr.mono (fun q hq=>by simp[hq])).slV (z:=nd0) aA rfl rfl fM) oM) (fun B2 v2 D2 ay dE be bM=> ?_)
  with_reducible refine Ow.nil ?_
  refine⟨vn (by simp[keys]), ?_⟩
  refine kq @me ?_
  refine⟨_,(ke @me), ?_⟩
  rw[hd]
  exact⟨Ext.of_new (cL.app (be.mono dE)),bM.mono fun q hq=>by simp[hq]⟩
 have e1: (((c.kind:Nat):Int)==1)=false:=beq_eq_false_iff_ne.2 oM
 have hd:ci l c=cA l c.a:=by
  unfold ci
  split
  ·omega
  ·omega
  rfl
 refine ky (aN @me (aN @kh (aN @e0 (aN @e1 @zx)))) ?_
 refine Ow.callC rfl rfl call106 (fun w' aA=>KN_ v l c.a w' (hv.oldN aA fC) oM) (fun B1 v1 D1 dN di cR dr=> ?_)
 refine ko @me ?_
 refine⟨_,(ke @me), ?_⟩
 rw[hd]
 exact⟨Ext.of_new (show New w.heap.size ((b3,_)::D1) from⟨dV,cR.mono di⟩),dr.mono fun q hq=>cN _ hq⟩
structure DcG where
 bd:Nat
 s:Nat→Value
 t:Nat→Value
 p:Nat→Value
 f:Value
def iQ (S:DiskL):Int:=if S.fused=true then S.fuse else -1
def dcO (G:DcG) (S:DiskL):Obj:= .cells #[G.s 0,G.t 0,G.p 0,G.s 1,G.t 1,G.p 1,G.s 2,G.t 2,G.p 2,G.f,vi S.max,vi (iQ S), .bool S.off] 90 (0,0)
def jC (c:CallL):CallL:=if c.kind=0 then⟨0,c.a,[],c.n⟩ else if c.kind=1 then⟨1,c.a,c.b,0⟩ else⟨2,c.a,[],0⟩
def LR (l:NmL) (c:CallL):ci l (jC c)=ci l c:=by
 obtain⟨k,a,b,n⟩:=c
 unfold jC
 match k with
 |0=>rfl
 |1=>rfl
 |k+2=>
  rw[if_neg (by simp),if_neg (by simp)];rfl
def NdP (X:aB) (v:Value) (l:NmL):Prop:=Gr X 95 2 v (l.map aa).length ((l.map aa).map ndC).flatten
def KcP (X:aB) (v:Value) (l:List CallL):Prop:=Gr X 130 4 v (l.map kcOf).length ((l.map kcOf).map kcC).flatten
def FdP (X:aB) (v:Value) (l:List FileL):Prop:=Gr X 92 2 v (l.map ck).length ((l.map ck).map fdC).flatten
structure DcP (X:aB) (G:DcG) (S:DiskL):Prop where
 disk:Sx.look X G.bd=some (dcO G S)
 seen: ∀k,k<3→NdP X (G.s k) (S.dir k).seen
 stl: ∀k,k<3→NdP X (G.t k) (S.dir k).stl
 pend: ∀k,k<3→ ∃pl:List CallL,pl.map jC=(S.dir k).pend.map jC∧KcP X (G.p k) pl
 files:FdP X G.f S.files
 pdis: ∀i j,i<3→j<3→i≠j→ ∀b,slB (G.p i)=some b→slB (G.p j)≠some b
def DcW (w:World) (G:DcG) (S:DiskL):Prop:= ∃X,(∀b o,Sx.look X b=some o→w.heap[b]? =some o)∧DcP X G S
def Gr.keepTy {X L:aB} {E:TypeId} {m n:Nat} {v:Value} {cs:List Value} (h:Gr X E m v n cs) {c:Nat} {oc:Obj} (hc:Sx.look X c=some oc) (ht:tyO oc≠some E) (keep: ∀b o,b≠c→Sx.look X b=some o→Sx.look L b=some o):Gr L E m v n cs:=h.keep fun b o hb ho=>keep b o (by
 rintro rfl
 obtain⟨arr,ha⟩:=jD h hb
 rw[hc] at ha;cases ha;exact ht rfl) ho
def DcP.mono {X X':aB} {G:DcG} {S:DiskL} (h:DcP X G S) (hk: ∀b o,Sx.look X b=some o→Sx.look X' b=some o):DcP X' G S where
 disk:=hk _ _ h.disk
 seen k aj:=(h.seen k aj).keep fun b o _ ho=>hk b o ho
 stl k aj:=(h.stl k aj).keep fun b o _ ho=>hk b o ho
 pend k aj:=by
  obtain⟨pl,h1,h2⟩:=h.pend k aj
  exact⟨pl,h1,h2.keep fun b o _ ho=>hk b o ho⟩
 files:=h.files.keep fun b o _ ho=>hk b o ho
 pdis:=h.pdis
def DcP.world {X:aB} {G:DcG} {S:DiskL} {w0 w:World} (h:DcP X G S) (hw:Hp w0 X w):DcW w G S:=⟨X,fun _ _ hb=>hw.has _ _ (cQ hb),h⟩
def DcP.worldX {X:aB} {G:DcG} {S:DiskL} {w:World} (h:DcP X G S) (hX: ∀p,p∈X→w.heap[p.1]? =some p.2):DcW w G S:=⟨X,fun _ _ hb=>hX _ (cQ hb),h⟩
theorem DcW.old {w w':World} {L:aB} {G:DcG} {S:DiskL} (h:DcW w G S) (hw:Hp w L w') (hn:New w.heap.size L):DcW w' G S:=by
 obtain⟨X,hX,hP⟩:=h
 refine⟨X,fun b o hb=> ?_,hP⟩
 have aC:=(Array.getElem?_eq_some_iff.1 (hX b o hb)).1
 exact(hw.old b aC (hn.not aC)).trans (hX b o hb)
def gC (G:DcG) (S:DiskL):tyO (dcO G S)=some 90:=rfl
def po: (some 90:Option TypeId)≠some 95:=by decide
def oP: (some 90:Option TypeId)≠some 130:=by decide
def qX: (some 90:Option TypeId)≠some 92:=by decide
def DcP.upd {X L:aB} {G G':DcG} {S S':DiskL} (h:DcP X G S) (hb:G'.bd=G.bd) (keep: ∀b o,b≠G.bd→Sx.look X b=some o→Sx.look L b=some o) (hd:Sx.look L G.bd=some (dcO G' S'))
  (hs: ∀k,k<3→(G'.s k=G.s k∧(S'.dir k).seen=(S.dir k).seen)∨NdP L (G'.s k) (S'.dir k).seen)
  (ht: ∀k,k<3→(G'.t k=G.t k∧(S'.dir k).stl=(S.dir k).stl)∨NdP L (G'.t k) (S'.dir k).stl)
  (hp: ∀k,k<3→(G'.p k=G.p k∧(S'.dir k).pend=(S.dir k).pend)∨(G'.p k= .slice none 0 0∧(S'.dir k).pend= []))
  (hf:G'.f=G.f∧S'.files=S.files):DcP L G' S' where
 disk:=by rw[hb];exact hd
 seen k hk:=by
  rcases hs k hk with⟨h1,h2⟩ |h1
  ·rw[h1,h2];exact Gr.keepTy (h.seen k hk) h.disk (by rw[gC];exact po) keep
  exact h1
 stl k hk:=by
  rcases ht k hk with⟨h1,h2⟩ |h1
  ·rw[h1,h2];exact Gr.keepTy (h.stl k hk) h.disk (by rw[gC];exact po) keep
  exact h1
 pend k hk:=by
  rcases hp k hk with⟨h1,h2⟩ | ⟨h1,h2⟩
  ·obtain⟨pl,h3,h4⟩:=h.pend k hk
   exact⟨pl,by rw[h2];exact h3,by rw[h1];exact Gr.keepTy h4 h.disk (by rw[gC];exact oP) keep⟩
  exact⟨[],by rw[h2],by rw[h1];exact Gr.nl⟩
 files:=by rw[hf.1,hf.2];exact Gr.keepTy h.files h.disk (by rw[gC];exact qX) keep
 pdis i j hi hj mI b:=by
  rcases hp i hi with⟨h1,-⟩ | ⟨h1,-⟩
  ·rcases hp j hj with⟨h2,-⟩ | ⟨h2,-⟩
   ·rw[h1,h2];exact h.pdis i j hi hj mI b
   rw[h2];intro _ h;cases h
  rw[h1];intro h;cases h
def DcP.setD {X:aB} {G:DcG} {S:DiskL} (h:DcP X G S) (S':DiskL) (hd:S'.dir=S.dir) (hf:S'.files=S.files):DcP (setB X G.bd (dcO G S')) G S':=
 h.upd rfl (fun b o hb ho=>by rw[bR (Ne.symm hb)];exact ho) (dp h.disk) (fun k _=> .inl ⟨rfl,by rw[hd]⟩) (fun k _=> .inl ⟨rfl,by rw[hd]⟩) (fun k _=> .inl ⟨rfl,by rw[hd]⟩) ⟨rfl,hf⟩
def ry (G:DcG) (S:DiskL) {k:Nat} (hk:k<3) (n:Nat):aG (some (false,n)) (some (dcO G S)) (k*3)=some (G.s k):=by
 have:k=0∨k=1∨k=2:=by omega
 rcases this with rfl|rfl|rfl<;>rfl
def VR (G:DcG) (S:DiskL) {k:Nat} (hk:k<3) (n:Nat):aG (some (false,n)) (some (dcO G S)) (k*3+1)=some (G.t k):=by
 have:k=0∨k=1∨k=2:=by omega
 rcases this with rfl|rfl|rfl<;>rfl
def E8 (G:DcG) (S:DiskL) {k:Nat} (hk:k<3) (n:Nat):aG (some (false,n)) (some (dcO G S)) (k*3+2)=some (G.p k):=by
 have:k=0∨k=1∨k=2:=by omega
 rcases this with rfl|rfl|rfl<;>rfl
def wE (G:DcG) (S:DiskL) (n:Nat):aG (some (false,n)) (some (dcO G S)) 9=some G.f:=(rfl)
def wK (G:DcG) (S:DiskL) (n:Nat):aG (some (false,n)) (some (dcO G S)) 10=some (vi S.max):=(rfl)
def wM (G:DcG) (S:DiskL) (n:Nat):aG (some (false,n)) (some (dcO G S)) 11=some (vi (iQ S)):=(rfl)
def wC (G:DcG) (S:DiskL) (n:Nat):aG (some (false,n)) (some (dcO G S)) 12=some (.bool S.off):=(rfl)
def bz (G:DcG) (k:Nat) (v:Value):DcG:={G with s:=fun j=>if j=k then v else G.s j}
def ed (G:DcG) (k:Nat) (v:Value):DcG:={G with t:=fun j=>if j=k then v else G.t j}
def df (G:DcG) (k:Nat) (v:Value):DcG:={G with p:=fun j=>if j=k then v else G.p j}
def Lh (G:DcG) (S:DiskL) {k:Nat} (hk:k<3) (x:Bool) {q:Value} (hq:Value.oneCell' q=true∧q.cells= #[q]):ad (some (x,1)) (some (dcO G S)) (k*3) q=some (dcO (bz G k q) S):=by
 have:k=0∨k=1∨k=2:=by omega
 rcases this with rfl|rfl|rfl
 ·exact dR [] [G.s 0] [q] [G.t 0,G.p 0,G.s 1,G.t 1,G.p 1,G.s 2,G.t 2,G.p 2,G.f,vi S.max,vi (iQ S), .bool S.off] x _ 90 rfl rfl hq.2 rfl (by simp[hq.1])
 ·exact dR [G.s 0,G.t 0,G.p 0] [G.s 1] [q] [G.t 1,G.p 1,G.s 2,G.t 2,G.p 2,G.f,vi S.max,vi (iQ S), .bool S.off] x _ 90 rfl rfl hq.2 rfl (by simp[hq.1])
 exact dR [G.s 0,G.t 0,G.p 0,G.s 1,G.t 1,G.p 1] [G.s 2] [q] [G.t 2,G.p 2,G.f,vi S.max,vi (iQ S), .bool S.off] x _ 90 rfl rfl hq.2 rfl (by simp[hq.1])
def Le (G:DcG) (S:DiskL) {k:Nat} (hk:k<3) (x:Bool) {q:Value} (hq:Value.oneCell' q=true∧q.cells= #[q]):ad (some (x,1)) (some (dcO G S)) (k*3+1) q=some (dcO (ed G k q) S):=by
 have:k=0∨k=1∨k=2:=by omega
 rcases this with rfl|rfl|rfl
 ·exact dR [G.s 0] [G.t 0] [q] [G.p 0,G.s 1,G.t 1,G.p 1,G.s 2,G.t 2,G.p 2,G.f,vi S.max,vi (iQ S), .bool S.off] x _ 90 rfl rfl hq.2 rfl (by simp[hq.1])
 ·exact dR [G.s 0,G.t 0,G.p 0,G.s 1] [G.t 1] [q] [G.p 1,G.s 2,G.t 2,G.p 2,G.f,vi S.max,vi (iQ S), .bool S.off] x _ 90 rfl rfl hq.2 rfl (by simp[hq.1])
 exact dR [G.s 0,G.t 0,G.p 0,G.s 1,G.t 1,G.p 1,G.s 2] [G.t 2] [q] [G.p 2,G.f,vi S.max,vi (iQ S), .bool S.off] x _ 90 rfl rfl hq.2 rfl (by simp[hq.1])
def LC (G:DcG) (S:DiskL) {k:Nat} (hk:k<3) (x:Bool) {q:Value} (hq:Value.oneCell' q=true∧q.cells= #[q]):ad (some (x,1)) (some (dcO G S)) (k*3+2) q=some (dcO (df G k q) S):=by
 have:k=0∨k=1∨k=2:=by omega
 rcases this with rfl|rfl|rfl
 ·exact dR [G.s 0,G.t 0] [G.p 0] [q] [G.s 1,G.t 1,G.p 1,G.s 2,G.t 2,G.p 2,G.f,vi S.max,vi (iQ S), .bool S.off] x _ 90 rfl rfl hq.2 rfl (by simp[hq.1])
 ·exact dR [G.s 0,G.t 0,G.p 0,G.s 1,G.t 1] [G.p 1] [q] [G.s 2,G.t 2,G.p 2,G.f,vi S.max,vi (iQ S), .bool S.off] x _ 90 rfl rfl hq.2 rfl (by simp[hq.1])
 exact dR [G.s 0,G.t 0,G.p 0,G.s 1,G.t 1,G.p 1,G.s 2,G.t 2] [G.p 2] [q] [G.f,vi S.max,vi (iQ S), .bool S.off] x _ 90 rfl rfl hq.2 rfl (by simp[hq.1])
def DC (G:DcG) (S:DiskL) (x:Bool) {q:Value} (hq:Value.oneCell' q=true∧q.cells= #[q]):ad (some (x,1)) (some (dcO G S)) 9 q=some (dcO {G with f:=q} S):=
 dR [G.s 0,G.t 0,G.p 0,G.s 1,G.t 1,G.p 1,G.s 2,G.t 2,G.p 2] [G.f] [q] [vi S.max,vi (iQ S), .bool S.off] x _ 90 rfl rfl hq.2 rfl (by simp[hq.1])
def dcL (G:DcG) (S:DiskL) (n:Int) (b:Bool):Obj:= .cells #[G.s 0,G.t 0,G.p 0,G.s 1,G.t 1,G.p 1,G.s 2,G.t 2,G.p 2,G.f,vi S.max,vi n, .bool b] 90 (0,0)
def tV (G:DcG) (S S':DiskL) {n:Int} {b:Bool} (hm:S'.max=S.max) (hl:iQ S'=n) (ho:S'.off=b):dcL G S n b=dcO G S':=by
 unfold dcL dcO;rw[hm,hl,ho]
def J7 (G:DcG) (S:DiskL) (n:Int) (a:Bool):ad (some (a,1)) (some (dcO G S)) 11 (vi n)=some (dcL G S n S.off):=dR [G.s 0,G.t 0,G.p 0,G.s 1,G.t 1,G.p 1,G.s 2,G.t 2,G.p 2,G.f,vi S.max] [vi (iQ S)] [vi n] [.bool S.off] a _ 90 rfl rfl rfl rfl rfl
def Lp (G:DcG) (S:DiskL) (m n:Int) (b a:Bool):ad (some (a,1)) (some (dcL G S m b)) 11 (vi n)=some (dcL G S n b):=dR [G.s 0,G.t 0,G.p 0,G.s 1,G.t 1,G.p 1,G.s 2,G.t 2,G.p 2,G.f,vi S.max] [vi m] [vi n] [.bool b] a _ 90 rfl rfl rfl rfl rfl
def J4 (G:DcG) (S:DiskL) (x a:Bool):ad (some (a,1)) (some (dcO G S)) 12 (.bool x)=some (dcO G {S with off:=x}):=dR [G.s 0,G.t 0,G.p 0,G.s 1,G.t 1,G.p 1,G.s 2,G.t 2,G.p 2,G.f,vi S.max,vi (iQ S)] [.bool S.off] [.bool x] [] a _ 90 rfl rfl rfl rfl rfl
def LX (G:DcG) (S:DiskL) (x:Int) (a:Bool):ad (some (a,1)) (some (dcO G S)) 10 (vi x)=some (dcO G {S with max:=x}):=dR [G.s 0,G.t 0,G.p 0,G.s 1,G.t 1,G.p 1,G.s 2,G.t 2,G.p 2,G.f] [vi S.max] [vi x] [vi (iQ S), .bool S.off] a _ 90 rfl rfl rfl rfl rfl
def UW (q:Int):dl (cC prog 90) (an prog 90) [(2,vi q),(3,vi (-1))]=some (.agg #[.slice none 0 0, .slice none 0 0, .slice none 0 0, .slice none 0 0, .slice none 0 0, .slice none 0 0, .slice none 0 0, .slice none 0 0, .slice none 0 0, .slice none 0 0,vi q,vi (-1), .bool false]):=by
 rw[show cC prog 90=some [(0,9),(9,1),(10,1),(11,1),(12,1)] from id kR,zr90];rfl
def dcG0 (b:Nat):DcG:=⟨b,fun _=> .slice none 0 0,fun _=> .slice none 0 0,fun _=> .slice none 0 0, .slice none 0 0⟩
def WO (b:Nat) (q:Int):DcP [(b,dcO (dcG0 b) (dI q))] (dcG0 b) (dI q) where
 disk:=by simp[Sx.look,dcG0]
 seen _ _:=Gr.nl
 stl _ _:=Gr.nl
 pend _ _:=⟨[],rfl,Gr.nl⟩
 files:=Gr.nl
 pdis _ _ _ _ _ _ h:=by cases h
def oG:=aN (aN (aN @av @au) (aN @wE (aN @wK @wM))) (aN (aN @wC @J7) (aN @Lp (aN @J4 @LX)))
def Sq (q:Int) (w:World):Rets prog 36 #[vi q] w (XS w [] (fun v D=> ∃G,v=vp G.bd 0∧DcP D G (dI q))):=by
 refine Rets.enterX func36 rfl (rs:= [.tmp 2]) results36 ntmps36 (fun p hp=>by cases hp) (by simp[keys]) ?_
 refine kf ?_
 refine ky @oG ?_
 refine Ow.build _ rfl (UW q) ?_
 refine Ow.box rfl rfl fun b1 aW aI=> ?_
 simp only[aS,List.nil_append]
 refine ko @oG ?_
 refine ky @oG ?_
 refine⟨_,(ke @oG), ?_⟩
 exact⟨Ext.of_new ⟨aI,trivial⟩,dcG0 b1,rfl,WO b1 q⟩
def Pu (G:DcG) (S:DiskL) (w:World) (hf: -9223372036854775808≤S.fuse∧S.fuse<9223372036854775808∧(S.fused=true→0≤S.fuse)) (ho:w.heap[G.bd]? =some (dcO G S)):
  Rets prog 98 #[vp G.bd 0] w (fun v D=> ∃o,D= [(G.bd,o)]∧v=vi (aH S).2∧o=dcO G (aH S).1):=by
 refine Rets.enterM func98 rfl (rs:= [.tmp 2]) results98 ntmps98 ho ?_
 refine kf ?_
 unfold aH
 rcases Bool.eq_false_or_eq_true S.fused with mH|mH
 case inr=>
  have hl:iQ S= -1:=by unfold iQ;rw[mH];rfl
  have e0: ((-1:Int)==0)=false:=rfl
  have e1:decide ((0:Int)< -1)=false:=rfl
  rw[if_neg (fun h=>by rw[mH] at h;cases h.1),if_neg (fun h=>by rw[mH] at h;cases h)]
  refine ky (aN @oG (aN @hl (aN @e0 @e1))) ?_
  refine⟨_,_,_,(ke @oG),rfl,trivial, ?_⟩
  exact⟨rfl,rfl⟩
 case inl=>
  have hl:iQ S=S.fuse:=by unfold iQ;rw[mH];rfl
  have h1:=hf.2.2 mH
  by_cases h0:S.fuse=0
  ·have e0: (S.fuse==0)=true:=beq_iff_eq.2 h0
   rw[if_pos ⟨mH,h0⟩]
   refine ky (aN @oG (aN @hl @e0)) ?_
   refine⟨_,_,_,(ke @oG),rfl,trivial, ?_⟩
   exact⟨rfl,rfl⟩
  have e0: (S.fuse==0)=false:=beq_eq_false_iff_ne.2 h0
  have e1:decide ((0:Int)<S.fuse)=true:=aK oM
  have e2:iQ {S with fuse:=S.fuse - 1}=S.fuse - 1:=by unfold iQ;rw[if_pos mH]
  rw[if_neg (fun h=>h0 h.2),if_pos mH]
  refine ky (aN @oG (aN @hl (aN @e0 @e1))) ?_
  refine⟨_,_,_,(ke @oG),rfl,trivial, ?_⟩
  exact⟨rfl,tV G S {S with fuse:=S.fuse - 1} rfl e2 rfl⟩
def Om (G:DcG) (S:DiskL) (n:Int) (w:World) (hn: -9223372036854775808≤n∧n<9223372036854775808) (ho:w.heap[G.bd]? =some (dcO G S)):
  Rets prog 23 #[vp G.bd 0,vi n] w (fun v D=> ∃o,D= [(G.bd,o)]∧v=cM []∧o=dcO G {S with fuse:=n,fused:=decide (0≤n)}):=by
 refine Rets.enterM func23 rfl (rs:= []) results23 ntmps23 ho ?_
 refine kf ?_
 by_cases h0:n<0
 ·have e0:decide (n<0)=true:=aK h0
  refine ky (aN @oG @e0) ?_
  refine⟨_,_,_,(ke @oG),rfl,trivial, ?_⟩
  exact⟨rfl,tV G S {S with fuse:=n,fused:=decide (0≤n)} rfl (by unfold iQ;rw[show decide (0≤n)=false from aO oM];rfl) rfl⟩
 have e0:decide (n<0)=false:=aO h0
 refine ky (aN @oG @e0) ?_
 refine⟨_,_,_,(ke @oG),rfl,trivial, ?_⟩
 exact⟨rfl,tV G S {S with fuse:=n,fused:=decide (0≤n)} rfl (by unfold iQ;rw[show decide (0≤n)=true from aK oM];rfl) rfl⟩
def Gr.slW {α:Type} {m:Nat} {enc:α→List Value} {z:α} {X:aB} {E:TypeId} {v:Value} {l:List α} {w:World} (h:Gr X E m v l.length (l.map enc).flatten) (hX: ∀b o,Sx.look X b=some o→w.heap[b]? =some o) (hm: ∀x,(enc x).length=m):SlV m enc z w v l:=by
 cases hs:slB v with
 |none=>exact Gr.slM (h.keep (L':= []) fun b o hb=>by rw[hs] at hb;cases hb) (fun b o hm=>by cases hm) rfl rfl hm
 |some b=>
  obtain⟨arr,ha⟩:=jD h hs
  refine Gr.slM (h.keep (L':= [(b, .cells arr E (0,0))]) fun b' o hb ho=> ?_) (fun b' o yc=> ?_) rfl rfl hm
  ·rw[hs] at hb
   cases hb
   rw[ha] at ho
   cases ho
   simp[Sx.look]
  simp only[List.mem_singleton,Prod.mk.injEq] at yc
  obtain⟨rfl,rfl⟩:=yc
  exact hX _ _ ha
def Bf {S:DiskL} {dir x:List UInt8} (h:bO dir=none∨bX x=false):d8 S dir x=([],1):=by
 have h0:co S dir [x]=1:=by
  unfold co
  rw[if_pos]
  rcases h with h|h
  ·exact .inl h
  right;simp[h]
 unfold d8
 rw[if_pos (by rw[h0];simp),h0]
def k_:=aN (aN (aN @av @au) (aN @wE @wK)) (aN (aN @wM @wC) (aN @Sx.tup2_0 @Sx.tup2_1))
def Bz (w:World) (G:DcG) (S:DiskL) (dir name:List UInt8) (hD:DcW w G S) (ok:DkOk S) (hB:DkB S) (gH:name.length<1099511627776):
  Rets prog 51 #[vp G.bd 0,vs dir,vs name] w (fun v D=>v= .tuple #[vs (d8 S dir name).1,vi ((d8 S dir name).2:Nat)]∧D= []):=by
 obtain⟨X,hX,hP⟩:=hD
 have hd:=hX _ _ hP.disk
 refine Rets.enterV func51 rfl (rs:= [.tmp 6, .tmp 7]) results51 ntmps51 ?_
 refine kf ?_
 refine ky @k_ ?_
 refine Ow.callFV rfl call37 (fun w' aA=>Ik dir w') ?_
 cases hw:bO dir with
 |none=>
  have je:l7 dir= -1:=by unfold l7;rw[hw]
  have e1:decide ((-1:Int)<0)=true:=rfl
  rw[je]
  refine ko @k_ ?_
  refine ky (aN @k_ @e1) ?_
  refine⟨_,(ke @k_),trivial, ?_⟩
  (rw[Bf (.inl hw)];rfl)
 |some k=>
  have hk:=(dT hw).1
  have je:l7 dir=(k:Int):=by unfold l7;rw[hw]
  have e1:decide ((k:Int)<0)=false:=aO oM
  rw[je]
  refine ko @k_ ?_
  refine ky (aN @k_ @e1) ?_
  refine Ow.callFV rfl call38 (fun w' aA=>JJ name w' gH) ?_
  cases hf:bX name with
  |false=>
   refine ko @k_ ?_
   refine ky @k_ ?_
   refine⟨_,(ke @k_),trivial, ?_⟩
   (rw[Bf (.inr hf)];rfl)
  |true=>
   refine ko @k_ ?_
   have gF:co S dir [name]=if S.off=true then 9 else 0:=by
    unfold co
    rw[if_neg (by rw[hw];simp[hf])]
   have kY: ((bO dir).bind fun k=>aM (S.dir k).seen name)=aM (S.dir k).seen name:=by rw[hw];rfl
   rcases Bool.eq_false_or_eq_true S.off with ho|ho
   ·refine ky (aN @k_ (aN @hd @ho)) ?_
    refine⟨_,(ke @k_),trivial, ?_⟩
    (unfold d8;rw[gF,if_pos ho,if_pos (by simp)];rfl)
   have bh:=Gr.slW (z:=nd0) (hP.seen k hk) hX fM
   have lds:=fun n=>ry G S hk n
   have eV:=Gr.slW (z:=fd0) hP.files hX kw
   obtain⟨rb,off,arr,E,fz,hr⟩:=eV.row
   rw[if_neg (by rw[ho];simp)] at gF
   have ce:d8 S dir name=match aM (S.dir k).seen name with|none=>([],6) |some n=>((aE S n).data,0):=by
    unfold d8
    rw[gF,if_neg (by simp),kY]
    cases aM (S.dir k).seen name<;>rfl
   refine ky (aN @k_ (aN @hd (aN @ho @lds))) ?_
   refine Ow.callFV rfl call93 (fun w' aA=>Kt (G.s k) (S.dir k).seen name w' (bh.oldN aA trivial) (by have:=(hB k hk).1;omega)) ?_
   cases fG:aM (S.dir k).seen name with
   |none=>
    have p5:lP (S.dir k).seen name= -1:=by unfold lP;rw[fG]
    have e2:decide ((-1:Int)<0)=true:=rfl
    rw[p5]
    refine ko @k_ ?_
    refine ky (aN @k_ @e2) ?_
    refine⟨_,(ke @k_),trivial, ?_⟩
    (rw[ce,fG];rfl)
   |some n=>
    have p5:lP (S.dir k).seen name=(n:Int):=by unfold lP;rw[fG]
    have e2:decide ((n:Int)<0)=false:=aO oM
    have cT:=ok.seenN k hk _ (iG fG)
    have cU:n< (S.files.map ck).length:=by rw[List.length_map];exact cT
    have ix:=hr.idx true n cU
    have hh:=hr.has oM
    have l0: ∀x,aG (some (false,x)) (some (.cells arr E fz)) (off+n*2)=some (vs ((S.files.map ck).getD n fd0).data):=fun x=>by have:=xF hr cU x;rwa [Nat.add_zero] at this
    rw[sq] at l0
    rw[p5]
    refine ko @k_ ?_
    refine ky (aN @k_ (aN @e2 (aN @hd (aN @ix (aN @hh @l0))))) ?_
    refine⟨_,(ke @k_),trivial, ?_⟩
    (rw[ce,fG];rfl)
structure LcG where
 k:Nat
 v:Value
 D:aB
 DG:aB
def pr {w:World} {b:Nat} {o:Obj} (hb:w.heap[b]? =some o) {Y:aB} (hY:New w.heap.size Y):aU w Y b=some o:=by
 rw[jn (hY.not (Array.getElem?_eq_some_iff.1 hb).1)];exact hb
def iv:=aN (aN (aN @av @au) (aN @wE @wK)) (aN (aN @wM @wC) (aN @Sx.tup2_0 @Sx.tup2_1))
def Qu (w:World) (G:DcG) (S:DiskL) (dir:List UInt8) (hD:DcW w G S) (hB:DkB S):
  Rets prog 59 #[vp G.bd 0,vs dir] w (XS w [] (fun v D=>GrI D 9 1 v (jE S dir).length ((jE S dir).map vs))):=by
 obtain⟨X,hX,hP⟩:=hD
 have hd:=hX _ _ hP.disk
 refine Rets.enterX func59 rfl (rs:= [.tmp 4]) results59 ntmps59 (fun p hp=>by cases hp) (by simp[keys]) ?_
 refine kf ?_
 refine ky @iv ?_
 refine Ow.callFV rfl call37 (fun w' aA=>Ik dir w') ?_
 cases hw:bO dir with
 |none=>
  have je:l7 dir= -1:=by unfold l7;rw[hw]
  have e1:decide ((-1:Int)<0)=true:=rfl
  have hl:jE S dir= []:=by unfold jE co;rw[if_pos (by rw[hw];simp)]
  rw[je]
  refine ko @iv ?_
  refine ky (aN @iv @e1) ?_
  refine⟨_,(ke @iv), ?_⟩
  rw[hl]
  exact⟨Ext.refl w [],Gr.nl.i fun _ h=>h⟩
 |some k=>
  have hk:=(dT hw).1
  have je:l7 dir=(k:Int):=by unfold l7;rw[hw]
  have e1:decide ((k:Int)<0)=false:=aO oM
  rw[je]
  rcases Bool.eq_false_or_eq_true S.off with ho|ho
  ·have hl:jE S dir= []:=by rw[(dT hw).2,BB hk,ho];rfl
   refine ko @iv ?_
   refine ky (aN @iv (aN @e1 (aN @hd @ho))) ?_
   refine⟨_,(ke @iv), ?_⟩
   rw[hl]
   exact⟨Ext.refl w [],Gr.nl.i fun _ h=>h⟩
  have hl:jE S dir=(S.dir k).seen.map Prod.fst:=by
   rw[(dT hw).2,BB hk,ho];rfl
  have bh:=Gr.slW (z:=nd0) (hP.seen k hk) hX fM
  have lds:=fun n=>ry G S hk n
  have lns:=bh.len
  rw[List.length_map] at lns
  obtain⟨rb,off,arr,E,fz,hr⟩:=bh.row
  have iJ:=(hB k hk).1
  generalize (S.dir k).seen=sn at*
  refine ko @iv ?_
  refine ky (aN @iv (aN @e1 (aN @hd @ho))) ?_
  refine Cw.permL (M:= []++ []) (List.Perm.refl _) ?_
  refine Cw.loopG (G:=LcG) [18,19,20,21,22,23,24,25,26,27,30,31,32,33,34,35,36,37,38,39,40,41,42,43,6,28,29,7] (fun g=> [(6,g.v),(7,vi g.k)]) (fun g=>g.D++g.DG) (fun g=>g.k≤sn.length∧New w.heap.size g.D∧New w.heap.size g.DG∧Gr g.D 9 1 g.v g.k (((sn.map Prod.fst).take g.k).map vs)) (fun g=>sn.length - g.k) ⟨0, .slice none 0 0,[],[]⟩ rfl rfl ?_ ?_
  ·exact⟨aV _,trivial,trivial,Gr.nl⟩
  intro g j hg
  refine kv ?_
  obtain⟨i,v3,D,DG⟩:=g
  simp only at hg ⊢
  obtain⟨hi,hN,bG,cI⟩:=hg
  have dK:New w.heap.size (D++DG):=hN.app bG
  have rdd:=pr hd dK
  by_cases aC:i<sn.length
  ·have d1:decide ((i:Int)< (sn.length:Int))=true:=aK oM
   have eE:i< (sn.map aa).length:=by rw[List.length_map];exact aC
   have ix:=hr.idx true i eE
   have rda:=pr (hr.has oM) dK
   have l0: ∀n,aG (some (false,n)) (some (.cells arr E fz)) (off+i*2)=some (vs ((sn.map aa).getD i nd0).s):=fun n=>by have:=tE hr eE n;rwa [Nat.add_zero] at this
   rw[w4] at l0
   have cF: (((sn.map Prod.fst).take (i+1)).map vs)=((sn.map Prod.fst).take i).map vs++ [vs (aa (sn.getD i ([],0))).s]:=by
    rw[StP.take_snoc (z:= []) (by rw[List.length_map];exact aC),List.map_append]
    rw[List.getD_eq_getElem?_getD,List.getD_eq_getElem?_getD,List.getElem?_map]
    simp[aC,aa]
   generalize (aa (sn.getD i ([],0))).s=x at*
   refine ky (aN @iv (aN @rdd (aN @lds (aN @lns (aN @d1 (aN @ix (aN @rda @l0))))))) ?_
   refine Ow.buildSlice (e:=9) #[vs x] rfl rfl kR fun ba lh im=> ?_
   refine ko @iv ?_
   refine Ow.permL (M:=D++ (DG++ [(ba, .cells #[vs x] 9 (0,0))])) pM ?_
   refine Ow.appendXG (e:=9) (k:=1) (new:=strC x) (X:=D) v3 rfl rfl rfl rfl underlying119 (id kR:aR prog 9=some (false,1)) kR (id kR:an prog 9=some (vs [])) rfl underlying119 (by intro k h;cases h) cI (fun w' aA=>AppX.one1 (aA.has ba (.cells #[vs x] 9 (0,0)) (by simp)) rfl rfl) oM (fun B4 v4 D4 gQ ng mF rL ig rP=> ?_)
   have c_:New w.heap.size D4:=New.of_le fun q hq=>by
    rcases ig q hq with h|h
    ·exact hN.le q h
    omega
   refine ko @iv ?_
   refine ky @iv ?_
   exact Again.mk ⟨i+1,v4,D4,DG++ [(ba, .cells #[vs x] 9 (0,0))]⟩ (by show sn.length - (i+1)<sn.length - i;omega) ⟨aC,c_,bG.app ⟨im,trivial⟩,by rw[cF];exact mF⟩ rfl rfl
  obtain rfl:i=sn.length:=by omega
  have d1:decide ((sn.length:Int)< (sn.length:Int))=false:=aO oM
  rw[List.take_of_length_le (by rw[List.length_map];exact bq _)] at cI
  refine ky (aN @iv (aN @rdd (aN @lds (aN @lns @d1)))) ?_
  refine⟨_,(ke @iv), ?_⟩
  rw[hl,List.length_map]
  exact⟨Ext.of_new dK,cI.i fun q hq=>cz _ hq⟩
def lW (S:DiskL):Nat→Nat
 |0=>0
 |k+1=>lW S k+bv S (S.dir k).seen
def Vm (S:DiskL) {k:Nat} (hk:k<3):lW S k+bv S (S.dir k).seen≤ct S:=by
 have:k=0∨k=1∨k=2:=by omega
 rcases this with rfl|rfl|rfl<;>(simp only[lW,ct];omega)
def SB (S:DiskL) {l:NmL} {i:Nat} (h:i<l.length):bv S (l.take (i+1))=bv S (l.take i)+ (aE S (l.getD i ([],0)).2).data.length:=by
 unfold bv
 rw[StP.take_snoc (z:=([],0)) h,List.map_append,List.sum_append,List.map_singleton,List.sum_singleton];rfl
def N6 (S:DiskL) (l:NmL) (i:Nat):bv S (l.take i)≤bv S l:=by
 have:bv S l=bv S (l.take i)+bv S (l.drop i):=by
  unfold bv
  rw[←List.sum_append,←List.map_append,List.take_append_drop]
 omega
structure UkG where
 k:Nat
 n:Nat
def R3 (w:World) (G:DcG) (S:DiskL) (hD:DcW w G S) (ok:DkOk S) (hB:DkB S) (hb:ct S<4611686018427387904):
  Rets prog 97 #[vp G.bd 0] w (fun v D=>v=vi (ct S:Nat)∧D= []):=by
 obtain⟨X,hX,hP⟩:=hD
 have hd:=hX _ _ hP.disk
 have eV:=Gr.slW (z:=fd0) hP.files hX kw
 obtain⟨rf,offf,arrf,Ef,fzf,nQ⟩:=eV.row
 refine Rets.enterV func97 rfl (rs:= [.tmp 2]) results97 ntmps97 ?_
 refine kf ?_
 refine ky @iv ?_
 refine Cw.loopG (G:=UkG) [6,7,5,10,11,12,13,14,15,16,17,18,19,22,23,24,25,26,27,28,29,30,31,32,33,34,35,36,37,38,39,40,41,42,3,20,21,8,9,4] (fun g=> [(3,vi g.n),(4,vi g.k)]) (fun g=> []) (fun g=>g.k≤3∧g.n=lW S g.k) (fun g=>3 - g.k) ⟨0,0⟩ rfl rfl ?_ ?_
 ·exact⟨aV _,rfl⟩
 intro g j hg
 refine kv ?_
 obtain⟨k,n⟩:=g
 simp only at hg ⊢
 obtain⟨hk,hn⟩:=hg
 by_cases aC:k<3
 ·have d1:decide ((k:Int)<3)=true:=aK oM
  have bh:=Gr.slW (z:=nd0) (hP.seen k aC) hX fM
  have lds:=fun n=>ry G S aC n
  have lns:=bh.len
  rw[List.length_map] at lns
  obtain⟨rb,off,arr,E,fz,hr⟩:=bh.row
  have dc:=Vm S aC
  have dk:=ok.seenN k aC
  have iJ:=(hB k aC).1
  have hks:lW S (k+1)=lW S k+bv S (S.dir k).seen:=rfl
  generalize (S.dir k).seen=sn at*
  refine ky (aN @iv @d1) ?_
  refine Cw.loopG (G:=UkG) [10,11,12,13,14,15,16,17,18,19,22,23,24,25,26,27,28,29,30,31,32,33,34,35,36,37,38,39,40,41,42,3,20,21,5] (fun g=> [(3,vi g.n),(5,vi g.k)]) (fun g=> []) (fun g=>g.k≤sn.length∧g.n=n+bv S (sn.take g.k)) (fun g=>sn.length - g.k) ⟨0,n⟩ rfl rfl ?_ ?_
  ·exact⟨aV _,rfl⟩
  intro g j hg
  refine kv ?_
  obtain⟨i,m⟩:=g
  simp only at hg ⊢
  obtain⟨hi,hm⟩:=hg
  by_cases cY:i<sn.length
  ·have d2:decide ((i:Int)< (sn.length:Int))=true:=aK oM
   have eE:i< (sn.map aa).length:=by rw[List.length_map];exact cY
   have ix:=hr.idx true i eE
   have hh:=hr.has oM
   have l1: ∀n,aG (some (false,n)) (some (.cells arr E fz)) (off+i*2+1)=some (vi ((sn.map aa).getD i nd0).n):=fun n=>Fb hr eE n
   rw[w4] at l1
   have nS:=SB S cY
   have A1:=N6 S sn (i+1)
   have cT:=dk (sn.getD i ([],0)) (n_ (z:=([],0)) cY)
   generalize sn.getD i ([],0)=q at*
   obtain⟨qs,qn⟩:=q
   simp only[aa] at l1 cT nS
   have cU:qn< (S.files.map ck).length:=by rw[List.length_map];exact cT
   have ixf:=nQ.idx true qn cU
   have hhf:=nQ.has oM
   have f0: ∀x,aG (some (false,x)) (some (.cells arrf Ef fzf)) (offf+qn*2)=some (vs ((S.files.map ck).getD qn fd0).data):=fun x=>by have:=xF nQ cU x;rwa [Nat.add_zero] at this
   rw[sq] at f0
   have f0': ∀x,aG (some (false,x)) (some (.cells arrf Ef fzf)) (offf+qn*2)=some (vs (aE S qn).data):=f0
   clear f0
   have es: (m:Int)+ ((aE S qn).data.length:Int)=((m+ (aE S qn).data.length:Nat):Int):=by omega
   refine ky (aN @iv (aN @hd (aN @lds (aN @lns @d2)))) ?_
   refine Cw.regionS [G.bd,rf,rb] [0,1,2,3,5,6,7,8,9,10,12,4,11,13,14,15,16,17,18,19,20,21] [] kR kR kR ?_
   simp only[ai, ↓ah, ↓ab, ↓ag, ↓ae,ac]
   refine kq (aN @iv (aN @hd (aN @lds (aN @ix (aN @hh (aN @l1 (aN @ixf (aN @hhf (aN @f0' @es))))))))) ?_
   refine ky @iv ?_
   exact Again.mk ⟨i+1,m+ (aE S qn).data.length⟩ (by show sn.length - (i+1)<sn.length - i;omega) ⟨cY,by show m+ (aE S qn).data.length=n+bv S (sn.take (i+1));omega⟩ rfl rfl
  obtain rfl:i=sn.length:=by omega
  have d2:decide ((sn.length:Int)< (sn.length:Int))=false:=aO oM
  rw[List.take_length] at hm
  refine ky (aN @iv (aN @hd (aN @lds (aN @lns @d2)))) ?_
  exact Again.mk ⟨k+1,m⟩ (by show 3 - (k+1)<3 - k;omega) ⟨aC,by show m=lW S (k+1);omega⟩ rfl rfl
 obtain rfl:k=3:=by omega
 have d1:decide (((3:Nat):Int)<3)=false:=rfl
 refine ky (aN @iv @d1) ?_
 refine⟨_,(ke @iv),trivial, ?_⟩
 (rw[hn];show vi _=vi _;congr 2;simp[lW,ct])
def Sv {S:DiskL} (h:S.off=true):qT S= []:=by
 unfold qT iN iN iN iN iq
 simp[h]
def mb:=aN (aN (aN @av (aN @au @wE)) (aN @wK (aN @wM @wC))) (aN (aN @Sx.tup2_0 (aN @Sx.tup2_1 @Er)) (aN (aN @Ez @Tz) (aN @sc @Av)))
def Ts (w:World) (G:DcG) (S:DiskL) (hD:DcW w G S) (ok:DkOk S) (hB:DkB S):
  Rets prog 29 #[vp G.bd 0] w (XS w [] (fun v D=>GrI D 68 3 v (qT S).length ((qT S).map fiC).flatten)):=by
 obtain⟨X,hX,hP⟩:=hD
 have hd:=hX _ _ hP.disk
 have zq:=Gr.slW (z:=fd0) hP.files hX kw
 obtain⟨rf,offf,arrf,Ef,fzf,nQ⟩:=zq.row
 refine Rets.enterX func29 rfl (rs:= [.tmp 2]) results29 ntmps29 (fun p hp=>by cases hp) (by simp[keys]) ?_
 refine kf ?_
 rcases Bool.eq_false_or_eq_true S.off with ho|ho
 ·refine ky (aN @mb (aN @hd @ho)) ?_
  refine⟨_,(ke @mb), ?_⟩
  rw[Sv ho]
  exact⟨Ext.refl w [],Gr.nl.i fun _ h=>h⟩
 refine ky (aN @mb (aN @hd @ho)) ?_
 refine Ow.callC rfl rfl call64 (fun w' aA=>Cj w') (fun B1 v1 D1 dN di cR dr=> ?_)
 obtain⟨b4,rfl,rfl⟩:=dr
 have cr:w.heap.size≤b4:=(cR.mono di).1
 rw[List.nil_append]
 refine ko @mb ?_
 refine ky @mb ?_
 refine Cw.permL (M:=(b4,m8):: ([]++ [])) (List.Perm.refl _) ?_
 refine Cw.loopG (G:=LcG) [13,14,6,17,18,19,20,21,22,23,24,25,26,29,30,31,32,33,34,35,36,37,38,7,39,40,41,42,43,44,45,46,47,48,49,50,51,52,53,54,55,56,57,3,27,28,15,16,5] (fun g=> [(3,g.v),(5,vi g.k)]) (fun g=>(b4,m8):: (g.D++g.DG)) (fun g=>g.k≤3∧New w.heap.size g.D∧New w.heap.size g.DG∧Gr g.D 68 3 g.v (iN S g.k).length ((iN S g.k).map fiC).flatten) (fun g=>3 - g.k) ⟨0, .slice none 0 0,[],[]⟩ rfl rfl ?_ ?_
 ·exact⟨aV _,trivial,trivial,Gr.nl⟩
 intro g j hg
 refine kv ?_
 obtain⟨k,v,D,DG⟩:=g
 simp only at hg ⊢
 obtain⟨hk,hN,bG,cI⟩:=hg
 by_cases aC:k<3
 ·have d1:decide ((k:Int)<3)=true:=aK oM
  have eV:=Io hB k hk
  have jW:=Ky hB aC
  have bh:=Gr.slW (z:=nd0) (hP.seen k aC) hX fM
  have lds:=fun n=>ry G S aC n
  have lns:=bh.len
  rw[List.length_map] at lns
  obtain⟨rb,off,arr,E,fz,hr⟩:=bh.row
  have dk:=ok.seenN k aC
  have iJ:=(hB k aC).1
  have yJ:iq S k=(S.dir k).seen.map fun p=>⟨cB k,p.1,(S.files.getD p.2 cg).data⟩:=by unfold iq;rw[ho];rfl
  generalize (S.dir k).seen=sn at*
  rw[yJ,List.length_map] at jW
  have ixd:=Ec b4 aC true
  have ldd:=fun n=>Ch aC n
  refine kz [10] (aN @mb @d1) ?_
  refine Cw.loopG (G:=LcG) [17,18,19,20,21,22,23,24,25,26,29,30,31,32,33,34,35,36,37,38,7,39,40,41,42,43,44,45,46,47,48,49,50,51,52,53,54,55,56,57,3,27,28,6] (fun g=> [(3,g.v),(6,vi g.k)]) (fun g=>(b4,m8):: (g.D++g.DG)) (fun g=>g.k≤sn.length∧New w.heap.size g.D∧New w.heap.size g.DG∧Gr g.D 68 3 g.v ((iN S k).length+g.k) ((iN S k++ (iq S k).take g.k).map fiC).flatten) (fun g=>sn.length - g.k) ⟨0,v,D,DG⟩ rfl rfl ?_ ?_
  ·exact⟨aV _,hN,bG,by simpa using cI⟩
  intro g j hg
  refine kv ?_
  clear hN bG cI
  obtain⟨j,v,D,DG⟩:=g
  simp only at hg ⊢
  obtain⟨hj,hN,bG,cI⟩:=hg
  have dK:New w.heap.size ((b4,m8):: (D++DG)):=⟨cr,hN.app bG⟩
  have rdd:=pr hd dK
  by_cases hjt:j<sn.length
  ·have d2:decide ((j:Int)< (sn.length:Int))=true:=aK oM
   have eE:j< (sn.map aa).length:=by rw[List.length_map];exact hjt
   have ix:=hr.idx true j eE
   have rda:=pr (hr.has oM) dK
   have lda:=xX hr eE
   rw[w4] at lda
   have j6: (iq S k).take (j+1)=(iq S k).take j++ [⟨cB k,(sn.getD j ([],0)).1,(aE S (sn.getD j ([],0)).2).data⟩]:=by
    rw[yJ,List.take_add_one]
    simp[hjt,aE]
   have cT:=dk (sn.getD j ([],0)) (n_ (z:=([],0)) hjt)
   generalize sn.getD j ([],0)=q at*
   obtain⟨x,n⟩:=q
   simp only at j6 cT
   have cU:n< (S.files.map ck).length:=by rw[List.length_map];exact cT
   have ixf:=nQ.idx true n cU
   have f0: ∀y,aG (some (false,y)) (some (.cells arrf Ef fzf)) (offf+n*2)=some (vs ((S.files.map ck).getD n fd0).data):=fun y=>by have:=xF nQ cU y;rwa [Nat.add_zero] at this
   rw[sq] at f0
   have f0': ∀y,aG (some (false,y)) (some (.cells arrf Ef fzf)) (offf+n*2)=some (vs (aE S n).data):=f0
   clear f0
   have hq0: (aa (x,n)).s=x:=rfl
   have hq1: (aa (x,n)).n=(n:Int):=rfl
   refine kz [10] (aN @mb (aN @rdd (aN @lds (aN @lns (aN @d2 (aN @ix (aN @rda @lda))))))) ?_
   refine Ow.alloc rfl rfl zrNd fun b7 zk rj=> ?_
   simp only[aS,List.nil_append,List.cons_append]
   have h47:b4<b7:=ak zk (by simp[keys])
   refine Ow.permL (M:=(b7, .cells (ndC nd0).toArray 95 (0,0)):: (b4,m8):: (D++DG)) pM ?_
   refine ko @mb ?_
   have n4:New w.heap.size ((b7,Obj.cells (ndC (aa (x,n))).toArray 95 (0,0)):: (b4,m8):: (D++DG)):=⟨rj,dK⟩
   have rd7:=pr hd n4
   have rf7:=pr (nQ.has oM) n4
   refine Cw.regionS [b4,b7,G.bd,rf] [0,1,2,3,5,7,8,9,11,4,6,10,12,13,14,15,16,17,18,19] [] kR kR kR ?_
   simp only[ai, ↓ah, ↓ab, ↓ag, ↓ae,ac]
   refine kq (aN @mb (aN @ixd (aN @ldd (aN @rd7 (aN @rf7 (aN @ixf (aN @f0' (aN @hq0 @hq1)))))))) ?_
   refine Ow.build (.agg (fiC ⟨cB k,x,(aE S n).data⟩).toArray) rfl (Dq ⟨cB k,x,(aE S n).data⟩) ?_
   refine kq @mb ?_
   refine Ow.soft rfl rfl rfl ?_
   refine Ow.buildSlice (e:=68) (fiC ⟨cB k,x,(aE S n).data⟩).toArray rfl rfl (gX underlying22 tq zrFi (by decide) (oJ _)) fun ba lh im=> ?_
   have hb4a:b4<ba:=ak lh (by simp[keys])
   have hb7a:b7<ba:=ak lh (by simp[keys])
   have j3:New w.heap.size ((b7,Obj.cells (ndC (aa (x,n))).toArray 95 (0,0)):: (b4,m8):: (D++ (DG++ [(ba,Obj.cells (fiC ⟨cB k,x,(aE S n).data⟩).toArray 68 (0,0))]))):=⟨rj,cr,hN.app (bG.app ⟨im,trivial⟩)⟩
   refine Ow.permL (M:=(b7, .cells (ndC (aa (x,n))).toArray 95 (0,0)):: (b4,m8):: (D++ (DG++ [(ba, .cells (fiC ⟨cB k,x,(aE S n).data⟩).toArray 68 (0,0))]))) pM ?_
   with_reducible refine Ow.nil ?_
   refine⟨fun r hr=> ?_, ?_⟩
   ·simp only[List.mem_cons,List.not_mem_nil,or_false] at hr
    rcases hr with rfl|rfl|rfl|rfl
    ·simp(disch:=omega) only[o5,yz]
    ·simp(disch:=omega) only[o5,yz]
    ·exact(pr hd j3).trans rd7.symm
    exact(pr (nQ.has oM) j3).trans rf7.symm
   refine kq @mb ?_
   refine Ow.soft rfl rfl rfl ?_
   refine Ow.permL (M:=D++ ((b7, .cells (ndC (aa (x,n))).toArray 95 (0,0)):: (b4,m8):: (DG++ [(ba, .cells (fiC ⟨cB k,x,(aE S n).data⟩).toArray 68 (0,0))]))) pM ?_
   refine Ow.appendXG (e:=68) (k:=1) (new:=fiC ⟨cB k,x,(aE S n).data⟩) (X:=D) v rfl rfl rfl rfl underlying22 tq kR zrFi (by rw[Av,List.size_toArray,oJ]) underlying22 (by intro k h;cases h) cI (fun w' aA=>AppX.one1 (aA.has ba (.cells (fiC ⟨cB k,x,(aE S n).data⟩).toArray 68 (0,0)) (by simp)) (oJ _) (wx _)) oM (fun B4 v4 D4 gQ ng mF rL ig rP=> ?_)
   have c_:New w.heap.size D4:=New.of_le fun q hq=>by
    rcases ig q hq with h|h
    ·exact hN.le q h
    omega
   have p':New w.heap.size ((b7,Obj.cells (ndC (aa (x,n))).toArray 95 (0,0)):: (b4,m8):: (D4++ (DG++ [(ba,Obj.cells (fiC ⟨cB k,x,(aE S n).data⟩).toArray 68 (0,0))]))):=⟨rj,cr,c_.app (bG.app ⟨im,trivial⟩)⟩
   refine Ow.permL (M:=(b7, .cells (ndC (aa (x,n))).toArray 95 (0,0)):: (b4,m8):: (D4++ (DG++ [(ba, .cells (fiC ⟨cB k,x,(aE S n).data⟩).toArray 68 (0,0))]))) pM ?_
   with_reducible refine Ow.nil ?_
   refine⟨fun r hr=> ?_, ?_⟩
   ·simp only[List.mem_cons,List.not_mem_nil,or_false] at hr
    rcases hr with rfl|rfl|rfl|rfl
    ·simp(disch:=omega) only[o5,yz]
    ·simp(disch:=omega) only[o5,yz]
    ·exact(pr hd p').trans (pr hd j3).symm
    exact(pr (nQ.has oM) p').trans (pr (nQ.has oM) j3).symm
   refine kq @mb ?_
   refine Cw.permL (M:=(b4,m8):: (D4++ (DG++ [(ba, .cells (fiC ⟨cB k,x,(aE S n).data⟩).toArray 68 (0,0)),(b7, .cells (ndC (aa (x,n))).toArray 95 (0,0))]))) pM ?_
   refine ky @mb ?_
   refine Again.mk ⟨j+1,v4,D4,DG++ [(ba, .cells (fiC ⟨cB k,x,(aE S n).data⟩).toArray 68 (0,0)),(b7, .cells (ndC (aa (x,n))).toArray 95 (0,0))]⟩ (by show sn.length - (j+1)<sn.length - j;omega) ⟨hjt,c_,bG.app ⟨im,rj,trivial⟩, ?_⟩ rfl rfl
   show Gr D4 68 3 v4 ((iN S k).length+j+1) ((iN S k++ (iq S k).take (j+1)).map fiC).flatten
   rw[j6]
   simpa only[List.map_append,List.map_cons,List.map_nil,List.flatten_append,List.flatten_cons,List.flatten_nil,List.append_nil,List.append_assoc] using mF
  obtain rfl:j=sn.length:=by omega
  have d2:decide ((sn.length:Int)< (sn.length:Int))=false:=aO oM
  have gj: (iq S k).length=sn.length:=by rw[yJ,List.length_map]
  rw[←gj,List.take_length] at cI
  refine ky (aN @mb (aN @rdd (aN @lds (aN @lns @d2)))) ?_
  refine Again.mk ⟨k+1,v,D,DG⟩ (by show 3 - (k+1)<3 - k;omega) ⟨aC,hN,bG, ?_⟩ rfl rfl
  show Gr D 68 3 v (iN S k++iq S k).length ((iN S k++iq S k).map fiC).flatten
  rw[List.length_append];exact cI
 obtain rfl:k=3:=by omega
 have d1:decide (((3:Nat):Int)<3)=false:=rfl
 refine ky (aN @mb @d1) ?_
 refine⟨_,(ke @mb), ?_⟩
 exact⟨Ext.of_new (show New w.heap.size ((b4,m8):: (D++DG)) from⟨cr,hN.app bG⟩),cI.i fun p hp=>cN _ (cz _ hp)⟩
def preE (S:DiskL) (kind:Int) (dir name s:List UInt8):Nat:=
 if bO dir=none∨(kind≠3∧bX name=false)∨(kind=4∧bX s=false) then 1
 else if S.off=true then 9
 else match atD S dir name with
  |some n=>if kind=0 then 7 else if kind=1∧jF S n s=true then 8 else 0
  |none=>if kind≠0∧kind≠3 then 6 else 0
def actV (S:DiskL) (kind:Int) (dir name s:List UInt8):DiskL:=
 if kind=0 then gd (eH (aH S).1 cg) ((bO dir).getD 0) ⟨0,name,[],S.files.length⟩
 else if kind=1 then eG (aH S).1 ((atD S dir name).getD 0) ⟨(aE S ((atD S dir name).getD 0)).data++s,(aE S ((atD S dir name).getD 0)).stl⟩
 else if kind=2 then eG (aH S).1 ((atD S dir name).getD 0) ⟨(aE S ((atD S dir name).getD 0)).data,(aE S ((atD S dir name).getD 0)).data.length⟩
 else if kind=3 then mh (aH S).1 ((bO dir).getD 0)
 else if kind=4 then(if name=s then(aH S).1 else gd (aH S).1 ((bO dir).getD 0) ⟨1,name,s,0⟩)
 else gd (aH S).1 ((bO dir).getD 0) ⟨2,name,[],0⟩
def Ih (S:DiskL) (dir name:List UInt8):co S dir [name]=if bO dir=none∨bX name=false then 1 else if S.off=true then 9 else 0:=by
 unfold co
 simp
def Qs (S:DiskL) (dir name to:List UInt8):co S dir [name,to]=if bO dir=none∨bX name=false∨bX to=false then 1 else if S.off=true then 9 else 0:=by
 unfold co
 cases hf:bX name<;>cases ht:bX to<;>simp[hf,ht]
def Xa {S:DiskL} {kind:Int} (hk:0≤kind∧kind<6) (dir name s:List UInt8):
  (preE S kind dir name s≠0→doV S kind dir name s=(S,preE S kind dir name s))∧
  (preE S kind dir name s=0→doV S kind dir name s=if(aH S).2≠0 then aH S else(actV S kind dir name s,0)):=by
 have h6:kind=0∨kind=1∨kind=2∨kind=3∨kind=4∨kind=5:=by omega
 rcases h6 with rfl|rfl|rfl|rfl|rfl|rfl
 ·unfold doV preE actV kE
  rw[Ih]
  by_cases h1:bO dir=none∨bX name=false
  ·simp[h1]
  by_cases h2:S.off=true
  ·simp[h1,h2]
  cases h3:atD S dir name<;>simp[h1,h2]
 ·unfold doV preE actV iC
  rw[Ih]
  by_cases h1:bO dir=none∨bX name=false
  ·simp[h1]
  by_cases h2:S.off=true
  ·simp[h1,h2]
  cases h3:atD S dir name with
  |none=>simp[h1,h2]
  |some n=>
   by_cases h4:jF S n s=true
   ·simp[h1,h2,h4]
   simp[h1,h2,h4]
 ·unfold doV preE actV cu
  rw[Ih]
  by_cases h1:bO dir=none∨bX name=false
  ·simp[h1]
  by_cases h2:S.off=true
  ·simp[h1,h2]
  cases h3:atD S dir name<;>simp[h1,h2]
 ·unfold doV preE actV eZ co
  by_cases h1:bO dir=none
  ·simp[h1]
  by_cases h2:S.off=true
  ·simp[h1,h2]
  cases h3:atD S dir name<;>simp[h1,h2]
 ·unfold doV preE actV jg
  rw[Qs]
  by_cases h1:bO dir=none∨bX name=false∨bX s=false
  ·simp[h1]
  by_cases h2:S.off=true
  ·simp[h1,h2]
  cases h3:atD S dir name with
  |none=>simp[h1,h2]
  |some n=>
   have h1a: ¬bO dir=none:=fun h=>h1 (.inl h)
   have h1b: ¬bX name=false:=fun h=>h1 (.inr (.inl h))
   have h1c: ¬bX s=false:=fun h=>h1 (.inr (.inr h))
   by_cases h4:name=s
   ·subst h4
    simp[h1a,h1b,h2]
    exact fun h=>Prod.ext rfl h
   simp[h1a,h1b,h1c,h2,h4]
 unfold doV preE actV fo
 rw[Ih]
 by_cases h1:bO dir=none∨bX name=false
 ·simp[h1]
 by_cases h2:S.off=true
 ·simp[h1,h2]
 cases h3:atD S dir name<;>simp[h1,h2]
def Gr.upd {α:Type} {X:aB} {E:TypeId} {m:Nat} {v:Value} {enc:α→List Value} {l:List α} (h:Gr X E m v l.length (l.map enc).flatten) (hm: ∀x,(enc x).length=m) {k:Nat} (hk:k<l.length) (x:α):
  ∃b rest c,v=vsl b 0 l.length c∧Sx.look X b=some (cO enc E rest l)∧ ∀L,Sx.look L b=some (cO enc E rest (l.set k x))→Gr L E m v (l.set k x).length ((l.set k x).map enc).flatten:=by
 rcases h with h| ⟨h,-⟩
 ·generalize hn:l.length=n at h
  generalize eD: (l.map enc).flatten=cs at h
  cases h with
  |nl=>omega
  | @at_ b n c cs rest hl h1 h2 h3 h4=>
   subst eD
   refine⟨b,rest,c,rfl,hl,fun L hL=> .inl ?_⟩
   rw[List.length_set,hn]
   exact .at_ hL (by rw[EQ hm,List.length_set,hn]) h2 h3 h4
 omega
def KJ_ {E:TypeId} {rest:List Value} {l:List FdR} (k:Nat) (hk:k<l.length) (y:List UInt8) (a:Bool):ad (some (a,1)) (some (cO fdC E rest l)) (k*2) (vs y)=some (cO fdC E rest (l.set k {l.getD k fd0 with data:=y})):=by
 obtain⟨A,C,e,hA,e2⟩:=AR (z:=fd0) (rest:=rest) kw hk
 unfold cO
 rw[e,e2 {l.getD k fd0 with data:=y}]
 exact dR A [vs (l.getD k fd0).data] [vs y] ([vi (l.getD k fd0).stl]++C) a _ E hA rfl rfl rfl rfl
def Ku_ {E:TypeId} {rest:List Value} {l:List FdR} (k:Nat) (hk:k<l.length) (y:Int) (a:Bool):ad (some (a,1)) (some (cO fdC E rest l)) (k*2+1) (vi y)=some (cO fdC E rest (l.set k {l.getD k fd0 with stl:=y})):=by
 obtain⟨A,C,e,hA,e2⟩:=AR (z:=fd0) (rest:=rest) kw hk
 unfold cO
 rw[e,e2 {l.getD k fd0 with stl:=y}]
 have:=dR (A++ [vs (l.getD k fd0).data]) [vi (l.getD k fd0).stl] [vi y] C (o:=k*2+1) (n:=1) a (vi y) E (by rw[List.length_append,hA];rfl) rfl rfl rfl rfl
 rw[List.append_assoc,List.append_assoc] at this
 exact this
def IF {E:TypeId} {rest:List Value} {l:List FdR} (k:Nat) (hk:k<l.length) (n:Nat):aG (some (false,n)) (some (cO fdC E rest l)) (k*2)=some (vs (l.getD k fd0).data):=by
 obtain⟨A,C,e,hA,-⟩:=AR (z:=fd0) (rest:=rest) kw hk
 unfold cO
 rw[e]
 exact iR A ([vi (l.getD k fd0).stl]++C) _ n E (0,0) hA
def Oo {E:TypeId} {rest:List Value} {l:List FdR} (k:Nat) (hk:k<l.length) (n:Nat):aG (some (false,n)) (some (cO fdC E rest l)) (k*2+1)=some (vi (l.getD k fd0).stl):=by
 obtain⟨A,C,e,hA,-⟩:=AR (z:=fd0) (rest:=rest) kw hk
 unfold cO
 rw[e]
 have:=iR (A++ [vs (l.getD k fd0).data]) C (vi (l.getD k fd0).stl) n E (0,0) (o:=k*2+1) (by rw[List.length_append,hA];rfl)
 rw[List.append_assoc] at this
 exact this
def Fo: (some 92:Option TypeId)≠some 95:=by decide
def YI: (some 92:Option TypeId)≠some 130:=by decide
def xO: (some 130:Option TypeId)≠some 95:=by decide
def Fx: (some 130:Option TypeId)≠some 92:=by decide
def Gr.keep2 {X L:aB} {E F:TypeId} {m n m' n':Nat} {v u:Value} {cs cs':List Value} (h:Gr X E m v n cs) (hu:Gr X F m' u n' cs') (aX: (some F:Option TypeId)≠some E) {c:Nat} {oc:Obj} (hc:Sx.look X c=some oc) (ht:tyO oc≠some E) (keep: ∀b o,b≠c→slB u≠some b→Sx.look X b=some o→Sx.look L b=some o):Gr L E m v n cs:=h.keep fun b o hb ho=>by
 obtain⟨arr,ha⟩:=jD h hb
 refine keep b o ?_ ?_ ho
 ·rintro rfl
  rw[hc] at ha;cases ha;exact ht rfl
 intro e
 obtain⟨arr',r6⟩:=jD hu e
 rw[ha] at r6;cases r6;exact aX rfl
def DcP.updF {X L:aB} {G:DcG} {S:DiskL} (h:DcP X G S) {v:Value} {fl:List FileL} (keep: ∀b o,b≠G.bd→slB G.f≠some b→Sx.look X b=some o→Sx.look L b=some o) (hd:Sx.look L G.bd=some (dcO {G with f:=v} {S with files:=fl})) (hf:FdP L v fl):DcP L {G with f:=v} {S with files:=fl} where
 disk:=hd
 seen k hk:=Gr.keep2 (h.seen k hk) h.files Fo h.disk (by rw[gC];exact po) keep
 stl k hk:=Gr.keep2 (h.stl k hk) h.files Fo h.disk (by rw[gC];exact po) keep
 pend k hk:=by
  obtain⟨pl,h1,h2⟩:=h.pend k hk
  exact⟨pl,h1,Gr.keep2 h2 h.files YI h.disk (by rw[gC];exact oP) keep⟩
 files:=hf
 pdis:=h.pdis
def DcP.updP {X L:aB} {G:DcG} {S:DiskL} (h:DcP X G S) {k:Nat} (hk:k<3) {sv pv:Value} {sn:NmL} {pl pl':List CallL} {pd:List CallL} (fc:KcP X (G.p k) pl)
  (keep: ∀b o,b≠G.bd→slB (G.p k)≠some b→Sx.look X b=some o→Sx.look L b=some o)
  (hd:Sx.look L G.bd=some (dcO (df (bz G k sv) k pv) S)) (hs:NdP L sv sn) (hp:KcP L pv pl') (hn:pl'.map jC=pd.map jC)
  (hb: ∀b,slB pv=some b→slB (G.p k)=some b∨b∉keys X):
  DcP L (df (bz G k sv) k pv) (dY S k ⟨sn,(S.dir k).stl,pd⟩) where
 disk:=hd
 seen j hj:=by
  by_cases e:j=k
  ·subst e
   rw[iz,show(df (bz G j sv) j pv).s j=sv by simp[df,bz]]
   exact hs
  rw[jM _ _ e,show(df (bz G k sv) k pv).s j=G.s j by simp[df,bz,e]]
  exact Gr.keep2 (h.seen j hj) fc xO h.disk (by rw[gC];exact po) keep
 stl j hj:=by
  have e2: ((dY S k ⟨sn,(S.dir k).stl,pd⟩).dir j).stl=(S.dir j).stl:=by
   by_cases e:j=k
   ·subst e;rw[iz]
   rw[jM _ _ e]
  rw[e2]
  exact Gr.keep2 (h.stl j hj) fc xO h.disk (by rw[gC];exact po) keep
 pend j hj:=by
  by_cases e:j=k
  ·subst e
   rw[iz,show(df (bz G j sv) j pv).p j=pv by simp[df,bz]]
   exact⟨pl',hn,hp⟩
  rw[jM _ _ e,show(df (bz G k sv) k pv).p j=G.p j by simp[df,bz,e]]
  obtain⟨ql,h1,h2⟩:=h.pend j hj
  refine⟨ql,h1,h2.keep fun b o dO ho=> ?_⟩
  obtain⟨arr,ha⟩:=jD h2 dO
  refine keep b o ?_ (fun e3=>h.pdis k j hk hj (Ne.symm e) b e3 dO) ho
  rintro rfl
  rw[h.disk] at ha
  have:=congrArg tyO (Option.some.inj ha)
  rw[gC] at this
  exact oP this
 files:=Gr.keep2 h.files fc Fx h.disk (by rw[gC];exact qX) keep
 pdis i j hi hj mI b:=by
  have key: ∀ {i},i<3→ ∀ {b},slB ((df (bz G k sv) k pv).p i)=some b→slB (G.p i)=some b∨(i=k∧b∉keys X):=fun{i} hi {b} dO=>by
   by_cases e:i=k
   ·subst e
    rw[show(df (bz G i sv) i pv).p i=pv by simp[df,bz]] at dO
    exact(hb b dO).imp id fun h=>⟨rfl,h⟩
   rw[show(df (bz G k sv) k pv).p i=G.p i by simp[df,bz,e]] at dO
   exact .inl dO
  intro zu fY
  have inX: ∀ {i},i<3→slB (G.p i)=some b→b∈keys X:=fun{i} hi e=>by
   obtain⟨pl,-,h2⟩:=h.pend i hi
   exact h2.key e
  rcases key hi zu with a| ⟨rfl,a⟩
  ·rcases key hj fY with c| ⟨rfl,c⟩
   ·exact h.pdis i j hi hj mI b a c
   exact c (inX hi a)
  rcases key hj fY with c| ⟨rfl,-⟩
  ·exact a (inX hj c)
  exact mI rfl
structure PkL where
 v:Value
 l:List UInt16
 h:Value.oneCell' v=true∧v.cells= #[v]
def pk0:PkL:=⟨.slice none 0 0,[],rfl,rfl⟩
structure ActL where
 kind:Int
 n:Int
 dir:List UInt8
 name:List UInt8
 s:List UInt8
 picks:PkL
structure ActOk (w:World) (a:ActL):Prop where
 pk:PkS w a.picks.v a.picks.l
 n: -9223372036854775808≤a.n∧a.n<9223372036854775808
def PkS.blk {w:World} {v:Value} {l:List UInt16} (h:PkS w v l) (hl:l≠ []) {b:Nat} (hb:slB v=some b):b<w.heap.size:=by
 obtain⟨b',off,c,arr,E,fz,hr,hc,⟨rfl,rfl,rfl⟩ | ⟨rfl,hh,-⟩⟩:=h.resolve_right fun e=>hl e.1
 ·exact absurd rfl hl
 cases hb
 exact(Array.getElem?_eq_some_iff.1 hh).1
structure DkA (X:aB) (G:DkG) (S:DiskL) (N:Nat):Prop where
 P:DkP X G S
 H:kN S
 B:DkN N S
theorem DkA.pend {X:aB} {G:DkG} {S:DiskL} {N:Nat} (h:DkA X G S N) (hN:N<1000000): ∀k,k<3→(S.dir k).pend.length<1000000:=fun k _=>by
 have:=(h.B k).stl
 omega
def DkA.used {X:aB} {G:DkG} {S:DiskL} {N:Nat} (h:DkA X G S N) (hN:N<1000000):ct S<4611686018427387904:=by
 have:=Et h.P.ok h.B
 omega
theorem DkA.mono {X X':aB} {G:DkG} {S:DiskL} {N:Nat} (h:DkA X G S N) (hk: ∀b o,Sx.look X b=some o→Sx.look X' b=some o):DkA X' G S N:=⟨h.P.mono hk,h.H,h.B⟩
theorem DkA.b {X:aB} {G:DkG} {S:DiskL} {N:Nat} (h:DkA X G S N) (hN:N<1000000):DkB S:=h.B.b oM
def sd {w:World} {X D:aB} {b:Nat} {o:Obj} (h:Ext w X D) (hb:w.heap.size≤b):Ext w X ((b,o)::D):=
 ⟨fun c hc=>by
  rcases List.mem_cons.1 hc with rfl|hc
  ·exact .inr hb
  exact h.new c hc,fun c hc=>cN _ (h.all c hc)⟩
def SY (kd:Int) (a b:List UInt8):dl (cC prog 130) (an prog 130) [(0,vi kd),(1,vs a),(2,vs b)]=some (.agg (kcC ⟨kd,a,b,0⟩).toArray):=by
 rw[show cC prog 130=some [(0,1),(1,1),(2,1),(3,1)] from id kR,zr130];rfl
def TA:dl (cC prog 92) (an prog 92) []=some (.agg (fdC fd0).toArray):=by
 rw[show cC prog 92=some [(0,1),(1,1)] from id kR,zr92];rfl
structure DoG where
 c:KcR
 S:DiskL
 G:DcG
 X:aB
def DoS (G:DcG) (R:DiskL×Nat) (v:Value) (D:aB):Prop:=v=vi (R.2:Nat)∧ ∃G',G'.bd=G.bd∧DcP D G' R.1
def DoJ (S0 T:DiskL) (k:Nat) (c:KcR) (S:DiskL):Prop:=(c.kind= -1∧S=T)∨S.dir=S0.dir∧ ∃d:CallL,c=kcOf d∧T=gd S k (jC d)∧d.kind<3∧(d.kind=1→aM (S.dir k).seen d.a≠none)
def ax:=aN (aN (aN (aN @av @au) (aN @wE (aN @wK @wM))) (aN (aN @wC (aN @J7 @Lp)) (aN @J4 (aN @LX @Fa)))) (aN (aN (aN @EZ @E5) (aN @Dm (aN @ES @TK))) (aN (aN @RZ (aN @TF @Tp)) (aN @Tc (aN @wU @IX))))
def SM (c:CallL):jC (jC c)=jC c:=by
 unfold jC
 by_cases h0:c.kind=0
 ·simp[h0]
 by_cases h1:c.kind=1
 ·simp[h1]
 simp[h0,h1]
def VP (X:aB) (G:DcG) (S:DiskL) (kind:Int) (dir name s:List UInt8) (w:World) (hX: ∀p,p∈X→w.heap[p.1]? =some p.2) (hn: (keys X).Nodup) (hP:DcP X G S) (ok:DkOk S) (hB:DkB S) (hK:0≤kind∧kind<6) (gH:name.length<1099511627776) (bh:s.length<1099511627776) (fc: ∀k,k<3→(S.dir k).pend.length<1000000) (fG:S.files.length<1000000000) (nS:ct S<4611686018427387904):
  Rets prog 55 #[vp G.bd 0,vi kind,vs dir,vs name,vs s] w (XS w X (DoS G (doV S kind dir name s))):=by
 obtain⟨p9,k9⟩:=Xa (S:=S) hK dir name s
 have hDW:=hP.worldX hX
 have rdd:=aQ (w0:=w) hP.disk
 refine Rets.enterX func55 rfl (rs:= [.tmp 10]) results55 ntmps55 hX hn ?_
 refine kf ?_
 refine kz [1000002,1000008,1000010,1000012,1000018,1000035] @ax ?_
 refine Ow.callFV rfl call37 (fun w' aA=>Ik dir w') ?_
 cases hw:bO dir with
 |none=>
  have je:l7 dir= -1:=by unfold l7;rw[hw]
  have e1:decide ((-1:Int)<0)=true:=rfl
  have cD:preE S kind dir name s=1:=by unfold preE;rw[if_pos (.inl hw)]
  rw[je]
  refine ko @ax ?_
  refine ky (aN @ax @e1) ?_
  refine⟨_,(ke @ax), ?_⟩
  rw[p9 (by rw[cD];simp),cD]
  exact⟨Ext.refl w X,rfl,G,rfl,hP⟩
 |some k=>
  have hk:=(dT hw).1
  have je:l7 dir=(k:Int):=by unfold l7;rw[hw]
  have e1:decide ((k:Int)<0)=false:=aO oM
  have kY:atD S dir name=aM (S.dir k).seen name:=by unfold atD;rw[hw];rfl
  rw[je]
  refine ko @ax ?_
  refine Cw.cutO (G:=Unit) [18,19,20,21,22,23,24,25,26,27,28,29,30,31,32,33,34,35,36,37] (fun g=> []) (fun g=>X) (fun g=>(kind≠3→bX name=true)∧(kind=4→bX s=true)) ?_ ?_
  ·by_cases k3:kind=3
   ·have e3: (kind !=3)=false:=by rw[k3];rfl
    have e4: (kind==4)=false:=by rw[k3];rfl
    refine ky (aN @ax (aN @e1 (aN @e3 @e4))) ?_
    exact CutO.mk () ⟨fun h=>absurd k3 h,fun h=>by omega⟩ rfl rfl
   have e3: (kind !=3)=true:=bne_iff_ne.2 k3
   refine ky (aN @ax (aN @e1 @e3)) ?_
   refine Ow.callFV rfl call38 (fun w' aA=>JJ name w' gH) ?_
   cases hf:bX name with
   |false=>
    have cD:preE S kind dir name s=1:=by unfold preE;rw[if_pos (.inr (.inl ⟨k3,hf⟩))]
    refine ko @ax ?_
    refine ky @ax ?_
    refine⟨_,(ke @ax), ?_⟩
    rw[p9 (by rw[cD];simp),cD]
    exact⟨Ext.refl w X,rfl,G,rfl,hP⟩
   |true=>
    by_cases k4:kind=4
    ·have e4: (kind==4)=true:=beq_iff_eq.2 k4
     refine ko (aN @ax @e4) ?_
     refine Ow.callFV rfl call38 (fun w' aA=>JJ s w' bh) ?_
     cases vB:bX s with
     |false=>
      have cD:preE S kind dir name s=1:=by unfold preE;rw[if_pos (.inr (.inr ⟨k4,vB⟩))]
      refine ko @ax ?_
      refine ky @ax ?_
      refine⟨_,(ke @ax), ?_⟩
      rw[p9 (by rw[cD];simp),cD]
      exact⟨Ext.refl w X,rfl,G,rfl,hP⟩
     |true=>
      refine ko @ax ?_
      refine ky @ax ?_
      exact CutO.mk () ⟨fun _=>rfl,fun _=>rfl⟩ rfl rfl
    have e4: (kind==4)=false:=beq_eq_false_iff_ne.2 k4
    refine ko (aN @ax @e4) ?_
    refine ky @ax ?_
    exact CutO.mk () ⟨fun _=>rfl,fun h=>absurd h k4⟩ rfl rfl
  intro gu jgu hgu
  refine kv ?_
  obtain⟨HH,vB⟩:=hgu
  have cD:preE S kind dir name s=if S.off=true then 9 else match aM (S.dir k).seen name with
    |some n=>if kind=0 then 7 else if kind=1∧jF S n s=true then 8 else 0
    |none=>if kind≠0∧kind≠3 then 6 else 0:=by
   unfold preE
   rw[if_neg (by
    rintro(h| ⟨h,h'⟩ | ⟨h,h'⟩)
    ·rw[hw] at h;cases h
    ·rw[HH h] at h';cases h'
    rw[vB h] at h';cases h'),kY]<;>rfl
  have lds:=fun n=>ry G S hk n
  rcases Bool.eq_false_or_eq_true S.off with ho|ho
  ·rw[if_pos ho] at cD
   refine ky (aN @ax (aN @rdd @ho)) ?_
   refine⟨_,(ke @ax), ?_⟩
   rw[p9 (by rw[cD];simp),cD]
   exact⟨Ext.refl w X,rfl,G,rfl,hP⟩
  rw[if_neg (by rw[ho];simp)] at cD
  have iJ:=(hB k hk).1
  refine kz [12,21,22,24,26,29,36,37,1000008,1000010,1000012,1000018,1000035] (aN @ax (aN @rdd (aN @ho @lds))) ?_
  refine Ow.callFV rfl call93 (fun w' aA=>Kt (G.s k) (S.dir k).seen name w' (Gr.slW (hP.seen k hk) (fun b o h=>aA.has b o (cQ h)) fM) oM) ?_
  refine ko @ax ?_
  have p5: ∀n,aM (S.dir k).seen name=some n→lP (S.dir k).seen name=(n:Int):=fun n h=>by unfold lP;rw[h]
  have jX:aM (S.dir k).seen name=none→lP (S.dir k).seen name= -1:=fun h=>by unfold lP;rw[h]
  refine Cw.cutO (G:=Unit) [53,54,55,56,57,58] (fun g=> []) (fun g=>X) (fun g=>kind=0→aM (S.dir k).seen name=none) ?_ ?_
  ·by_cases k0:kind=0
   ·have e0: (kind==0)=true:=beq_iff_eq.2 k0
    cases cX:aM (S.dir k).seen name with
    |some n=>
     have e2:decide ((0:Int)≤lP (S.dir k).seen name)=true:=by rw[p5 n cX];exact aK oM
     rw[cX] at cD
     simp only[k0, ↓reduceIte] at cD
     refine ky (aN @ax (aN @e0 @e2)) ?_
     refine⟨_,(ke @ax), ?_⟩
     rw[p9 (by rw[k0,cD];simp),k0,cD]
     exact⟨Ext.refl w X,rfl,G,rfl,hP⟩
    |none=>
     have e2:decide ((0:Int)≤lP (S.dir k).seen name)=false:=by rw[jX cX];rfl
     refine ky (aN @ax (aN @e0 @e2)) ?_
     exact CutO.mk () (fun _=>rfl) rfl rfl
   have e0: (kind==0)=false:=beq_eq_false_iff_ne.2 k0
   refine ky (aN @ax @e0) ?_
   exact CutO.mk () (fun h=>absurd h k0) rfl rfl
  intro gv jgv hgv
  refine kv ?_
  refine Cw.cutO (G:=Unit) [59,60,61,62,63,64,65,66,67,68] (fun g=> []) (fun g=>X) (fun g=>kind≠0→kind≠3→aM (S.dir k).seen name≠none) ?_ ?_
  ·by_cases k0:kind=0
   ·have e0: (kind !=0)=false:=by rw[k0];rfl
    refine ky (aN @ax @e0) ?_
    exact CutO.mk () (fun h=>absurd k0 h) rfl rfl
   have e0: (kind !=0)=true:=bne_iff_ne.2 k0
   by_cases k3:kind=3
   ·have e3: (kind !=3)=false:=by rw[k3];rfl
    refine ky (aN @ax (aN @e0 @e3)) ?_
    exact CutO.mk () (fun _ h=>absurd k3 h) rfl rfl
   have e3: (kind !=3)=true:=bne_iff_ne.2 k3
   cases cX:aM (S.dir k).seen name with
   |none=>
    have e2:decide (lP (S.dir k).seen name<0)=true:=by rw[jX cX];rfl
    rw[cX] at cD
    simp only[k0,k3,ne_eq,not_false_eq_true,and_self, ↓reduceIte] at cD
    refine ky (aN @ax (aN @e0 (aN @e3 @e2))) ?_
    refine⟨_,(ke @ax), ?_⟩
    rw[p9 (by rw[cD];simp),cD]
    exact⟨Ext.refl w X,rfl,G,rfl,hP⟩
   |some n=>
    have e2:decide (lP (S.dir k).seen name<0)=false:=by rw[p5 n cX];exact aO oM
    refine ky (aN @ax (aN @e0 (aN @e3 @e2))) ?_
    exact CutO.mk () (fun _ _=>by simp) rfl rfl
  intro gx jgx yR
  refine kv ?_
  refine Cw.cutO (G:=Unit) [69,70,71,72,73,74,75,76,77,78,79,80,81,82,83,84,85,86,87,88,89,90,91,92,93,94,95,96,97] (fun g=> []) (fun g=>X) (fun g=>kind=1→ ∀n,aM (S.dir k).seen name=some n→jF S n s=false) ?_ ?_
  ·by_cases k1:kind=1
   ·subst k1
    have e1k: ((1:Int)==1)=true:=rfl
    obtain⟨n,cX⟩: ∃n,aM (S.dir k).seen name=some n:=by
     cases h:aM (S.dir k).seen name with
     |none=>exact absurd h (yR oM oM)
     |some n=>exact⟨n,rfl⟩
    have rG:=p5 n cX
    have cT:n<S.files.length:=ok.seenN k hk _ (iG cX)
    have cU:n< (S.files.map ck).length:=by rw[List.length_map];exact cT
    obtain⟨rf,rest,cf,hv,bQ,-⟩:=Gr.upd hP.files kw cU fd0
    have rdf:=aQ (w0:=w) bQ
    have ixf:i_ (.sl (true,2)) G.f (some (n:Int))=some (vp rf (n*2)):=by rw[hv,pS _ _ _ _ _ _ oM];simp
    have ld0:=fun y=>IF (E:=92) (rest:=rest) n cU y
    rw[sq] at ld0
    have ld0': ∀y,aG (some (false,y)) (some (cO fdC 92 rest (S.files.map ck))) (n*2)=some (vs (aE S n).data):=ld0
    clear ld0
    obtain⟨HJ,HK⟩:=sf ok cT
    have nH:jF S n s=(decide ((1048576:Int)< ((aE S n).data.length:Int)+ (s.length:Int)) ||decide (S.max< (ct S:Int)+ (s.length:Int))):=by
     unfold jF
     rw[Bool.eq_iff_iff]
     simp only[Bool.or_eq_true,decide_eq_true_eq]
     omega
    rw[rG]
    refine kz [12] @ax ?_
    cases ha:decide ((1048576:Int)< ((aE S n).data.length:Int)+ (s.length:Int)) with
    |true=>
     rw[ha,Bool.true_or] at nH
     have cD:preE S 1 dir name s=8:=by rw[cD,cX];simp[nH]
     refine Cw.regionS [G.bd,rf] [0,1,2,3,4,5,7,12,13,6,8,9,10,11,14,15,16,17,19,20,22,23,24,25,18,21,26,27,28] [] kR kR kR ?_
     simp only[ai, ↓ah, ↓ab, ↓ag, ↓ae,ac]
     refine kq (aN @ax (aN @e1k (aN @rdd (aN @rdf (aN @ixf (aN @ld0' @ha)))))) ?_
     refine ky @ax ?_
     refine⟨_,(ke @ax), ?_⟩
     rw[p9 (by rw[cD];simp),cD]
     exact⟨Ext.refl w X,rfl,G,rfl,hP⟩
    |false=>
     rw[ha,Bool.false_or] at nH
     refine Cw.regionS [G.bd,rf] [0,1,2,3,4,5,7,12,13,6,8,9,10,11,14,15,16,17,19,20,22,23,24,25,18,21,26,27,28] [] kR kR kR ?_
     simp only[ai, ↓ah, ↓ab, ↓ag, ↓ae,ac]
     refine kq (aN @ax (aN @e1k (aN @rdd (aN @rdf (aN @ixf (aN @ld0' @ha)))))) ?_
     refine Ow.soft rfl rfl rfl ?_
     refine Ow.callFV rfl call97 (fun w' aA=>R3 w' G S (hP.world aA) ok hB nS) ?_
     with_reducible refine Ow.nil ?_
     refine⟨by intro b hb;simp only[List.mem_cons,List.not_mem_nil,or_false] at hb;(try subst hb);rfl, ?_⟩
     cases hb:decide (S.max< (ct S:Int)+ (s.length:Int)) with
     |true=>
      rw[hb] at nH
      have cD:preE S 1 dir name s=8:=by rw[cD,cX];simp[nH]
      refine kq (aN @ax (aN @rdd @hb)) ?_
      refine ky @ax ?_
      refine⟨_,(ke @ax), ?_⟩
      rw[p9 (by rw[cD];simp),cD]
      exact⟨Ext.refl w X,rfl,G,rfl,hP⟩
     |false=>
      rw[hb] at nH
      refine kq (aN @ax (aN @rdd @hb)) ?_
      refine ky @ax ?_
      exact CutO.mk () (fun _ m hm=>by rw[cX] at hm;cases hm;exact nH) rfl rfl
   have e1k: (kind==1)=false:=beq_eq_false_iff_ne.2 k1
   refine kz [12] @ax ?_
   refine Cw.regionS [G.bd] [0,1,2,3,4,5,7,12,13,6,8,9,10,11,14,15,16,17,19,20,22,23,24,25,18,21,26,27,28] [] kR kR kR ?_
   simp only[ai, ↓ah, ↓ab, ↓ag, ↓ae,ac]
   refine kq (aN @ax @e1k) ?_
   refine ky @ax ?_
   exact CutO.mk () (fun h=>absurd h k1) rfl rfl
  intro gy jgy hgy
  refine kv ?_
  have hpe0:preE S kind dir name s=0:=by
   rw[cD]
   cases cX:aM (S.dir k).seen name with
   |none=>
    have: ¬(kind≠0∧kind≠3):=fun h=>yR h.1 h.2 cX
    simp only[this, ↓reduceIte]
   |some n=>
    have h0: ¬kind=0:=fun h=>by rw[hgv h] at cX;cases cX
    have h1: ¬ (kind=1∧jF S n s=true):=fun h=>by rw[hgy h.1 n cX] at h;cases h.2
    simp only[h0,h1, ↓reduceIte]
  rw[k9 hpe0]
  refine kz [21,22,24,26,29,36,37,1000018,1000035] @ax ?_
  refine Ow.callM rfl rfl call98 (bY hP.disk) (fun w' aA=>Pu G S w' ok.fuse (aA.has _ _ (cQ hP.disk))) ?_
  obtain⟨aW,aq,da⟩:=jA S
  have ap:=hP.setD (aH S).1 aW aq
  have cE:=(Ext.refl w X).setB (b:=G.bd) (o:=dcO G (aH S).1)
  have hkX:keys (setB X G.bd (dcO G (aH S).1))=keys X:=l5 _ _ _
  generalize sJ:setB X G.bd (dcO G (aH S).1)=X1 at*
  by_cases fW: (aH S).2=0
  ·have e2: (((aH S).2:Int) !=0)=false:=by rw[fW];rfl
   rw[if_neg (by rw[fW];simp)]
   refine ko (aN @ax @e2) ?_
   refine kz [21,22,24,26,29,36,37,1000018,1000035] (aN @ax @e2) ?_
   refine Ow.build (.agg (kcC ⟨-1,name,s,0⟩).toArray) rfl (SY (-1) name s) ?_
   refine ko @ax ?_
   refine Ow.alloc rfl rfl zrKc fun b15 ka pH=> ?_
   simp only[aS,List.nil_append,List.cons_append]
   have jz:b15∉keys X1:=fun hm=>by have:=ak ka hm;omega
   refine Ow.permL (M:=(b15, .cells (kcC kc0).toArray 130 (0,0))::X1) pM ?_
   refine ko @ax ?_
   have bE:DcP ((b15,Obj.cells (kcC ⟨-1,name,s,0⟩).toArray 130 (0,0))::X1) G (aH S).1:=ap.mono fun b o h=>o7 ka h
   have bZ:Ext w X ((b15,Obj.cells (kcC ⟨-1,name,s,0⟩).toArray 130 (0,0))::X1):=sd cE pH
   have ic:Sx.look ((b15,Obj.cells (kcC ⟨-1,name,s,0⟩).toArray 130 (0,0))::X1) b15=some (.cells (kcC ⟨-1,name,s,0⟩).toArray 130 (0,0)):=by simp[Sx.look]
   have xv: ∀ {E m n v cs},Gr X1 E m v n cs→slB v≠some b15:=fun h e=>jz (h.key e)
   have ol:slB (G.p k)≠some b15:=by
    obtain⟨pl,-,h⟩:=ap.pend k hk
    exact xv h
   have og:G.bd≠b15:=fun e=>jz (e▸bY ap.disk)
   have HP: ∀x b o,Sx.look X1 b=some o→Sx.look (setB ((b15,Obj.cells (kcC ⟨-1,name,s,0⟩).toArray 130 (0,0))::X1) b15 x) b=some o:=fun x b o h=>by
    rw[bR (by rintro rfl;exact jz (bY h))]
    exact o7 ka h
   generalize hX2: (b15,Obj.cells (kcC ⟨-1,name,s,0⟩).toArray 130 (0,0))::X1=X2 at*
   have hPc: ∀x,DcP (setB X2 b15 x) G (aH S).1:=fun x=>ap.mono (HP x)
   have yb: (aH S).1.dir=S.dir∧(aH S).1.files=S.files:=⟨aW,aq⟩
   have hact: ∀T,actV S kind dir name s=T→DoS G (actV S kind dir name s,0)=DoS G (T,0):=fun T h=>by rw[h]
   refine Cw.cutO (G:=DoG) [106,107,108,109,110,111,112,113,114,115,116,117,118,119,120,121,122,123,124,125,126,127,128,129,130,131,132,133,134,135,136,137,138,139,140,141,142,143,144,145,146,147,148,149,150,151,152,153,154,155,156,157,158,159,160,161,162,163,164,165,166,167,168,169,170,171,172,173,174,175,176,177,178,179,180,181,182,183,184] (fun g=> []) (fun g=>g.X) (fun g=>g.G.bd=G.bd∧DcP g.X g.G g.S∧Sx.look g.X b15=some (.cells (kcC g.c).toArray 130 (0,0))∧DoJ S (actV S kind dir name s) k g.c g.S∧Ext w X g.X∧slB (g.G.p k)≠some b15) ?_ ?_
   ·have h6:kind=0∨kind=1∨kind=2∨kind=3∨kind=4∨kind=5:=by omega
    have rd2:=aQ (w0:=w) bE.disk
    have rk15:=aQ (w0:=w) ic
    have A4: (bO dir).getD 0=k:=by rw[hw];rfl
    rcases h6 with rfl|rfl|rfl|rfl|rfl|rfl
    ·have z0: ((0:Int)==0)=true:=rfl
     have hnf: (S.files.map ck).length=S.files.length:=List.length_map ..
     have zd:Gr X2 92 2 G.f ((aH S).1.files.map ck).length (((aH S).1.files.map ck).map fdC).flatten:=bE.files
     rw[aq,hnf] at zd
     have aX:slB G.f≠some G.bd:=fun e=>by
      obtain⟨arr,ha⟩:=jD zd e
      rw[bE.disk] at ha
      have:=congrArg tyO (Option.some.inj ha)
      rw[gC] at this
      exact qX this
     have HZ:slB G.f≠some b15:=xv ap.files
     refine kz [21,22,36,37] (aN @ax (aN @z0 @rd2)) ?_
     refine Ow.build (.agg (fdC fd0).toArray) rfl TA ?_
     refine ko @ax ?_
     refine Ow.buildSlice (e:=92) (fdC fd0).toArray rfl rfl (gX underlying83 tc zrFd (by decide) (kw _)) fun ba lh im=> ?_
     refine ko @ax ?_
     refine Ow.appendG (e:=92) (k:=1) (new:=fdC fd0) G.f rfl rfl rfl underlying83 tc kR zrFd (by rw[IX,List.size_toArray,kw]) underlying83 (by intro k h;cases h) zd.app (fun w' aA=>AppX.one1 (aA.has ba (.cells (fdC fd0).toArray 92 (0,0)) (by simp)) (kw _) (FO _)) (kw _) oM (fun v2 L2 dE _ kg eA=> ?_)
     have ll:Sx.look L2 G.bd=some (dcO G (aH S).1):=kg.look _ _ aX (az bE.disk)
     have Gc:Sx.look L2 b15=some (.cells (kcC ⟨-1,name,s,0⟩).toArray 130 (0,0)):=kg.look _ _ HZ (az ic)
     have nP:=aQ (w0:=w) ll
     have st:=fun x=>DC G (aH S).1 x dE.cell
     have lY:=(bZ.app (o:= .cells (fdC fd0).toArray 92 (0,0)) im).grew kg
     refine ko (aN @ax (aN @ll (aN @nP (aN @st @lz)))) ?_
     have u':Sx.look (setB L2 G.bd (dcO {G with f:=v2} (aH S).1)) G.bd=some (dcO {G with f:=v2} (aH S).1):=dp ll
     have xr:Sx.look (setB L2 G.bd (dcO {G with f:=v2} (aH S).1)) b15=some (.cells (kcC ⟨-1,name,s,0⟩).toArray 130 (0,0)):=by rw[bR og];exact Gc
     have Hn:=aQ (w0:=w) xr
     have aj: ∀b o,b≠G.bd→Sx.look L2 b=some o→Sx.look (setB L2 G.bd (dcO {G with f:=v2} (aH S).1)) b=some o:=fun b o hb ho=>by rw[bR (Ne.symm hb)];exact ho
     have cj:=lY.setB (b:=G.bd) (o:=dcO {G with f:=v2} (aH S).1)
     generalize setB L2 G.bd (dcO {G with f:=v2} (aH S).1)=L3 at*
     refine kz [22,36,37] (aN @ax (aN @xr (aN @Hn @lz))) ?_
     have HE:Sx.look (setB L3 b15 (.cells (kcC ⟨0,name,s,0⟩).toArray 130 (0,0))) G.bd=some (dcO {G with f:=v2} (aH S).1):=by rw[bR (Ne.symm og)];exact u'
     have xu:Sx.look (setB L3 b15 (.cells (kcC ⟨0,name,s,0⟩).toArray 130 (0,0))) b15=some (.cells (kcC ⟨0,name,s,0⟩).toArray 130 (0,0)):=dp xr
     have J':=aQ (w0:=w) HE
     have Ho:=aQ (w0:=w) xu
     have ln2:=dE.len
     have es: ((S.files.length+1:Nat):Int) - 1=(S.files.length:Int):=by omega
     refine ky (aN @ax (aN @J' (aN @ln2 (aN @es (aN @xu (aN @Ho @lz)))))) ?_
     refine CutO.mk ⟨⟨0,name,s,(S.files.length:Int)⟩,eH (aH S).1 cg,{G with f:=v2},setB (setB L3 b15 (.cells (kcC ⟨0,name,s,0⟩).toArray 130 (0,0))) b15 (.cells (kcC ⟨0,name,s,(S.files.length:Int)⟩).toArray 130 (0,0))⟩ ⟨rfl, ?_,dp xu, .inr ⟨aW,⟨0,name,s,S.files.length⟩,rfl,by unfold actV;simp[A4,jC],(by show(0:Nat)<3;decide),fun h=>by cases h⟩,cj.setB.setB,ol⟩ rfl rfl
     have zw: ∀b o,b≠b15→Sx.look L3 b=some o→Sx.look (setB (setB L3 b15 (.cells (kcC ⟨0,name,s,0⟩).toArray 130 (0,0))) b15 (.cells (kcC ⟨0,name,s,(S.files.length:Int)⟩).toArray 130 (0,0))) b=some o:=fun b o hb ho=>by
      rw[bR (Ne.symm hb),bR (Ne.symm hb)];exact ho
     refine DcP.updF (G:=G) ap (v:=v2) (fl:=(aH S).1.files++ [cg]) (fun b o hb hf ho=> ?_) ?_ ?_
     ·exact zw b o (by rintro rfl;exact jz (bY ho)) (aj b o hb (kg.look _ _ hf (az (by rw[←hX2];exact o7 ka ho))))
     ·exact zw _ _ og u'
     have p_:Gr L2 92 2 v2 (((aH S).1.files++ [cg]).map ck).length ((((aH S).1.files++ [cg]).map ck).map fdC).flatten:=by
      have Jp:ck cg=fd0:=rfl
      rw[aq]
      simpa [Jp] using dE
     refine p_.keep fun b o hb ho=> ?_
     obtain⟨arr,ha⟩:=jD p_ hb
     refine zw b o ?_ (aj b o ?_ ho)
     ·rintro rfl
      rw[Gc] at ha
      have:=congrArg tyO (Option.some.inj ha)
      exact Fx this
     rintro rfl
     rw[ll] at ha
     have:=congrArg tyO (Option.some.inj ha)
     rw[gC] at this
     exact qX this
    ·have z0: ((1:Int)==0)=false:=rfl
     have z1: ((1:Int)==1)=true:=rfl
     obtain⟨n,cX⟩: ∃n,aM (S.dir k).seen name=some n:=by
      cases h:aM (S.dir k).seen name with
      |none=>exact absurd h (yR (by decide) (by decide))
      |some n=>exact⟨n,rfl⟩
     have rG:=p5 n cX
     rw[cX] at kY
     have cT:n<S.files.length:=ok.seenN k hk _ (iG cX)
     have cU:n< (S.files.map ck).length:=by rw[List.length_map];exact cT
     obtain⟨HJ,HK⟩:=sf ok cT
     obtain⟨rf,rest,cf,hv,bQ,ik⟩:=Gr.upd hP.files kw cU (ck ⟨(aE S n).data++s,(aE S n).stl⟩)
     have dv:Sx.look X2 rf=some (cO fdC 92 rest (S.files.map ck)):=by
      have h1:Sx.look X1 rf=some (cO fdC 92 rest (S.files.map ck)):=by
       rw[←sJ,bR (by rintro rfl;rw[hP.disk] at bQ;have:=congrArg tyO (Option.some.inj bQ);rw[gC] at this;exact qX this)]
       exact bQ
      rw[←hX2];exact o7 ka h1
     have rdf:=aQ (w0:=w) dv
     have ixf:i_ (.sl (true,2)) G.f (some (n:Int))=some (vp rf (n*2)):=by rw[hv,pS _ _ _ _ _ _ oM];simp
     have ld0:=fun y=>IF (E:=92) (rest:=rest) n cU y
     rw[sq] at ld0
     have ld0': ∀y,aG (some (false,y)) (some (cO fdC 92 rest (S.files.map ck))) (n*2)=some (vs (aE S n).data):=ld0
     clear ld0
     have st:=fun(a:Bool)=>KJ_ (E:=92) (rest:=rest) n cU ((aE S n).data++s) a
     rw[sq] at st
     have st': ∀a,ad (some (a,1)) (some (cO fdC 92 rest (S.files.map ck))) (n*2) (vs ((aE S n).data++s))=some (cO fdC 92 rest ((S.files.map ck).set n (ck ⟨(aE S n).data++s,(aE S n).stl⟩))):=st
     clear st
     rw[rG]
     refine kz [21,22,24,26,29,36,37] (aN @ax (aN @z0 @z1)) ?_
     refine Cw.regionO [0,1,2,4,5,6,7,9,13,3,8,10,11,12,14,15,16,17] [17] rfl kR kR ?_
     simp only[ai, ↓ah, ↓ab, ↓ag, ↓ae,ac]
     refine kq (aN @ax (aN @rd2 (aN @rdf (aN @ixf (@ld0'))))) ?_
     refine Ow.store rfl rfl rfl (ke (aN @ax (aN @dv (@st')))) ?_
     refine ko @ax ?_
     refine ky @ax ?_
     refine CutO.mk ⟨⟨-1,name,s,0⟩,eG (aH S).1 n ⟨(aE S n).data++s,(aE S n).stl⟩,G,setB X2 rf (cO fdC 92 rest ((S.files.map ck).set n (ck ⟨(aE S n).data++s,(aE S n).stl⟩)))⟩ ⟨rfl, ?_, ?_, .inl ⟨rfl,by unfold actV;simp[kY]⟩,bZ.setB,ol⟩ rfl rfl
     ·have zq:G.f=G.f:=rfl
      refine DcP.updF (G:=G) bE (v:=G.f) (fun b o hb hf ho=> ?_) ?_ ?_
      ·rw[bR (by rintro rfl;exact hf (by rw[hv];rfl))];exact ho
      ·rw[bR (by rintro e;rw[e,bE.disk] at dv;have:=congrArg tyO (Option.some.inj dv);rw[gC] at this;exact qX this)];exact bE.disk
      show Gr _ _ _ _ _ _
      rw[aq,List.map_set]
      exact ik _ (dp dv)
     rw[bR (fun e=>jz (by rw[←e,←sJ,l5];exact bY bQ))];exact ic
    ·have z0: ((2:Int)==0)=false:=rfl
     have z1: ((2:Int)==1)=false:=rfl
     have z2: ((2:Int)==2)=true:=rfl
     obtain⟨n,cX⟩: ∃n,aM (S.dir k).seen name=some n:=by
      cases h:aM (S.dir k).seen name with
      |none=>exact absurd h (yR (by decide) (by decide))
      |some n=>exact⟨n,rfl⟩
     have rG:=p5 n cX
     rw[cX] at kY
     have cT:n<S.files.length:=ok.seenN k hk _ (iG cX)
     have cU:n< (S.files.map ck).length:=by rw[List.length_map];exact cT
     obtain⟨HJ,HK⟩:=sf ok cT
     obtain⟨rf,rest,cf,hv,bQ,ik⟩:=Gr.upd hP.files kw cU (ck ⟨(aE S n).data,(aE S n).data.length⟩)
     have dv:Sx.look X2 rf=some (cO fdC 92 rest (S.files.map ck)):=by
      have h1:Sx.look X1 rf=some (cO fdC 92 rest (S.files.map ck)):=by
       rw[←sJ,bR (by rintro rfl;rw[hP.disk] at bQ;have:=congrArg tyO (Option.some.inj bQ);rw[gC] at this;exact qX this)]
       exact bQ
      rw[←hX2];exact o7 ka h1
     have rdf:=aQ (w0:=w) dv
     have ixf:i_ (.sl (true,2)) G.f (some (n:Int))=some (vp rf (n*2)):=by rw[hv,pS _ _ _ _ _ _ oM];simp
     have ld0:=fun y=>IF (E:=92) (rest:=rest) n cU y
     rw[sq] at ld0
     have ld0': ∀y,aG (some (false,y)) (some (cO fdC 92 rest (S.files.map ck))) (n*2)=some (vs (aE S n).data):=ld0
     clear ld0
     have st:=fun(a:Bool)=>Ku_ (E:=92) (rest:=rest) n cU ((aE S n).data.length:Int) a
     rw[sq] at st
     have st': ∀a,ad (some (a,1)) (some (cO fdC 92 rest (S.files.map ck))) (n*2+1) (vi ((aE S n).data.length:Int))=some (cO fdC 92 rest ((S.files.map ck).set n (ck ⟨(aE S n).data,(aE S n).data.length⟩))):=st
     clear st
     rw[rG]
     refine kz [21,22,24,26,29,36,37] (aN @ax (aN @z0 (aN @z1 @z2))) ?_
     refine Cw.regionO [0,1,2,4,5,6,7,9,3,8,10,11,12,13,14,15,16] [16] rfl kR kR ?_
     simp only[ai, ↓ah, ↓ab, ↓ag, ↓ae,ac]
     refine kq (aN @ax (aN @rd2 (aN @rdf (aN @ixf (@ld0'))))) ?_
     refine Ow.store rfl rfl rfl (ke (aN @ax (aN @dv (@st')))) ?_
     refine ko @ax ?_
     refine ky @ax ?_
     refine CutO.mk ⟨⟨-1,name,s,0⟩,eG (aH S).1 n ⟨(aE S n).data,(aE S n).data.length⟩,G,setB X2 rf (cO fdC 92 rest ((S.files.map ck).set n (ck ⟨(aE S n).data,(aE S n).data.length⟩)))⟩ ⟨rfl, ?_, ?_, .inl ⟨rfl,by unfold actV;simp[kY]⟩,bZ.setB,ol⟩ rfl rfl
     ·have zq:G.f=G.f:=rfl
      refine DcP.updF (G:=G) bE (v:=G.f) (fun b o hb hf ho=> ?_) ?_ ?_
      ·rw[bR (by rintro rfl;exact hf (by rw[hv];rfl))];exact ho
      ·rw[bR (by rintro e;rw[e,bE.disk] at dv;have:=congrArg tyO (Option.some.inj dv);rw[gC] at this;exact qX this)];exact bE.disk
      show Gr _ _ _ _ _ _
      rw[aq,List.map_set]
      exact ik _ (dp dv)
     rw[bR (fun e=>jz (by rw[←e,←sJ,l5];exact bY bQ))];exact ic
    ·have z0: ((3:Int)==0)=false:=rfl
     have z1: ((3:Int)==1)=false:=rfl
     have z2: ((3:Int)==2)=false:=rfl
     have z3: ((3:Int)==3)=true:=rfl
     have ldk:=fun n=>ry G (aH S).1 hk n
     have st1:=fun x=>Le G (aH S).1 hk x (Gr.cell (bE.seen k hk))
     have fq:Sx.look (setB X2 G.bd (dcO (ed G k (G.s k)) (aH S).1)) G.bd=some (dcO (ed G k (G.s k)) (aH S).1):=dp bE.disk
     have rl1:=aQ (w0:=w) fq
     have st2:=fun x=>LC (ed G k (G.s k)) (aH S).1 hk x (q:= .slice none 0 0) ⟨rfl,rfl⟩
     ((try with_reducible refine Cw.go [21,22,29,36,37] ?_);(try simp(disch:=first|exact dD|fail) only[↓Sx.S0,Sx.S1,fx,ax,Nat.reduceAdd,Nat.reducePow,Int.reducePow,Nat.reduceBEq, ↓reduceIte,UInt8.reduceToNat,UInt16.reduceToNat,UInt32.reduceToNat,UInt64.reduceToNat,Int.reduceToNat,z0,z1,z2,z3,bE.disk,rd2,ldk,st1,lz]))
     refine ky (aN @ax (aN @fq (aN @rl1 (aN @st2 @lz)))) ?_
     refine CutO.mk ⟨⟨-1,name,s,0⟩,mh (aH S).1 k,df (ed G k (G.s k)) k (.slice none 0 0),setB (setB X2 G.bd (dcO (ed G k (G.s k)) (aH S).1)) G.bd (dcO (df (ed G k (G.s k)) k (.slice none 0 0)) (aH S).1)⟩ ⟨rfl, ?_, ?_, .inl ⟨rfl,by unfold actV;simp[A4]⟩,bZ.setB.setB,(by show slB ((df (ed G k (G.s k)) k (.slice none 0 0)).p k)≠some b15;simp[df,slB])⟩ rfl rfl
     ·refine bE.upd rfl (fun b o hb ho=>by rw[bR (Ne.symm hb),bR (Ne.symm hb)];exact ho) (dp fq) (fun j hj=> .inl ⟨rfl,AA _ _ _⟩) (fun j hj=> ?_) (fun j hj=> ?_) ⟨rfl,rfl⟩
      ·by_cases e:j=k
       ·subst e
        refine .inr ?_
        rw[show(df (ed G j (G.s j)) j (.slice none 0 0)).t j=G.s j by simp[df,ed],show((mh (aH S).1 j).dir j).stl=((aH S).1.dir j).seen by unfold mh;rw[iz]]
        exact Gr.keepTy (bE.seen j hj) bE.disk (by rw[gC];exact po) fun b o hb ho=>by rw[bR (Ne.symm hb),bR (Ne.symm hb)];exact ho
       exact .inl ⟨by simp[df,ed,e],by unfold mh;rw[jM _ _ e]⟩
      by_cases e:j=k
      ·subst e
       exact .inr ⟨by simp[df],by unfold mh;rw[iz]⟩
      exact .inl ⟨by simp[df,ed,e],by unfold mh;rw[jM _ _ e]⟩
     rw[bR og,bR og];exact ic
    ·have z0: ((4:Int)==0)=false:=rfl
     have z1: ((4:Int)==1)=false:=rfl
     have z2: ((4:Int)==2)=false:=rfl
     have z3: ((4:Int)==3)=false:=rfl
     have z4: ((4:Int)==4)=true:=rfl
     by_cases dj:name=s
     ·have e5: (name !=s)=false:=by rw[dj];exact bne_self_eq_false _
      refine ky (aN @ax (aN @z0 (aN @z1 (aN @z2 (aN @z3 (aN @z4 @e5)))))) ?_
      exact CutO.mk ⟨⟨-1,name,s,0⟩,(aH S).1,G,X2⟩ ⟨rfl,bE,ic, .inl ⟨rfl,by unfold actV;simp[dj]⟩,bZ,ol⟩ rfl rfl
     have e5: (name !=s)=true:=bne_iff_ne.2 dj
     refine ky (aN @ax (aN @z0 (aN @z1 (aN @z2 (aN @z3 (aN @z4 (aN @e5 (aN @ic @rk15)))))))) ?_
     exact CutO.mk ⟨⟨1,name,s,0⟩,(aH S).1,G,setB X2 b15 (.cells (kcC ⟨1,name,s,0⟩).toArray 130 (0,0))⟩ ⟨rfl,hPc _,dp ic, .inr ⟨aW,⟨1,name,s,0⟩,rfl,by unfold actV;simp[dj,A4,jC],(by show(1:Nat)<3;decide),fun _=>by show aM ((aH S).1.dir k).seen name≠none;rw[aW];exact yR (by decide) (by decide)⟩,bZ.setB,ol⟩ rfl rfl
    have z0: ((5:Int)==0)=false:=rfl
    have z1: ((5:Int)==1)=false:=rfl
    have z2: ((5:Int)==2)=false:=rfl
    have z3: ((5:Int)==3)=false:=rfl
    have z4: ((5:Int)==4)=false:=rfl
    have z5: ((5:Int)==5)=true:=rfl
    refine ky (aN @ax (aN @z0 (aN @z1 (aN @z2 (aN @z3 (aN @z4 (aN @z5 (aN @ic @rk15)))))))) ?_
    exact CutO.mk ⟨⟨2,name,s,0⟩,(aH S).1,G,setB X2 b15 (.cells (kcC ⟨2,name,s,0⟩).toArray 130 (0,0))⟩ ⟨rfl,hPc _,dp ic, .inr ⟨aW,⟨2,name,s,0⟩,rfl,by unfold actV;simp[A4,jC],(by show(2:Nat)<3;decide),fun h=>by cases h⟩,bZ.setB,ol⟩ rfl rfl
   intro g j hg
   refine kv ?_
   clear ap cE bE bZ ic hPc HP xv
   obtain⟨c,S3,G3,X3⟩:=g
   simp only at hg ⊢
   obtain⟨oz,j4,aj,hJ,lY,H3⟩:=hg
   have rk3:=aQ (w0:=w) aj
   rcases hJ with⟨hc,hT⟩ | ⟨rD,d,rfl,hT,u',qC⟩
   ·have e5:decide ((0:Int)≤c.kind)=false:=by rw[hc];rfl
    refine ky (aN @ax (aN @rk3 @e5)) ?_
    refine⟨_,(ke @ax), ?_⟩
    rw[←hT]
    exact⟨lY,rfl,G3,oz,j4⟩
   have HQ: (kcOf d).kind=(d.kind:Int):=rfl
   have e5:decide ((0:Int)≤ (d.kind:Int))=true:=aK oM
   have rd3:=aQ (w0:=w) j4.disk
   have ls3:=fun n=>ry G3 S3 hk n
   have hsl3: (S3.dir k).seen.length<999999999:=by rw[rD];omega
   have hpl3: (S3.dir k).pend.length<1000000:=by rw[rD];exact fc k hk
   rw[←oz]
   refine kz [36,37] (aN @ax (aN @rk3 (aN @HQ @e5))) ?_
   refine Cw.regionG [G3.bd,b15] [9] 10 kR rfl ?_
   simp only[List.replicate_succ,List.replicate_zero]
   refine OwG.run [0,1,2,3,4,5] [true,true,true,true,true,true,false,false,false,false] 4 rfl kR kR fun k hk=> ?_
   simp only[ai, ↓ah, ↓ab, ↓ag, ↓ae,ac]
   simp(disch:=first|exact dD|fail) only[↓Sx.S0,Sx.S1,fx,ax,Nat.reduceAdd,Nat.reducePow,Int.reducePow,Nat.reduceBEq, ↓reduceIte,UInt8.reduceToNat,UInt16.reduceToNat,UInt32.reduceToNat,UInt64.reduceToNat,Int.reduceToNat,Md.next_sofnil,rd3,ls3,rk3]
   (with_reducible refine hk _ _ _ ?_);clear hk k
   refine OwG.one 6 _ kR rfl ?_
   refine Ow.callC rfl rfl call63 (fun w' aA=>Bh (G3.s k) (S3.dir k).seen d w' (Gr.slW (j4.seen k hk) (fun b o h=>aA.has b o (cQ h)) fM) hsl3 qC) (fun B6 v6 D6 qz ni fD r4=> ?_)
   have lc:=fD.mono ni
   have sL:Sx.look (X3++D6) G3.bd=some (dcO G3 S3):=az j4.disk
   have st6:=fun x=>Lh G3 S3 hk x (E6 r4)
   with_reducible refine Ow.nil ?_
   refine⟨(vn (fun r hr=>by simp only[List.mem_cons,List.not_mem_nil,or_false] at hr;rcases hr with rfl|rfl;exact bY j4.disk;exact bY aj)), ?_⟩
   simp only[List.set_cons_zero,List.set_cons_succ,pN,mT,mW]
   refine OwG.rest [7,8,9] rfl kR kR ?_
   simp only[ai, ↓ah, ↓ab, ↓ag, ↓ae,ac]
   refine kq @ax ?_
   refine Ow.store rfl rfl rfl (ke (aN @ax (aN @sL @st6))) ?_
   refine ko @ax ?_
   refine Cw.world fun wz fP=> ?_
   have bA:=fP.nodup
   clear fP wz
   rw[l5] at bA
   obtain⟨Xs,zj,zg⟩:=r4
   have ow:NdP (X3++D6) v6 (ci (S3.dir k).seen d):=zg.keep fun b o _ ho=>zI bA (dJ _ (zj _ (cQ ho)))
   obtain⟨pl,sU,hGp⟩:=j4.pend k hk
   have hpll:pl.length=(S3.dir k).pend.length:=by have:=congrArg List.length sU;simpa using this
   have Gh:KcP (X3++D6) (G3.p k) pl:=hGp.keep fun b o _ ho=>az ho
   have ns:Sx.look (X3++D6) b15=some (.cells (kcC (kcOf d)).toArray 130 (0,0)):=az aj
   have mE:Ext w X (setB (X3++D6) G3.bd (dcO (bz G3 k v6) S3)):=Ext.setB ⟨fun c hc=>by
    rw[ao] at hc
    rcases List.mem_append.1 hc with hc|hc
    ·exact lY.new c hc
    exact .inr (lc.le c hc),fun c hc=>by rw[ao];exact cz _ (lY.all c hc)⟩
   have rB:Sx.look (setB (X3++D6) G3.bd (dcO (bz G3 k v6) S3)) G3.bd=some (dcO (bz G3 k v6) S3):=dp sL
   have Ju:Sx.look (setB (X3++D6) G3.bd (dcO (bz G3 k v6) S3)) b15=some (.cells (kcC (kcOf d)).toArray 130 (0,0)):=by rw[bR (fun e=>og (oz.symm.trans e))];exact ns
   have Gy:NdP (setB (X3++D6) G3.bd (dcO (bz G3 k v6) S3)) v6 (ci (S3.dir k).seen d):=Gr.keepTy ow sL (by rw[gC];exact po) fun b o hb ho=>by rw[bR (Ne.symm hb)];exact ho
   have xz:KcP (setB (X3++D6) G3.bd (dcO (bz G3 k v6) S3)) (G3.p k) pl:=Gr.keepTy Gh sL (by rw[gC];exact oP) fun b o hb ho=>by rw[bR (Ne.symm hb)];exact ho
   have hkp8: ∀b o,b≠G3.bd→Sx.look X3 b=some o→Sx.look (setB (X3++D6) G3.bd (dcO (bz G3 k v6) S3)) b=some o:=fun b o hb ho=>by rw[bR (Ne.symm hb)];exact az ho
   have HR: ∀b,b∈keys X3→b∈keys (setB (X3++D6) G3.bd (dcO (bz G3 k v6) S3)):=fun b hb=>by rw[l5,ao];exact cz _ hb
   clear bA ow Gh ns sL zg zj
   generalize setB (X3++D6) G3.bd (dcO (bz G3 k v6) S3)=L4 at*
   have rd7:=aQ (w0:=w) rB
   have rk7:=aQ (w0:=w) Ju
   have lp7: ∀n,aG (some (false,n)) (some (dcO (bz G3 k v6) S3)) (k*3+2)=some (G3.p k):=fun n=>E8 (bz G3 k v6) S3 hk n
   refine kz [37] @ax ?_
   refine Cw.regionG [G3.bd,b15] [10] 11 kR rfl ?_
   simp only[List.replicate_succ,List.replicate_zero]
   refine OwG.run [0,1,2,3,4,5] [true,true,true,true,true,true,false,false,false,false,false] 5 rfl kR kR fun k hk=> ?_
   simp only[ai, ↓ah, ↓ab, ↓ag, ↓ae,ac]
   simp(disch:=first|exact dD|fail) only[↓Sx.S0,Sx.S1,fx,ax,Nat.reduceAdd,Nat.reducePow,Int.reducePow,Nat.reduceBEq, ↓reduceIte,UInt8.reduceToNat,UInt16.reduceToNat,UInt32.reduceToNat,UInt64.reduceToNat,Int.reduceToNat,Md.next_sofnil,rd7,lp7,rk7]
   (with_reducible refine hk _ _ _ ?_);clear hk k
   refine OwG.one 6 _ kR rfl ?_
   refine Ow.buildSlice (e:=130) (kcC (kcOf d)).toArray rfl rfl (gX underlying85 GR zrKc (by decide) (sy _)) fun bp zl IB=> ?_
   have hR9: ∀r,r∈ [G3.bd,b15]→r∈keys L4:=fun r hr=>by simp only[List.mem_cons,List.not_mem_nil,or_false] at hr;rcases hr with rfl|rfl;exact bY rB;exact bY Ju
   with_reducible refine Ow.nil ?_
   refine⟨(vn hR9), ?_⟩
   simp only[List.set_cons_zero,List.set_cons_succ,pN,mT,mW]
   refine OwG.one 7 _ kR rfl ?_
   refine Ow.appendG (e:=130) (k:=1) (new:=kcC (kcOf d)) (G3.p k) rfl rfl rfl underlying85 GR kR zrKc (by rw[wU,List.size_toArray,sy]) underlying85 (by intro k h;cases h) xz.app (fun w' aA=>AppX.one1 (aA.has bp (.cells (kcC (kcOf d)).toArray 130 (0,0)) (by simp)) (sy _) (FD _)) (sy _) (by rw[List.length_map,hpll];omega) (fun v7 L5 u6 _ Js hs7=> ?_)
   have p7:slB (G3.p k)≠some G3.bd:=fun e=>by
    obtain⟨arr,ha⟩:=jD xz e
    rw[rB] at ha
    have:=congrArg tyO (Option.some.inj ha)
    rw[gC] at this
    exact oP this
   have Jm:Sx.look L5 G3.bd=some (dcO (bz G3 k v6) S3):=Js.look _ _ p7 (az rB)
   have rd9:=aQ (w0:=w) Jm
   have st9:=fun x=>LC (bz G3 k v6) S3 hk x u6.cell
   have hk9:Sx.look L5 b15=some (.cells (kcC (kcOf d)).toArray 130 (0,0)):=Js.look _ _ (fun e=>by
    exact H3 e) (az Ju)
   with_reducible refine Ow.nil ?_
   refine⟨(fun r hr=>by simp only[List.mem_cons,List.not_mem_nil,or_false] at hr;rcases hr with rfl|rfl;exact rd9.trans (aQ (az rB)).symm;exact(aQ hk9).trans (aQ (az Ju)).symm), ?_⟩
   simp only[List.set_cons_zero,List.set_cons_succ,pN,mT,mW]
   refine OwG.rest [8,9,10] rfl kR kR ?_
   simp only[ai, ↓ah, ↓ab, ↓ag, ↓ae,ac]
   refine kq @ax ?_
   refine Ow.store rfl rfl rfl (ke (aN @ax (aN @Jm @st9))) ?_
   refine ko @ax ?_
   refine ky @ax ?_
   refine⟨_,(ke @ax), ?_⟩
   rw[hT]
   have hEf:=((mE.app (o:= .cells (kcC (kcOf d)).toArray 130 (0,0)) IB).grew Js).setB (b:=G3.bd) (o:=dcO (df (bz G3 k v6) k v7) S3)
   have hkf: ∀b o,b≠G3.bd→slB (G3.p k)≠some b→Sx.look L4 b=some o→Sx.look (setB L5 G3.bd (dcO (df (bz G3 k v6) k v7) S3)) b=some o:=fun b o hb hf ho=>by
    rw[bR (Ne.symm hb)];exact Js.look _ _ hf (az ho)
   have hPf:DcP (setB L5 G3.bd (dcO (df (bz G3 k v6) k v7) S3)) (df (bz G3 k v6) k v7) (dY S3 k ⟨ci (S3.dir k).seen d,(S3.dir k).stl,(S3.dir k).pend++ [jC d]⟩):=by
    refine j4.updP hk (pl:=pl) (pl':=pl++ [d]) hGp (fun b o hb hf ho=>hkf b o hb hf (hkp8 b o hb ho)) (dp Jm) ?_ ?_ ?_ ?_
    ·exact Gr.keep2 Gy xz xO rB (by rw[gC];exact po) hkf
    ·have Jb:KcP L5 v7 (pl++ [d]):=by
      unfold KcP
      simpa using u6
     exact Gr.keepTy Jb Jm (by rw[gC];exact oP) fun b o hb ho=>by rw[bR (Ne.symm hb)];exact ho
    ·rw[List.map_append,List.map_append,sU]
     simp[SM]
    intro b hb
    rcases hs7 with h| ⟨c,h,gR⟩
    ·exact .inl (by rw[←h];exact hb)
    right
    rw[h] at hb
    cases hb
    intro hm
    have:=ak gR (b:=b) (by rw[ao];exact cz _ (HR _ hm))
    omega
   refine⟨hEf,rfl,df (bz G3 k v6) k v7,oz, ?_⟩
   unfold gd
   rw[LR]
   exact hPf
  have e2:=kF fW
  rw[if_pos fW]
  refine ko (aN @ax @e2) ?_
  refine ky (aN @ax @e2) ?_
  refine⟨_,(ke @ax), ?_⟩
  exact⟨cE,rfl,G,rfl,ap⟩
structure OcG where
 i:Nat
 S:DiskL
 G:DcG
 X:aB
def ofN (l:List FiL) (q:Int) (i:Nat):DiskL:=(l.take i).foldl cP (dI q)
def Ej (l:List FiL) (q:Int) {i:Nat} (h:i<l.length):ofN l q (i+1)=cP (ofN l q i) (l.getD i fi0):=by
 unfold ofN
 rw[StP.take_snoc (z:=fi0) h,List.foldl_append];rfl
def C3 (S:DiskL) (f:FiL) {n:Nat} (h:S.files.length≤n∧ ∀k,(S.dir k).seen.length≤n): (cP S f).files.length≤n+1∧ ∀k,((cP S f).dir k).seen.length≤n+1:=by
 unfold cP
 split
 ·rename_i k _
  split
  ·refine⟨?_,fun j=> ?_⟩
   ·show(S.files++ [_]).length≤n+1
    rw[List.length_append];simp;exact h.1
   by_cases e:j=k
   ·subst e
    rw[iz]
    have:=J3 (S.dir j).seen (f.name,S.files.length)
    have:=h.2 j
    show(f5 _ _).length≤n+1
    omega
   rw[jM _ _ e]
   have:=h.2 j
   show(S.dir j).seen.length≤n+1
   omega
  exact⟨Nat.le_succ_of_le h.1,fun k=>Nat.le_succ_of_le (h.2 k)⟩
 exact⟨Nat.le_succ_of_le h.1,fun k=>Nat.le_succ_of_le (h.2 k)⟩
def j0 (S:DiskL) (k:Nat):DiskL:={S with dir:=fun j=>if j<k then⟨(S.dir j).seen,(S.dir j).seen,[]⟩ else S.dir j}
def Zn (S:DiskL):j0 S 0=S:=by
 unfold j0
 simp
def Zp {S:DiskL} (_h: ∀k,(S.dir k).pend= []∧(S.dir k).stl= []):j0 S 3=setV S [0,1,2]:=by
 unfold j0 setV
 congr 1
 funext j
 by_cases e:j<3
 ·rw[if_pos e,if_pos (by
   have:j=0∨j=1∨j=2:=by omega
   rcases this with rfl|rfl|rfl<;>simp)]
 rw[if_neg e,if_neg (by simp;omega)]
def Su {S:DiskL} (h: ∀k,(S.dir k).pend= []∧(S.dir k).stl= []) (k j:Nat): ((j0 S (k+1)).dir j).seen=((j0 S k).dir j).seen∧((j0 S (k+1)).dir j).pend=((j0 S k).dir j).pend∧(j≠k→((j0 S (k+1)).dir j).stl=((j0 S k).dir j).stl)∧((j0 S (k+1)).dir k).stl=((j0 S k).dir k).seen:=by
 have hp:=(h j).1
 unfold j0
 simp only
 refine⟨?_, ?_,fun e=> ?_, ?_⟩
 ·split<;>split<;>first|rfl|omega
 ·split<;>split<;>first|rfl|omega| (rw[hp])
 ·split<;>split<;>first|rfl|omega
 rw[if_pos (Nat.lt_succ_self k),if_neg (Nat.lt_irrefl k)]
def DcP.updS {X L:aB} {G:DcG} {S:DiskL} (h:DcP X G S) {k:Nat} (hk:k<3) {sv:Value} {sn:NmL} (keep: ∀b o,b≠G.bd→Sx.look X b=some o→Sx.look L b=some o) (hd:Sx.look L G.bd=some (dcO (bz G k sv) S)) (hs:NdP L sv sn):DcP L (bz G k sv) (dY S k ⟨sn,(S.dir k).stl,(S.dir k).pend⟩):=
 h.upd rfl keep hd (fun j hj=>by
  by_cases e:j=k
  ·subst e
   right
   rw[iz,show(bz G j sv).s j=sv by simp[bz]]
   exact hs
  exact .inl ⟨by simp[bz,e],by rw[jM _ _ e]⟩) (fun j hj=> .inl ⟨rfl,by
  by_cases e:j=k
  ·subst e;rw[iz]
  ·rw[jM _ _ e]⟩) (fun j hj=> .inl ⟨rfl,by
  by_cases e:j=k
  ·subst e;rw[iz]
  rw[jM _ _ e]⟩) ⟨rfl,rfl⟩
def fh:=aN (aN (aN @av @au) (aN @wE @wK)) (aN (aN @wM @wC) (aN @IX @sc))
def UU (quota:Int) (v:Value) (l:List FiL) (w:World) (_hq: -9223372036854775808≤quota∧quota<9223372036854775808) (hv:FiSl w v l) (hl:l.length<1000000) (hb:FiB l):
  Rets prog 8 #[vi quota,v] w (XS w [] (fun v D=> ∃G,v=vp G.bd 0∧DcP D G (ofD quota l))):=by
 have ln:=hv.len
 obtain⟨rb,off,arr,E,fz,hr⟩:=hv.row
 refine Rets.enterX func8 rfl (rs:= [.tmp 4]) results8 ntmps8 (fun p hp=>by cases hp) (by simp[keys]) ?_
 refine kf ?_
 refine kz [7,8,12,1000002] @fh ?_
 refine Ow.callC rfl rfl call36 (fun w' aA=>Sq quota w') (fun B1 v1 X0 dN di cR dr=> ?_)
 obtain⟨G0,rfl,mG⟩:=dr
 have nj:=cR.mono di
 rw[List.nil_append]
 refine ko @fh ?_
 refine kz [4,7,8,12] @fh ?_
 refine Cw.loopG (G:=OcG) [11,12,13,14,17,18,19,20,21,22,7,23,24,25,26,27,28,29,30,31,32,33,34,35,36,37,38,39,40,41,42,43,44,45,46,47,48,49,50,51,52,53,54,55,56,57,58,59,60,61,62,63,64,65,66,67,68,69,70,71,72,73,74,75,76,77,78,79,80,81,82,83,84,85,86,87,88,89,15,16,6] (fun g=> [(6,vi g.i)]) (fun g=>g.X) (fun g=>g.i≤l.length∧g.S=ofN l quota g.i∧DcP g.X g.G g.S∧g.G.bd=G0.bd∧New w.heap.size g.X∧(g.S.files.length≤g.i∧ ∀k,(g.S.dir k).seen.length≤g.i)) (fun g=>l.length - g.i) ⟨0,dI quota,G0,X0⟩ rfl rfl ?_ ?_
 ·exact⟨aV _,rfl,mG,rfl,nj,aV _,fun _=>aV _⟩
 intro g j hg
 refine kv ?_
 obtain⟨i,S,G,X⟩:=g
 simp only at hg ⊢
 obtain⟨hi,hS,hP,bP,hN,sQ⟩:=hg
 rw[←bP]
 by_cases aC:i<l.length
 ·have d1:decide ((i:Int)< (l.length:Int))=true:=aK oM
  have ix:=hr.idx true i aC
  have rda: ∀Y,New w.heap.size Y→aU w Y rb=some (.cells arr E fz):=fun Y hY=>by rw[jn (hY.not (hr.lt oM))];exact hr.has oM
  have rd1:=rda X hN
  have l0: ∀n,aG (some (false,n)) (some (.cells arr E fz)) (off+i*3)=some (vs (l.getD i fi0).dir):=fun n=>by have:=XC hr aC n;rwa [Nat.add_zero] at this
  have l1:=fun n=>FB hr aC n
  have l2:=fun n=>x3 hr aC n
  have zp:=hb (l.getD i fi0) (n_ aC)
  have cF:=Ej l quota aC
  rw[←hS] at cF
  have bh:=C3 S (l.getD i fi0) sQ
  generalize l.getD i fi0=f at*
  have Hq:=aQ (w0:=w) hP.disk
  refine kz [4,7,8] (aN @fh (aN @ln (aN @d1 (aN @ix (aN @rd1 @l0))))) ?_
  refine Ow.callFV rfl call37 (fun w' aA=>Ik f.dir w') ?_
  cases hw:bO f.dir with
  |none=>
   have je:l7 f.dir= -1:=by unfold l7;rw[hw]
   have e1:decide ((-1:Int)<0)=true:=rfl
   have bK:cP S f=S:=by unfold cP;rw[hw]
   rw[je]
   refine ko (aN @fh @e1) ?_
   refine ky @fh ?_
   exact Again.mk ⟨i+1,S,G,X⟩ (by show l.length - (i+1)<l.length - i;omega) ⟨aC,by rw[cF,bK],hP,rfl,hN,Nat.le_succ_of_le sQ.1,fun k=>Nat.le_succ_of_le (sQ.2 k)⟩ rfl rfl
  |some k=>
   have hk:=(dT hw).1
   have je:l7 f.dir=(k:Int):=by unfold l7;rw[hw]
   have e1:decide ((k:Int)<0)=false:=aO oM
   rw[je]
   refine ko (aN @fh (aN @e1 (aN @ix (aN @rd1 @l1)))) ?_
   refine Ow.callFV rfl call38 (fun w' aA=>JJ f.name w' zp.1) ?_
   cases hf:bX f.name with
   |false=>
    have bK:cP S f=S:=by unfold cP;rw[hw];simp only[hf,Bool.false_eq_true,false_and, ↓reduceIte]
    refine ko @fh ?_
    refine ky @fh ?_
    exact Again.mk ⟨i+1,S,G,X⟩ (by show l.length - (i+1)<l.length - i;omega) ⟨aC,by rw[cF,bK],hP,rfl,hN,Nat.le_succ_of_le sQ.1,fun k=>Nat.le_succ_of_le (sQ.2 k)⟩ rfl rfl
   |true=>
    cases hm:decide ((1048576:Int)< (f.data.length:Int)) with
    |true=>
     have ii:=of_decide_eq_true hm
     have bK:cP S f=S:=by unfold cP;rw[hw];simp only[hf,true_and];rw[if_neg oM]
     refine ko (aN @fh (aN @ix (aN @rd1 (aN @l2 @hm)))) ?_
     refine ky @fh ?_
     exact Again.mk ⟨i+1,S,G,X⟩ (by show l.length - (i+1)<l.length - i;omega) ⟨aC,by rw[cF,bK],hP,rfl,hN,Nat.le_succ_of_le sQ.1,fun k=>Nat.le_succ_of_le (sQ.2 k)⟩ rfl rfl
    |false=>
     have ii:=of_decide_eq_false hm
     have bK:cP S f=dY (eH S ⟨f.data,f.data.length⟩) k ⟨f5 (S.dir k).seen (f.name,S.files.length),(S.dir k).stl,(S.dir k).pend⟩:=by unfold cP;rw[hw];simp only[hf,true_and];rw[if_pos oM]
     refine ko (aN @fh (aN @ix (aN @rd1 (aN @l2 @hm)))) ?_
     refine kz [4,7,8] @fh ?_
     refine Cw.regionG [G.bd,rb] [21] 22 kR rfl ?_
     simp only[List.replicate_succ,List.replicate_zero]
     refine OwG.run [0,1,2,3,4,5,6,7,8,9,10,11,12,13,14,15] [true,true,true,true,true,true,true,true,true,true,true,true,true,true,true,true,false,false,false,false,false,false] 6 rfl kR kR fun k hk=> ?_
     simp only[ai, ↓ah, ↓ab, ↓ag, ↓ae,ac]
     simp(disch:=first|exact dD|fail) only[↓Sx.S0,Sx.S1,fx,fh,Nat.reduceAdd,Nat.reducePow,Int.reducePow,Nat.reduceBEq, ↓reduceIte,UInt8.reduceToNat,UInt16.reduceToNat,UInt32.reduceToNat,UInt64.reduceToNat,Int.reduceToNat,Md.next_sofnil,Hq,ix,rd1,l2]
     (with_reducible refine hk _ _ _ ?_);clear hk k
     refine OwG.one 16 _ kR rfl ?_
     refine Ow.build (.agg (fdC ⟨f.data,(f.data.length:Int)⟩).toArray) rfl (W7 ⟨f.data,(f.data.length:Int)⟩) ?_
     with_reducible refine Ow.nil ?_
     refine⟨(fun _ _=>rfl), ?_⟩
     simp only[List.set_cons_zero,List.set_cons_succ,pN,mT,mW]
     refine OwG.one 17 _ kR rfl ?_
     refine Ow.buildSlice (e:=92) (fdC ⟨f.data,(f.data.length:Int)⟩).toArray rfl rfl (gX underlying83 tc zrFd (by decide) (kw _)) fun bp zl IB=> ?_
     have zd:Gr X 92 2 G.f S.files.length ((S.files.map ck).map fdC).flatten:=by
      have:=hP.files
      unfold FdP at this
      rwa [List.length_map] at this
     have aX:slB G.f≠some G.bd:=fun e=>by
      obtain⟨arr,ha⟩:=jD zd e
      rw[hP.disk] at ha
      have:=congrArg tyO (Option.some.inj ha)
      rw[gC] at this
      exact qX this
     have be:New w.heap.size (X++ [(bp,Obj.cells (fdC ⟨f.data,(f.data.length:Int)⟩).toArray 92 (0,0))]):=hN.app ⟨IB,trivial⟩
     have ll:Sx.look (X++ [(bp,Obj.cells (fdC ⟨f.data,(f.data.length:Int)⟩).toArray 92 (0,0))]) G.bd=some (dcO G S):=az hP.disk
     with_reducible refine Ow.nil ?_
     refine⟨(fun r hr=>by simp only[List.mem_cons,List.not_mem_nil,or_false] at hr;rcases hr with rfl|rfl;exact(aQ ll).trans Hq.symm;exact(rda _ be).trans rd1.symm), ?_⟩
     simp only[List.set_cons_zero,List.set_cons_succ,pN,mT,mW]
     refine OwG.one 18 _ kR rfl ?_
     refine Ow.appendG (e:=92) (k:=1) (new:=fdC ⟨f.data,(f.data.length:Int)⟩) G.f rfl rfl rfl underlying83 tc kR zrFd (by rw[IX,List.size_toArray,kw]) underlying83 (by intro k h;cases h) zd.app (fun w' aA=>AppX.one1 (aA.has bp (.cells (fdC ⟨f.data,(f.data.length:Int)⟩).toArray 92 (0,0)) (by simp)) (kw _) (FO _)) (kw _) oM (fun v2 L5 jS _ Jr hs5=> ?_)
     have yI:Sx.look L5 G.bd=some (dcO G S):=Jr.look _ _ aX ll
     have rd5:=aQ (w0:=w) yI
     have dq:New w.heap.size L5:=New.of_le fun c hc=>by
      rcases Jr.new c hc with h| ⟨-,h⟩
      ·exact be.le c h
      exact h
     have st5:=fun x=>DC G S x jS.cell
     with_reducible refine Ow.nil ?_
     refine⟨(fun r hr=>by simp only[List.mem_cons,List.not_mem_nil,or_false] at hr;rcases hr with rfl|rfl;exact rd5.trans (aQ ll).symm;exact(rda _ dq).trans (rda _ be).symm), ?_⟩
     simp only[List.set_cons_zero,List.set_cons_succ,pN,mT,mW]
     refine OwG.rest [19,20,21] rfl kR kR ?_
     simp only[ai, ↓ah, ↓ab, ↓ag, ↓ae,ac]
     refine kq @fh ?_
     refine Ow.store rfl rfl rfl (ke (aN @fh (aN @yI @st5))) ?_
     refine ko @fh ?_
     have n8:DcP (setB L5 G.bd (dcO {G with f:=v2} S)) {G with f:=v2} (eH S ⟨f.data,f.data.length⟩):=by
      refine DcP.updF (G:=G) hP (v:=v2) (fl:=S.files++ [⟨f.data,f.data.length⟩]) (fun b o hb hf ho=>by rw[bR (Ne.symm hb)];exact Jr.look _ _ hf (az ho)) (dp yI) ?_
      have p_:FdP L5 v2 (S.files++ [⟨f.data,f.data.length⟩]):=by
       have Jp:ck ⟨f.data,f.data.length⟩=⟨f.data,(f.data.length:Int)⟩:=rfl
       unfold FdP
       simpa [Jp] using jS
      exact Gr.keepTy p_ yI (by rw[gC];exact qX) fun b o hb ho=>by rw[bR (Ne.symm hb)];exact ho
     have fD:New w.heap.size (setB L5 G.bd (dcO {G with f:=v2} S)):=New.of_le fun c hc=>dq.le c (by rwa [l5] at hc)
     generalize setB L5 G.bd (dcO {G with f:=v2} S)=L6 at*
     obtain⟨G2,pz⟩: ∃G2:DcG,G2={G with f:=v2}:=⟨_,rfl⟩
     rw[←pz] at n8
     have aw:G.bd=G2.bd:=by rw[pz]
     rw[aw]
     clear Jr hs5 jS st5 yI rd5 dq ll be
     have rd6:=aQ (w0:=w) n8.disk
     have ls6:=fun n=>ry G2 (eH S ⟨f.data,f.data.length⟩) hk n
     have ln6: ∀m,gY (.sl m) G2.f=some (vi ((S.files.length+1:Nat):Int)):=fun m=>by
      have:=(n8.files).len m
      rw[List.length_map] at this
      rw[this]
      show some (vi (((S.files++ [_]).length:Nat):Int))=_
      rw[List.length_append];rfl
     have es: ((S.files.length+1:Nat):Int) - 1=(S.files.length:Int):=by omega
     have rdb6:=rda _ fD
     have Hy:=sQ.2 k
     refine kz [4,8] @fh ?_
     refine Cw.regionG [G2.bd,rb] [26] 27 kR rfl ?_
     simp only[List.replicate_succ,List.replicate_zero]
     refine OwG.run [0,1,2,3,4,5,6,7,8,9,10,11,12,13,14,15,16,17,18,19,22,23] [true,true,true,true,true,true,true,true,true,true,true,true,true,true,true,true,true,true,true,true,false,false,true,true,false,false,false] 5 rfl kR kR fun k hk=> ?_
     simp only[ai, ↓ah, ↓ab, ↓ag, ↓ae,ac]
     simp(disch:=first|exact dD|fail) only[↓Sx.S0,Sx.S1,fx,fh,Nat.reduceAdd,Nat.reducePow,Int.reducePow,Nat.reduceBEq, ↓reduceIte,UInt8.reduceToNat,UInt16.reduceToNat,UInt32.reduceToNat,UInt64.reduceToNat,Int.reduceToNat,Md.next_sofnil,rd6,ls6,ix,rdb6,l1,ln6,es]
     (with_reducible refine hk _ _ _ ?_);clear hk k
     refine OwG.one 20 _ kR rfl ?_
     refine Ow.build (.agg (ndC (aa (f.name,S.files.length))).toArray) rfl (Ln (f.name,S.files.length)) ?_
     with_reducible refine Ow.nil ?_
     refine⟨(fun _ _=>rfl), ?_⟩
     simp only[List.set_cons_zero,List.set_cons_succ,pN,mT,mW]
     refine OwG.one 21 _ kR rfl ?_
     refine Ow.callC rfl rfl call39 (fun w' aA=>LT0 (G2.s k) (S.dir k).seen (f.name,S.files.length) w' (Gr.slW (n8.seen k hk) (fun b o h=>aA.has b o (cQ h)) fM) oM) (fun B7 v7 D7 hA7 u6 n4 ow=> ?_)
     have Gj:=n4.mono u6
     have j3:=fD.app Gj
     have rB:Sx.look (L6++D7) G2.bd=some (dcO G2 (eH S ⟨f.data,f.data.length⟩)):=az n8.disk
     have st7:=fun x=>Lh G2 (eH S ⟨f.data,f.data.length⟩) hk x (E6 ow)
     with_reducible refine Ow.nil ?_
     refine⟨(fun r hr=>by simp only[List.mem_cons,List.not_mem_nil,or_false] at hr;rcases hr with rfl|rfl;exact(aQ rB).trans rd6.symm;exact(rda _ j3).trans rdb6.symm), ?_⟩
     simp only[List.set_cons_zero,List.set_cons_succ,pN,mT,mW]
     refine OwG.rest [24,25,26] rfl kR kR ?_
     simp only[ai, ↓ah, ↓ab, ↓ag, ↓ae,ac]
     refine kq @fh ?_
     refine Ow.store rfl rfl rfl (ke (aN @fh (aN @rB @st7))) ?_
     refine ko @fh ?_
     refine Cw.world fun wz fP=> ?_
     have bA:=fP.nodup
     clear fP wz
     rw[l5] at bA
     obtain⟨Xs,zj,zg⟩:=ow
     have Gy:NdP (L6++D7) v7 (f5 (S.dir k).seen (f.name,S.files.length)):=zg.keep fun b o _ ho=>zI bA (dJ _ (zj _ (cQ ho)))
     have n9:DcP (setB (L6++D7) G2.bd (dcO (bz G2 k v7) (eH S ⟨f.data,f.data.length⟩))) (bz G2 k v7) (cP S f):=by
      rw[bK]
      exact n8.updS hk (fun b o hb ho=>by rw[bR (Ne.symm hb)];exact az ho) (dp rB) (Gr.keepTy Gy rB (by rw[gC];exact po) fun b o hb ho=>by rw[bR (Ne.symm hb)];exact ho)
     refine ky @fh ?_
     exact Again.mk ⟨i+1,cP S f,bz G2 k v7,setB (L6++D7) G2.bd (dcO (bz G2 k v7) (eH S ⟨f.data,f.data.length⟩))⟩ (by show l.length - (i+1)<l.length - i;omega) ⟨aC,cF.symm,n9,rfl,New.of_le (fun c hc=>j3.le c (by rwa [l5] at hc)),bh⟩ rfl rfl
 obtain rfl:i=l.length:=by omega
 have d1:decide ((l.length:Int)< (l.length:Int))=false:=aO oM
 have hT:S=l.foldl cP (dI quota):=by rw[hS];unfold ofN;rw[List.take_length]
 have cD:=WI_ l (dI quota) (fun _=>⟨rfl,rfl⟩)
 rw[←hT] at cD
 have sS:ofD quota l=setV S [0,1,2]:=by rw[hT];rfl
 rw[sS]
 clear hS hT sS
 rw[←Zp cD]
 refine kz [12] (aN @fh (aN @ln @d1)) ?_
 refine Cw.loopG (G:=OcG) [90,91,94,95,96,97,98,99,100,101,102,103,104,105,106,92,93,8] (fun g=> [(8,vi g.i)]) (fun g=>g.X) (fun g=>g.i≤3∧g.S=j0 S g.i∧DcP g.X g.G g.S∧g.G.bd=G.bd∧New w.heap.size g.X) (fun g=>3 - g.i) ⟨0,S,G,X⟩ rfl rfl ?_ ?_
 ·exact⟨aV _,(Zn S).symm,hP,rfl,hN⟩
 intro g j hg
 refine kv ?_
 clear hP hN bP
 obtain⟨k,S2,G2,X2⟩:=g
 simp only at hg ⊢
 obtain⟨hk,bM,hP,bP,hN⟩:=hg
 rw[←bP]
 by_cases aC:k<3
 ·have d2:decide ((k:Int)<3)=true:=aK oM
  have rdd:=aQ (w0:=w) hP.disk
  have lds:=fun n=>ry G2 S2 aC n
  have st:=fun x=>Le G2 S2 aC x (Gr.cell (hP.seen k aC))
  have cS: ∀j,((j0 S (k+1)).dir j).seen=(S2.dir j).seen∧((j0 S (k+1)).dir j).pend=(S2.dir j).pend∧(j≠k→((j0 S (k+1)).dir j).stl=(S2.dir j).stl)∧((j0 S (k+1)).dir k).stl=(S2.dir k).seen:=fun j=>by
   rw[bM];exact Su cD k j
  have p5: (j0 S (k+1)).files=S2.files:=by rw[bM];rfl
  have hdc:dcO (ed G2 k (G2.s k)) S2=dcO (ed G2 k (G2.s k)) (j0 S (k+1)):=by rw[bM];rfl
  refine ky (aN @fh @d2) ?_
  refine Cw.regionO [0,1,2,3,4,5,6,7,9,10,8,11,12,13] [13] rfl kR kR ?_
  simp only[ai, ↓ah, ↓ab, ↓ag, ↓ae,ac]
  refine kq (aN @fh (aN @rdd @lds)) ?_
  refine Ow.store rfl rfl rfl (by simp(disch:=first|exact dD|fail) only[↓Sx.S0,Sx.S1,fx,fh,Nat.reduceAdd,Nat.reducePow,Int.reducePow,Nat.reduceBEq, ↓reduceIte,UInt8.reduceToNat,UInt16.reduceToNat,UInt32.reduceToNat,UInt64.reduceToNat,Int.reduceToNat,hP.disk,st];rfl) ?_
  refine ko @fh ?_
  rw[hdc]
  refine ky @fh ?_
  refine Again.mk ⟨k+1,j0 S (k+1),ed G2 k (G2.s k),setB X2 G2.bd (dcO (ed G2 k (G2.s k)) (j0 S (k+1)))⟩ (by show 3 - (k+1)<3 - k;omega) ⟨aC,rfl, ?_,rfl,New.of_le (fun c hc=>hN.le c (by rwa [l5] at hc))⟩ rfl rfl
  refine hP.upd rfl (fun b o hb ho=>by rw[bR (Ne.symm hb)];exact ho) (dp hP.disk) (fun j hj=> .inl ⟨rfl,(cS j).1⟩) (fun j hj=> ?_) (fun j hj=> .inl ⟨rfl,(cS j).2.1⟩) ⟨rfl,p5⟩
  by_cases e:j=k
  ·subst e
   right
   rw[(cS j).2.2.2,show(ed G2 j (G2.s j)).t j=G2.s j by simp[ed]]
   exact Gr.keepTy (hP.seen j hj) hP.disk (by rw[gC];exact po) fun b o hb ho=>by rw[bR (Ne.symm hb)];exact ho
  exact .inl ⟨by simp[ed,e],(cS j).2.2.1 e⟩
 obtain rfl:k=3:=by omega
 have d2:decide (((3:Nat):Int)<3)=false:=rfl
 refine ky (aN @fh @d2) ?_
 refine⟨_,(ke @fh), ?_⟩
 rw[←bM]
 exact⟨Ext.of_new hN,G2,rfl,hP⟩
def Wc {c d:CallL} (h:jC c=jC d) (h1:c.kind=1):d.kind=1∧c.a=d.a:=by
 unfold jC at h
 rw[if_neg oM,if_pos h1] at h
 by_cases d0:d.kind=0
 ·rw[if_pos d0] at h;cases h
 rw[if_neg d0] at h
 by_cases d1:d.kind=1
 ·rw[if_pos d1] at h
  exact⟨d1,by have:=congrArg CallL.a h;exact this⟩
 rw[if_neg d1] at h;cases h
def Vd {pl qd:List CallL} (h:pl.map jC=qd.map jC) {i:Nat} (hi:i<qd.length):jC (pl.getD i ⟨0,[],[],0⟩)=jC (qd.getD i l9):=by
 have hl:pl.length=qd.length:=by have:=congrArg List.length h;simpa using this
 have:=congrArg (fun l=>l[i]?) h
 simp only[List.getElem?_map] at this
 rw[List.getD_eq_getElem?_getD,List.getD_eq_getElem?_getD]
 rw[List.getElem?_eq_getElem oM,List.getElem?_eq_getElem hi] at this ⊢
 simpa using this
def WE {S:DiskL} {N:Nat} (h:DkN N S) (k i:Nat): (eQ S k i).length≤N:=by
 have h1:=(xE ((S.dir k).pend.take i) (h k).stlB fun c hc=>(h k).pendB c (List.mem_of_mem_take hc)).2
 have h2:=(h k).stl
 unfold eQ
 rw[List.length_take] at h1
 omega
def Oh {E:TypeId} {rest:List Value} {l:List NdR} (k:Nat) (hk:k<l.length) (n:Nat):aG (some (false,n)) (some (cO ndC E rest l)) (k*2+1)=some (vi (l.getD k nd0).n):=by
 obtain⟨A,C,e,hA,-⟩:=AR (z:=nd0) (rest:=rest) fM hk
 unfold cO
 rw[e]
 have:=iR (A++ [vs (l.getD k nd0).s]) C (vi (l.getD k nd0).n) n E (0,0) (o:=k*2+1) (by rw[List.length_append,hA];rfl)
 rw[List.append_assoc] at this
 exact this
def FilB (S:DiskL):Prop:= ∀n,n<S.files.length→(aE S n).data.length≤1048576∧(aE S n).stl≤ (aE S n).data.length
structure CrG where
 k:Nat
 at_:Nat
 S:DiskL
 G:DcG
 X:aB
structure CkG where
 at_:Nat
 n:Nat
structure CiG where
 i:Nat
 v:Value
 X:aB
def gI:=aN (aN (aN @av @au) (aN @vf (aN @wE @wK))) (aN (aN @wM (aN @wC @J7)) (aN @Lp (aN @J4 @LX)))
def OU (X0:aB) (G0:DcG) (S0:DiskL) (N:Nat) (pv:Value) (pl:List UInt16) (w:World) (hX: ∀p,p∈X0→w.heap[p.1]? =some p.2) (hn: (keys X0).Nodup) (mG:DcP X0 G0 S0) (ok:DkOk S0) (okc:DkOk (eL S0 pl)) (hH:kN S0) (hN:DkN N S0) (p':N<900000) (hp:PkS w pv pl) (vM:PkB w X0 pl pv) (fc:pl.length<1000000):
  Rets prog 25 #[vp G0.bd 0,pv] w (XS w X0 (fun _ D=> ∃G',G'.bd=G0.bd∧DcP D G' (eL S0 pl))):=by
 have lnp:=hp.len
 refine Rets.enterX func25 rfl (rs:= []) results25 ntmps25 hX hn ?_
 refine kf ?_
 have vN:pl= []∨ ∃rb off arr E fz,RowS 1 u16C 0 w pv pl rb off arr E fz∧rb<w.heap.size∧rb∉keys X0:=by
  by_cases h0:pl= []
  ·exact .inl h0
  right
  obtain⟨b',off,c,arr,E,fz,hr,hc,⟨rfl,rfl,rfl⟩ | ⟨rfl,hh,-⟩⟩:=hp.resolve_right fun e=>h0 e.1
  ·exact absurd rfl h0
  exact⟨b',off,arr,E,fz,hr,(vM h0 b' rfl).1,(vM h0 b' rfl).2⟩
 refine kz [7,25,28,30,31,1000006,1000027] @gI ?_
 refine Cw.loopG (G:=CrG) [14,15,18,19,20,21,22,6,7,23,24,25,26,27,28,29,30,31,32,33,34,35,36,37,38,39,40,4,41,42,43,44,8,9,45,46,47,50,51,52,53,54,55,56,57,58,48,49,59,60,61,62,63,64,65,66,67,68,69,16,17,5] (fun g=> [(4,vi g.at_),(5,vi g.k)]) (fun g=>g.X) (fun g=>g.k≤3∧(g.S,pl.drop g.at_)=dX (S0,pl) g.k∧g.at_≤pl.length∧DcP g.X g.G g.S∧g.G.bd=G0.bd∧Ext w X0 g.X) (fun g=>3 - g.k) ⟨0,0,S0,G0,X0⟩ rfl rfl ?_ ?_
 ·exact⟨aV _,rfl,aV _,mG,rfl,Ext.refl w X0⟩
 intro g j hg
 refine kv ?_
 obtain⟨k,at_,S,G,X⟩:=g
 simp only at hg ⊢
 obtain⟨hk,hS,kY,hP,bP,hE⟩:=hg
 rw[←bP]
 by_cases aC:k<3
 ·have d1:decide ((k:Int)<3)=true:=aK oM
  have qC:S.dir k=S0.dir k:=by
   have:=congrArg (fun q=>q.1.dir k) hS
   simp only at this
   rw[this]
   exact It (S0,pl) (bq k)
  have Jd:DkN N S:=by
   have:=AB (q:=(S0,pl)) hN k
   rw[←hS] at this;exact this
  have cF:dX (S0,pl) (k+1)=w6 (S,pl.drop at_) k:=by show w6 (dX (S0,pl) k) k=_;rw[←hS]
  obtain⟨qd,hqn,ze⟩:=hP.pend k aC
  have hql:qd.length=(S.dir k).pend.length:=by have:=congrArg List.length hqn;simpa using this
  have sU:=(Jd k).stl
  have lnq: ∀m,gY (.sl m) (G.p k)=some (vi ((S.dir k).pend.length:Int)):=fun m=>by have:=ze.len m;rw[List.length_map,hql] at this;exact this
  have rdd:=aQ (w0:=w) hP.disk
  have lds:=fun n=>ry G S aC n
  have ldt:=fun n=>VR G S aC n
  have ldp:=fun n=>E8 G S aC n
  refine kz [7,1000006] (aN @gI @d1) ?_
  refine Cw.cutO (G:=CkG) [4,7,23,24,25,26,27,28,29,30,31,32,33,34,35,36,37,38,39,40] (fun g=> [(4,vi g.at_),(7,vi g.n)]) (fun g=>X) (fun g=>g.n=jG (pl.drop at_) (S.dir k).pend.length∧pl.drop g.at_=(pl.drop at_).drop 1∧g.at_≤pl.length) ?_ ?_
  ·by_cases eC:at_<pl.length
   ·have d2:decide ((at_:Int)< (pl.length:Int))=true:=aK oM
    obtain h0| ⟨rb,off,arr,E,fz,hr,kA,sV⟩:=vN
    ·rw[h0] at eC;simp at eC
    have rda:aU w X rb=some (.cells arr E fz):=hE.old (hr.has oM) sV
    have ix:=hr.idx false at_ eC
    have ld:=fun n=>wu hr eC n
    have eh:pl.drop at_=pl.getD at_ 0::pl.drop (at_+1):=by
     rw[List.drop_eq_getElem_cons eC,List.getD_eq_getElem?_getD,List.getElem?_eq_getElem eC];rfl
    generalize pl.getD at_ 0=x at*
    have em: (x.toNat:Int)% (((S.dir k).pend.length:Int)+1)=((x.toNat% ((S.dir k).pend.length+1):Nat):Int):=by rw[Int.natCast_emod];rfl
    have hx:=x.toNat_lt
    refine kz [7] (aN @gI (aN @lnp @d2)) ?_
    refine Cw.regionS [rb,G.bd] [0,1,2,5,6,7,3,4,8,9,10,11,12] [] kR kR kR ?_
    simp only[ai, ↓ah, ↓ab, ↓ag, ↓ae,ac]
    refine kq (aN @gI (aN @ix (aN @rda (aN @ld (aN @rdd (aN @ldp (aN @lnq @em))))))) ?_
    refine ky @gI ?_
    exact CutO.mk ⟨at_+1,x.toNat% ((S.dir k).pend.length+1)⟩ ⟨by rw[eh];rfl,by rw[eh];rfl,eC⟩ rfl rfl
   have d2:decide ((at_:Int)< (pl.length:Int))=false:=aO oM
   have eh:pl.drop at_= []:=List.drop_eq_nil_of_le oM
   refine ky (aN @gI (aN @lnp @d2)) ?_
   exact CutO.mk ⟨at_,0⟩ ⟨by rw[eh];rfl,by rw[eh];rfl,kY⟩ rfl rfl
  intro g j hg
  refine kv ?_
  obtain⟨at2,m⟩:=g
  simp only at hg ⊢
  obtain⟨hm,hat2,y7⟩:=hg
  have hmp:=Ar (pl.drop at_) (S.dir k).pend.length
  rw[←hm] at hmp
  refine kz [12] (aN @gI (aN @rdd @ldt)) ?_
  refine Cw.loopG (G:=CiG) [45,46,47,50,51,52,53,54,55,56,57,58,8,48,49,9] (fun g=> [(8,g.v),(9,vi g.i)]) (fun g=>g.X) (fun g=>g.i≤m∧DcP g.X G S∧NdP g.X g.v (eQ S k g.i)∧KcP g.X (G.p k) qd∧Ext w X0 g.X) (fun g=>m - g.i) ⟨0,G.t k,X⟩ rfl rfl ?_ ?_
  ·refine⟨aV _,hP, ?_,ze,hE⟩
   show NdP X (G.t k) (eQ S k 0)
   exact hP.stl k aC
  intro g j hg
  refine kv ?_
  clear hP ze hE rdd
  obtain⟨i,v,X⟩:=g
  simp only at hg ⊢
  obtain⟨hi,hP,hNv,ze,hE⟩:=hg
  have rdd:=aQ (w0:=w) hP.disk
  by_cases cY:i<m
  ·have d2:decide ((i:Int)< (m:Int))=true:=aK oM
   have hip:i< (S.dir k).pend.length:=by omega
   have hiq:i< (qd.map kcOf).length:=by rw[List.length_map];omega
   obtain⟨rq,rest,cq,hv,bQ,-⟩:=Gr.upd ze sy hiq kc0
   have rdq:=aQ (w0:=w) bQ
   have ixq:i_ (.sl (true,4)) (G.p k) (some (i:Int))=some (vp rq (i*4)):=by rw[hv,pS _ _ _ _ _ _ oM];simp
   have ldq:=Ai (E:=130) (rest:=rest) (z:=kc0) sy i hiq
   rw[Yj] at ldq
   have Jx:=Vd hqn hip
   have bU:=(hH k).2 i (by rw[←qC];exact hip)
   rw[←qC] at bU
   have hfx:=BC hip
   have hdn:ci (eQ S k i) (qd.getD i ⟨0,[],[],0⟩)=eQ S k (i+1):=by rw[hfx,←LR,Jx,LR]
   have hoq: (qd.getD i ⟨0,[],[],0⟩).kind=1→aM (eQ S k i) (qd.getD i ⟨0,[],[],0⟩).a≠none:=fun h=>by
    obtain⟨h1,h2⟩:=Wc Jx h
    rw[h2]
    exact(bU h1).1
   have eV:=WE Jd k i
   generalize qd.getD i ⟨0,[],[],0⟩=c at*
   refine kz [12] (aN @gI (aN @d2 (aN @rdd (aN @ldp (aN @ixq (aN @rdq @ldq)))))) ?_
   refine Ow.callC rfl rfl call63 (fun w' aA=>Bh v (eQ S k i) c w' (Gr.slW hNv (fun b o h=>aA.has b o (cQ h)) fM) oM hoq) (fun B6 v6 D6 qz ni fD r4=> ?_)
   have lc:=fD.mono ni
   rw[hdn] at r4
   refine ko @gI ?_
   refine Cw.world fun wz fP=> ?_
   have bA:=fP.nodup
   clear fP wz
   obtain⟨Xs,zj,zg⟩:=r4
   refine ky @gI ?_
   have mE:Ext w X0 (X++D6):=⟨fun c hc=>by
    rw[ao] at hc
    rcases List.mem_append.1 hc with hc|hc
    ·exact hE.new c hc
    exact .inr (lc.le c hc),fun c hc=>by rw[ao];exact cz _ (hE.all c hc)⟩
   have hNv6:NdP (X++D6) v6 (eQ S k (i+1)):=zg.keep fun b o _ ho=>zI bA (dJ _ (zj _ (cQ ho)))
   exact Again.mk ⟨i+1,v6,X++D6⟩ (by show m - (i+1)<m - i;omega) ⟨cY,hP.mono fun b o h=>az h,hNv6,ze.keep (fun b o _ h=>az h),mE⟩ rfl rfl
  obtain rfl:i=m:=by omega
  have d2:decide ((i:Int)< (i:Int))=false:=aO oM
  have lj:=Gr.cell hNv
  have st1:=fun x=>Lh G S aC x lj
  have st2:=fun x=>Le (bz G k v) S aC x lj
  have st3:=fun x=>LC (ed (bz G k v) k v) S aC x (q:= .slice none 0 0) ⟨rfl,rfl⟩
  have HS:Sx.look (setB X G.bd (dcO (bz G k v) S)) G.bd=some (dcO (bz G k v) S):=dp hP.disk
  have hlC:Sx.look (setB (setB X G.bd (dcO (bz G k v) S)) G.bd (dcO (ed (bz G k v) k v) S)) G.bd=some (dcO (ed (bz G k v) k v) S):=dp HS
  ((try with_reducible refine Cw.go [] ?_);(try simp(disch:=first|exact dD|fail) only[↓Sx.S0,Sx.S1,fx,gI,Nat.reduceAdd,Nat.reducePow,Int.reducePow,Nat.reduceBEq, ↓reduceIte,UInt8.reduceToNat,UInt16.reduceToNat,UInt32.reduceToNat,UInt64.reduceToNat,Int.reduceToNat,d2,hP.disk,HS,hlC,st1,st2,st3,lz]))
  have aj: ∀b o,b≠G.bd→Sx.look X b=some o→Sx.look (setB (setB (setB X G.bd (dcO (bz G k v) S)) G.bd (dcO (ed (bz G k v) k v) S)) G.bd (dcO (df (ed (bz G k v) k v) k (.slice none 0 0)) S)) b=some o:=fun b o hb ho=>by
   rw[bR (Ne.symm hb),bR (Ne.symm hb),bR (Ne.symm hb)];exact ho
  have Gt:=Gr.keepTy hNv hP.disk (by rw[gC];exact po) aj
  refine Again.mk ⟨k+1,at2,dY S k ⟨eQ S k i,eQ S k i,[]⟩,df (ed (bz G k v) k v) k (.slice none 0 0),setB (setB (setB X G.bd (dcO (bz G k v) S)) G.bd (dcO (ed (bz G k v) k v) S)) G.bd (dcO (df (ed (bz G k v) k v) k (.slice none 0 0)) S)⟩ (by show 3 - (k+1)<3 - k;omega) ⟨aC, ?_,y7, ?_,rfl,hE.setB.setB.setB⟩ rfl rfl
  ·rw[cF]
   unfold w6
   simp only
   rw[←hm,hat2]
  refine hP.upd rfl aj (dp hlC) (fun j hj=> ?_) (fun j hj=> ?_) (fun j hj=> ?_) ⟨rfl,rfl⟩
  ·by_cases e:j=k
   ·subst e
    right
    rw[iz,show(df (ed (bz G j v) j v) j (.slice none 0 0)).s j=v by simp[df,ed,bz]]
    exact Gt
   exact .inl ⟨by simp[df,ed,bz,e],by rw[jM _ _ e]⟩
  ·by_cases e:j=k
   ·subst e
    right
    rw[iz,show(df (ed (bz G j v) j v) j (.slice none 0 0)).t j=v by simp[df,ed,bz]]
    exact Gt
   exact .inl ⟨by simp[df,ed,bz,e],by rw[jM _ _ e]⟩
  by_cases e:j=k
  ·subst e
   exact .inr ⟨by simp[df],by rw[iz]⟩
  exact .inl ⟨by simp[df,ed,bz,e],by rw[jM _ _ e]⟩
 obtain rfl:k=3:=by omega
 have d1:decide (((3:Nat):Int)<3)=false:=rfl
 have Jd:DkN N S:=by
  have:=AB (q:=(S0,pl)) hN 3
  rw[←hS] at this;exact this
 have zq:S.files=S0.files:=by
  have:=KL (S0,pl) 3
  rw[←hS] at this;exact this
 have qB:eL S0 pl=(ew (fK S,pl.drop at_) 3).1:=by unfold eL;rw[←hS]
 have rD: (eL S0 pl).dir=S.dir:=by rw[qB,y_];rfl
 have vC: ∀q:DiskL×List UInt16,∀l:NmL,(l.foldl eI q).1.files.length=q.1.files.length:=fun q l=>by
  induction l generalizing q with
  |nil=>rfl
  |cons a l ih=>
   rw[List.foldl_cons,ih]
   show(q.1.files.set _ _).length=_
   rw[List.length_set]
 have hfm: ∀k,(ew (fK S,pl.drop at_) k).1.files.length=S.files.length:=fun k=>by
  induction k with
  |zero=>rfl
  |succ k ih=>show(List.foldl eI _ _).1.files.length=_;rw[vC,ih]
 have dk: ∀k,k<3→ ∀p,p∈ (S.dir k).seen→p.2<S.files.length:=fun k hk p hp=>by
  have:=okc.seenN k hk p (by rw[rD];exact hp)
  rw[qB,hfm] at this;exact this
 have u7:FilB (fK S):=fun n hn=>by
  have:=sf ok (n:=n) (by rw[←zq];exact hn)
  have e:aE (fK S) n=aE S0 n:=by unfold aE fK;rw[zq]
  rw[e];exact this
 rw[qB]
 clear qB hfm vC rD
 have fq:=hP.disk
 have so:=fun x=>J4 G S false x
 have gp:Sx.look (setB X G.bd (dcO G {S with off:=false})) G.bd=some (dcO G {S with off:=false}):=dp fq
 have sl:=fun x=>J7 G {S with off:=false} (-1) x
 have Jo:dcL G {S with off:=false} (-1) false=dcO G (fK S):=tV G {S with off:=false} (fK S) rfl rfl rfl
 refine kz [25,28,30,31,1000027] (aN @gI (aN @d1 (aN @fq (aN @so (aN @gp (aN @sl @lz)))))) ?_
 have hPw:DcP (setB (setB X G.bd (dcO G {S with off:=false})) G.bd (dcO G (fK S))) G (fK S):=(hP.setD {S with off:=false} rfl rfl).setD (fK S) rfl rfl
 have hEw:Ext w X0 (setB (setB X G.bd (dcO G {S with off:=false})) G.bd (dcO G (fK S))):=hE.setB.setB
 refine Cw.permL (M:=setB (setB X G.bd (dcO G {S with off:=false})) G.bd (dcO G (fK S))) (by rw[←Jo]) ?_
 generalize setB (setB X G.bd (dcO G {S with off:=false})) G.bd (dcO G (fK S))=Xw at*
 clear fq so gp sl Jo hP hE
 have hwl: (fK S).files.length=S.files.length:=rfl
 refine Cw.loopG (G:=CrG) [76,77,11,80,81,82,83,84,85,86,87,88,89,92,93,94,95,96,97,98,99,100,101,102,103,104,105,106,107,12,13,108,109,110,111,112,113,114,115,116,117,118,119,120,121,122,123,124,125,126,127,128,129,130,4,131,132,133,134,135,136,137,138,139,140,141,142,143,144,145,146,147,148,149,150,151,152,90,91,78,79,10] (fun g=> [(4,vi g.at_),(10,vi g.k)]) (fun g=>g.X) (fun g=>g.k≤3∧(g.S,pl.drop g.at_)=ew (fK S,pl.drop at_) g.k∧g.at_≤pl.length∧DcP g.X g.G g.S∧g.G.bd=G.bd∧Ext w X0 g.X∧g.S.dir=S.dir∧g.S.files.length=S.files.length∧FilB g.S) (fun g=>3 - g.k) ⟨0,at_,fK S,G,Xw⟩ rfl rfl ?_ ?_
 ·exact⟨aV _,rfl,kY,hPw,rfl,hEw,rfl,rfl,u7⟩
 intro g j hg
 refine kv ?_
 clear hPw hEw u7 kY
 obtain⟨k,at3,S3,G3,X3⟩:=g
 simp only at hg ⊢
 obtain⟨hk,eO,kY,hP,oz,hE,u',Jq,u7⟩:=hg
 rw[←oz]
 by_cases aC:k<3
 ·have d2:decide ((k:Int)<3)=true:=aK oM
  have Hz:=dk k aC
  have iJ:=(Jd k).seen
  have cF:ew (fK S,pl.drop at_) (k+1)=(S.dir k).seen.foldl eI (S3,pl.drop at3):=by
   show((fK S).dir k).seen.foldl eI (ew (fK S,pl.drop at_) k)=_
   rw[←eO];rfl
  obtain⟨sn,H_⟩: ∃sn,(S.dir k).seen=sn:=⟨_,rfl⟩
  rw[H_] at Hz iJ cF
  refine kz [25,28,30,31,1000027] (aN @gI @d2) ?_
  refine Cw.loopG (G:=CrG) [80,81,82,83,84,85,86,87,88,89,92,93,94,95,96,97,98,99,100,101,102,103,104,105,106,107,12,13,108,109,110,111,112,113,114,115,116,117,118,119,120,121,122,123,124,125,126,127,128,129,130,4,131,132,133,134,135,136,137,138,139,140,141,142,143,144,145,146,147,148,149,150,151,152,90,91,11] (fun g=> [(4,vi g.at_),(11,vi g.k)]) (fun g=>g.X) (fun g=>g.k≤sn.length∧(g.S,pl.drop g.at_)=(sn.take g.k).foldl eI (S3,pl.drop at3)∧g.at_≤pl.length∧DcP g.X g.G g.S∧g.G.bd=G3.bd∧Ext w X0 g.X∧g.S.dir=S.dir∧g.S.files.length=S.files.length∧FilB g.S) (fun g=>sn.length - g.k) ⟨0,at3,S3,G3,X3⟩ rfl rfl ?_ ?_
  ·exact⟨aV _,rfl,kY,hP,rfl,hE,u',Jq,u7⟩
  intro g j hg
  refine kv ?_
  clear hP hE u7 kY u' Jq
  obtain⟨i,at4,S4,G4,X4⟩:=g
  simp only at hg ⊢
  obtain⟨hi,ar,kY,hP,hbd4,hE,HE,hf4,u7⟩:=hg
  rw[←hbd4]
  have rdd:=aQ (w0:=w) hP.disk
  have lds:=fun n=>ry G4 S4 aC n
  have hnv:NdP X4 (G4.s k) sn:=by have:=hP.seen k aC;rw[HE,H_] at this;exact this
  have lns:=hnv.len
  rw[List.length_map] at lns
  by_cases cY:i<sn.length
  ·have d3:decide ((i:Int)< (sn.length:Int))=true:=aK oM
   have eE:i< (sn.map aa).length:=by rw[List.length_map];exact cY
   obtain⟨rs,rest,cs,hv,bQ,-⟩:=Gr.upd hnv fM eE nd0
   have rds:=aQ (w0:=w) bQ
   have ixs:i_ (.sl (true,2)) (G4.s k) (some (i:Int))=some (vp rs (i*2)):=by rw[hv,pS _ _ _ _ _ _ oM];simp
   have ld1:=fun n=>Oh (E:=95) (rest:=rest) i eE n
   rw[w4] at ld1
   have j6: (sn.take (i+1)).foldl eI (S3,pl.drop at3)=eI ((sn.take i).foldl eI (S3,pl.drop at3)) (sn.getD i ([],0)):=by
    rw[StP.take_snoc (z:=([],0)) cY,List.foldl_append];rfl
   rw[←ar] at j6
   have hn4:=Hz _ (n_ (z:=([],0)) cY)
   generalize sn.getD i ([],0)=q at*
   obtain⟨qs,n⟩:=q
   simp only[aa] at ld1 hn4
   have hn5:n<S4.files.length:=by omega
   have cU:n< (S4.files.map ck).length:=by rw[List.length_map];exact hn5
   obtain⟨aW,aq⟩:=u7 n hn5
   obtain⟨f,hf⟩: ∃f,aE S4 n=f:=⟨_,rfl⟩
   rw[hf] at aW aq
   have lE: (S4.files.map ck).getD n fd0=ck f:=by rw[sq,←hf];rfl
   have hmp:=Ar (pl.drop at4) (f.data.length - f.stl)
   obtain⟨m,zz⟩: ∃m,jG (pl.drop at4) (f.data.length - f.stl)=m:=⟨_,rfl⟩
   rw[zz] at hmp
   obtain⟨rf,restf,cf,K6,p6,ik⟩:=Gr.upd hP.files kw cU (ck ⟨f.data.take (f.stl+m),(f.data.take (f.stl+m)).length⟩)
   have rdf:=aQ (w0:=w) p6
   have ixf:i_ (.sl (true,2)) G4.f (some (n:Int))=some (vp rf (n*2)):=by rw[K6,pS _ _ _ _ _ _ oM];simp
   have lf0:=fun y=>IF (E:=92) (rest:=restf) n cU y
   have lf1:=fun y=>Oo (E:=92) (rest:=restf) n cU y
   rw[lE] at lf0 lf1
   have lf0': ∀y,aG (some (false,y)) (some (cO fdC 92 restf (S4.files.map ck))) (n*2)=some (vs f.data):=lf0
   have lf1': ∀y,aG (some (false,y)) (some (cO fdC 92 restf (S4.files.map ck))) (n*2+1)=some (vi (f.stl:Int)):=lf1
   clear lf0 lf1
   refine kz [25,28,30,31,1000027] (aN @gI (aN @rdd (aN @lds (aN @lns @d3)))) ?_
   refine Cw.regionS [G4.bd,rs] [0,1,2,4,5,6,7,8,9,11,3,10,12,13,14,15,16] [] kR kR kR ?_
   simp only[ai, ↓ah, ↓ab, ↓ag, ↓ae,ac]
   refine kq (aN @gI (aN @rdd (aN @lds (aN @ixs (aN @rds (aN @ld1 @ixf)))))) ?_
   refine kz [28,30,31,1000027] @gI ?_
   refine Cw.cutO (G:=CkG) [4,13,108,109,110,111,112,113,114,115,116,117,118,119,120,121,122,123,124,125,126,127,128,129,130] (fun g=> [(4,vi g.at_),(13,vi g.n)]) (fun g=>X4) (fun g=>g.n=m∧pl.drop g.at_=(pl.drop at4).drop 1∧g.at_≤pl.length) ?_ ?_
   ·by_cases eC:at4<pl.length
    ·have d4:decide ((at4:Int)< (pl.length:Int))=true:=aK oM
     obtain h0| ⟨rb,off,arr,E,fz,hr,kA,sV⟩:=vN
     ·rw[h0] at eC;simp at eC
     have rda:aU w X4 rb=some (.cells arr E fz):=hE.old (hr.has oM) sV
     have ix:=hr.idx false at4 eC
     have ld:=fun n=>wu hr eC n
     have eh:pl.drop at4=pl.getD at4 0::pl.drop (at4+1):=by
      rw[List.drop_eq_getElem_cons eC,List.getD_eq_getElem?_getD,List.getElem?_eq_getElem eC];rfl
     generalize pl.getD at4 0=x at*
     have es: (f.data.length:Int) - (f.stl:Int)=((f.data.length - f.stl:Nat):Int):=by omega
     have em: (x.toNat:Int)% (((f.data.length - f.stl:Nat):Int)+1)=((x.toNat% (f.data.length - f.stl+1):Nat):Int):=by rw[Int.natCast_emod];rfl
     have hx:=x.toNat_lt
     rw[eh] at zz
     refine kz [28] (aN @gI (aN @lnp @d4)) ?_
     refine Cw.regionS [rb,rf] [0,1,2,5,6,7,10,11,12,3,4,8,9,13,14,15,16,17] [] kR kR kR ?_
     simp only[ai, ↓ah, ↓ab, ↓ag, ↓ae,ac]
     refine kq (aN @gI (aN @ix (aN @rda (aN @ld (aN @rdf (aN @lf0' (aN @lf1' (aN @es @em)))))))) ?_
     refine ky @gI ?_
     exact CutO.mk ⟨at4+1,x.toNat% (f.data.length - f.stl+1)⟩ ⟨zz,by rw[eh];rfl,eC⟩ rfl rfl
    have d4:decide ((at4:Int)< (pl.length:Int))=false:=aO oM
    have eh:pl.drop at4= []:=List.drop_eq_nil_of_le oM
    rw[eh] at zz
    refine ky (aN @gI (aN @lnp @d4)) ?_
    exact CutO.mk ⟨at4,0⟩ ⟨zz,by rw[eh];rfl,kY⟩ rfl rfl
   intro g j hg
   refine kv ?_
   obtain⟨at5,m5⟩:=g
   simp only at hg ⊢
   obtain⟨rfl,hat5,y7⟩:=hg
   have y5: (f.stl:Int)+ (m5:Int)=((f.stl+m5:Nat):Int):=by omega
   have dc:f.stl+m5≤f.data.length:=by omega
   obtain⟨l0,sP⟩: ∃l0,S4.files.map ck=l0:=⟨_,rfl⟩
   rw[sP] at cU lE rdf lf0' lf1' p6 ik
   have st0: ∀a:Bool,ad (some (a,1)) (some (cO fdC 92 restf l0)) (n*2) (vs (f.data.take (f.stl+m5)))=some (cO fdC 92 restf (l0.set n ⟨f.data.take (f.stl+m5),(f.stl:Int)⟩)):=fun a=>by
    rw[KJ_ n cU _ a,lE];rfl
   obtain⟨l1,fq⟩: ∃l1,l0.set n ⟨f.data.take (f.stl+m5),(f.stl:Int)⟩=l1:=⟨_,rfl⟩
   have jY:l1.getD n fd0=⟨f.data.take (f.stl+m5),(f.stl:Int)⟩:=by
    rw[←fq,List.getD_eq_getElem?_getD,List.getElem?_set_self cU];rfl
   have Hb:n<l1.length:=by rw[←fq,List.length_set];exact cU
   rw[fq] at st0
   have nL:Sx.look (setB X4 rf (cO fdC 92 restf l1)) rf=some (cO fdC 92 restf l1):=dp p6
   have rd1:=aQ (w0:=w) nL
   have lg0: ∀y,aG (some (false,y)) (some (cO fdC 92 restf l1)) (n*2)=some (vs (f.data.take (f.stl+m5))):=fun y=>by
    rw[IF n Hb y,jY]
   have st1: ∀a:Bool,ad (some (a,1)) (some (cO fdC 92 restf l1)) (n*2+1) (vi ((f.data.take (f.stl+m5)).length:Int))=some (cO fdC 92 restf (l0.set n (ck ⟨f.data.take (f.stl+m5),(f.data.take (f.stl+m5)).length⟩))):=fun a=>by
    rw[Ku_ n Hb _ a,jY,←fq,List.set_set];rfl
   have kC: (f.data.take (f.stl+m5)).length≤1048576:=by rw[List.length_take];omega
   have I1: (f.data.take (f.stl+m5)).length=f.stl+m5:=by rw[List.length_take];omega
   refine kz [30,31] @gI ?_
   refine Cw.regionO [0,1,2,3,5,6,7,9,4,8,10,11,12,13,14] [14] rfl kR kR ?_
   simp only[ai, ↓ah, ↓ab, ↓ag, ↓ae,ac]
   refine kq (aN @gI (aN @rdf (aN @lf0' (aN @lf1' @y5)))) ?_
   refine Ow.store rfl rfl rfl (ke (aN @gI (aN @p6 @st0))) ?_
   refine ko @gI ?_
   refine ky (aN @gI (aN @rd1 (aN @lg0 (aN @nL (aN @st1 @lz))))) ?_
   have dv:Sx.look (setB (setB X4 rf (cO fdC 92 restf l1)) rf (cO fdC 92 restf (l0.set n (ck ⟨f.data.take (f.stl+m5),(f.data.take (f.stl+m5)).length⟩)))) rf=some (cO fdC 92 restf (l0.set n (ck ⟨f.data.take (f.stl+m5),(f.data.take (f.stl+m5)).length⟩))):=dp nL
   have Ji:eI (S4,pl.drop at4) (qs,n)=(eG S4 n ⟨f.data.take (f.stl+m5),(f.data.take (f.stl+m5)).length⟩,pl.drop at5):=by
    unfold eI
    simp only
    rw[hf,zz,hat5]
   refine Again.mk ⟨i+1,at5,eG S4 n ⟨f.data.take (f.stl+m5),(f.data.take (f.stl+m5)).length⟩,G4,setB (setB X4 rf (cO fdC 92 restf l1)) rf (cO fdC 92 restf (l0.set n (ck ⟨f.data.take (f.stl+m5),(f.data.take (f.stl+m5)).length⟩)))⟩ (by show sn.length - (i+1)<sn.length - i;omega) ⟨cY,by rw[j6,Ji],y7, ?_,rfl,hE.setB.setB,HE,(by show(S4.files.set _ _).length=_;rw[List.length_set];exact hf4), ?_⟩ rfl rfl
   ·have kA:rf≠G4.bd:=fun e=>by
     rw[e,hP.disk] at p6
     have:=congrArg tyO (Option.some.inj p6)
     rw[gC] at this
     exact qX this
    refine DcP.updF (G:=G4) hP (v:=G4.f) (fun b o hb lE ho=> ?_) ?_ ?_
    ·have aX:rf≠b:=by rintro rfl;exact lE (by rw[K6];rfl)
     rw[bR aX,bR aX];exact ho
    ·rw[bR kA,bR kA];exact hP.disk
    show Gr _ _ _ _ _ _
    rw[List.map_set,sP]
    exact ik _ dv
   intro j hj
   have fY:j<S4.files.length:=by
    have: (S4.files.set n ⟨f.data.take (f.stl+m5),(f.data.take (f.stl+m5)).length⟩).length=S4.files.length:=List.length_set ..
    have h2:j< (S4.files.set n ⟨f.data.take (f.stl+m5),(f.data.take (f.stl+m5)).length⟩).length:=hj
    omega
   rw[va _ _ hn5]
   by_cases e:j=n
   ·rw[if_pos e];exact⟨kC,bq _⟩
   rw[if_neg e];exact u7 j fY
  obtain rfl:i=sn.length:=by omega
  have d3:decide ((sn.length:Int)< (sn.length:Int))=false:=aO oM
  rw[List.take_length,←cF] at ar
  refine ky (aN @gI (aN @rdd (aN @lds (aN @lns @d3)))) ?_
  exact Again.mk ⟨k+1,at4,S4,G4,X4⟩ (by show 3 - (k+1)<3 - k;omega) ⟨aC,ar,kY,hP,rfl,hE,HE,hf4,u7⟩ rfl rfl
 obtain rfl:k=3:=by omega
 have d2:decide (((3:Nat):Int)<3)=false:=rfl
 refine ky (aN @gI @d2) ?_
 refine⟨_,(ke @gI), ?_⟩
 rw[←eO]
 exact⟨hE,G3,rfl,hP⟩
end Go.Proofs
end
section
open Go Go.Proofs Go.Sx Go.StP Go.Flo
namespace Go.Proofs
def mZ:=aN @av (aN @au @Ud)
def DI (x a b:Int) (w:World) (hx:x.natAbs<8192) (ha:a.natAbs<8192) (hb:b.natAbs<8192):
  Rets prog 221 #[fl x,vi a,vi b] w (fun v D=>v= .tuple #[vi (if a≤x∧x≤b then x else 0), .bool (decide (a≤x∧x≤b))]∧D= []):=by
 refine Rets.enterV func221 rfl (rs:= [.tmp 6, .tmp 7]) results221 ntmps221 ?_
 refine kf ?_
 refine ky @mZ ?_
 refine Ow.convIF rfl rfl cvIF underlying3 underlying286 rfl ?_
 refine Ow.fgeq rfl rfl rfl hx ha ?_
 by_cases h1:a≤x
 ·rw[aK h1]
  refine ko @mZ ?_
  refine Ow.convIF rfl rfl cvIF underlying3 underlying286 rfl ?_
  refine Ow.fleq rfl rfl rfl hx hb ?_
  by_cases h2:x≤b
  ·rw[aK h2,aK (show a≤x∧x≤b from⟨h1,h2⟩),if_pos ⟨h1,h2⟩]
   refine ko @mZ ?_
   refine ky @mZ ?_
   refine Ow.convFI rfl rfl cvFI underlying286 underlying3 rfl hx ?_
   refine ko @mZ ?_
   refine ky @mZ ?_
   refine Ow.convIF rfl rfl cvIF underlying3 underlying286 rfl ?_
   refine ko @mZ ?_
   refine Ow.feql rfl rfl rfl hx hx ?_
   rw[show(x==x)=true by simp]
   refine ko @mZ ?_
   refine ky @mZ ?_
   refine⟨_,(ke @mZ),trivial, ?_⟩
   rfl
  rw[aO h2,aO (show¬ (a≤x∧x≤b) from fun h=>h2 h.2),if_neg (fun h=>h2 h.2)]
  refine ko @mZ ?_
  refine ky @mZ ?_
  refine⟨_,(ke @mZ),trivial, ?_⟩
  rfl
 rw[aO h1,aO (show¬ (a≤x∧x≤b) from fun h=>h1 h.1),if_neg (fun h=>h1 h.1)]
 refine ko @mZ ?_
 refine ky @mZ ?_
 refine⟨_,(ke @mZ),trivial, ?_⟩
 rfl
def cpR (p:PcL) (b:Int):Value:=match cpV p b with
 |some q=> .tuple #[vi q.1,vi q.2, .bool true]
 |none=>if(1≤p.n∧p.n≤4099)∧p.x= []∧(p.n:Int)≤b then .tuple #[vi 0,vi p.n, .bool false] else .tuple #[vi 0,vi 0, .bool false]
def Ya {p:PcL} {b:Int} (h:1≤p.n∧p.n≤4099∧p.x= []∧(p.a:Int)≤b - p.n):cpV p b=some (p.a,p.n):=by unfold cpV;rw[if_pos h]
def oT {p:PcL} {b:Int} (h: ¬ (1≤p.n∧p.n≤4099∧p.x= []∧(p.a:Int)≤b - p.n)):cpV p b=none:=by unfold cpV;rw[if_neg h]
def jx:=aN (aN (aN (aN @av @au) (aN @zR @zX)) (aN (aN @zJ @wD) (aN @Df @cxz))) (aN (aN (aN @Ek @Dv) (aN @KX @Sx.tup2_0)) (aN (aN @Sx.tup2_1 @Sx.tup3_0) (aN @Sx.tup3_1 @Sx.tup3_2)))
def If (p:PcL) (b:Int) (w:World) (hp:PcB p) (h0:0≤b) (h1:b≤4099):
  Rets prog 212 #[.agg (pcC p).toArray,vi b] w (fun v D=>v=cpR p b∧D= []):=by
 obtain⟨hpa,sU⟩:=hp
 refine Rets.enterV func212 rfl (rs:= [.tmp 4, .tmp 5, .tmp 6]) results212 ntmps212 ?_
 refine kf ?_
 refine ky @jx ?_
 refine Ow.box rfl rfl fun b2 aq bV=> ?_
 simp only[dC,cy,dA,aS,List.nil_append,List.cons_append]
 refine Ow.go rfl ?_
 simp(disch:=first|exact dD|fail) only[↓Sx.S0,Sx.S1,fx,jx,Nat.reduceAdd,Nat.reducePow,Int.reducePow,Nat.reduceBEq, ↓reduceIte,UInt8.reduceToNat,UInt16.reduceToNat,UInt32.reduceToNat,UInt64.reduceToNat,Int.reduceToNat]
 refine ky @jx ?_
 refine Ow.imag rfl rfl ?_
 refine Ow.callFV rfl call221 (fun w' aA=>DI (p.n:Int) 1 4099 w' oM oM oM) ?_
 unfold cpR
 by_cases c1:1≤p.n
 ·rw[aK (show(1:Int)≤ (p.n:Int)∧(p.n:Int)≤4099 by omega),if_pos (show(1:Int)≤ (p.n:Int)∧(p.n:Int)≤4099 by omega)]
  by_cases c2:p.x= []
  ·have d2:decide (0< (p.x.length:Int))=false:=by rw[c2];rfl
   by_cases c4: (p.n:Int)≤b
   ·have d4:decide (b< (p.n:Int))=false:=aO oM
    refine ko (aN @jx (aN @d2 @d4)) ?_
    refine ky @jx ?_
    refine Ow.real rfl rfl ?_
    refine ko @jx ?_
    refine Ow.callFV rfl call221 (fun w' aA=>DI (p.a:Int) 0 (b - p.n) w' oM oM oM) ?_
    by_cases c3: (p.a:Int)≤b - p.n
    ·rw[aK (show(0:Int)≤ (p.a:Int)∧(p.a:Int)≤b - p.n by omega),if_pos (show(0:Int)≤ (p.a:Int)∧(p.a:Int)≤b - p.n by omega),Ya ⟨c1,sU,c2,c3⟩]
     refine ko @jx ?_
     refine ky @jx ?_
     refine⟨_,(ke @jx),⟨bV,trivial⟩, ?_⟩
     rfl
    rw[aO (show¬ ((0:Int)≤ (p.a:Int)∧(p.a:Int)≤b - p.n) by omega),if_neg (show¬ ((0:Int)≤ (p.a:Int)∧(p.a:Int)≤b - p.n) by omega),oT (fun h=>c3 h.2.2.2)]
    simp only
    rw[if_pos ⟨⟨c1,sU⟩,c2,c4⟩]
    refine ko @jx ?_
    refine ky @jx ?_
    refine⟨_,(ke @jx),⟨bV,trivial⟩, ?_⟩
    rfl
   have d4:decide (b< (p.n:Int))=true:=aK oM
   rw[oT (fun h=>by have:=h.2.2.2;omega)]
   simp only
   rw[if_neg (fun h=>c4 h.2.2)]
   refine ko (aN @jx (aN @d2 @d4)) ?_
   refine ky @jx ?_
   refine⟨_,(ke @jx),⟨bV,trivial⟩, ?_⟩
   rfl
  have d2:decide (0< (p.x.length:Int))=true:=aK (by have:=List.length_pos_iff.2 c2;omega)
  rw[oT (fun h=>c2 h.2.2.1)]
  simp only
  rw[if_neg (fun h=>c2 h.2.1)]
  refine ko (aN @jx @d2) ?_
  refine ky @jx ?_
  refine⟨_,(ke @jx),⟨bV,trivial⟩, ?_⟩
  rfl
 rw[aO (show¬ ((1:Int)≤ (p.n:Int)∧(p.n:Int)≤4099) by omega),if_neg (show¬ ((1:Int)≤ (p.n:Int)∧(p.n:Int)≤4099) by omega),oT (fun h=>c1 h.1)]
 simp only
 rw[if_neg (fun h=>c1 h.1.1)]
 refine ko @jx ?_
 refine ky @jx ?_
 refine⟨_,(ke @jx),⟨bV,trivial⟩, ?_⟩
 rfl
def Wu_ {p:PcL} {b:Int} (h:fw p b≠0):fw p b=(match cpV p b with|some q=>q.2|none=>p.x.length):=by
 unfold fw at h ⊢
 split
 ·rename_i hz
  rw[oT (fun hc=>by omega)]
 rename_i hz
 rw[if_neg hz] at h
 cases hc:cpV p b with
 |none=>rw[hc] at h;exact absurd rfl h
 |some q=>rfl
def Wp {p:PcL} {b:Int} {q:Nat×Nat} (h:cpV p b=some q):q=(p.a,p.n)∧1≤p.n:=by
 unfold cpV at h
 split at h
 ·rename_i hc;cases h;exact⟨rfl,hc.1⟩
 cases h
def iy:=aN (aN (aN (aN @av @au) (aN @zR @zX)) (aN (aN @zJ @wD) (aN @Df @cxz))) (aN (aN (aN @Ek @Dv) (aN @KX @Sx.tup2_0)) (aN (aN @Sx.tup2_1 @Sx.tup3_0) (aN @Sx.tup3_1 @Sx.tup3_2)))
def PZ (p:PcL) (b:Int) (w:World) (hp:PcB p) (h0:0≤b) (h1:b≤4099):
  Rets prog 220 #[.agg (pcC p).toArray,vi b] w (fun v D=>v= .bool (decide (fw p b≠0))∧D= []):=by
 have uQ:=hp
 obtain⟨hpa,sU⟩:=uQ
 have j_: ¬ (p.a=0∧p.n=0)→(cpV p b).isSome=decide (fw p b≠0):=by
  intro hz
  unfold fw
  rw[if_neg (fun h=>hz ⟨h.1,h.2.1⟩)]
  cases hc:cpV p b with
  |none=>rfl
  |some q=>
   obtain⟨rfl,hn⟩:=Wp hc
   rw[aK (show p.n≠0 by omega)]
   rfl
 refine Rets.enterV func220 rfl (rs:= [.tmp 4]) results220 ntmps220 ?_
 refine kf ?_
 refine kz [3] @iy ?_
 refine Ow.box rfl rfl fun b2 aq bV=> ?_
 simp only[dC,cy,dA,aS,List.nil_append,List.cons_append]
 refine Ow.go rfl ?_
 simp(disch:=first|exact dD|fail) only[↓Sx.S0,Sx.S1,fx,iy,Nat.reduceAdd,Nat.reducePow,Int.reducePow,Nat.reduceBEq, ↓reduceIte,UInt8.reduceToNat,UInt16.reduceToNat,UInt32.reduceToNat,UInt64.reduceToNat,Int.reduceToNat]
 refine ky @iy ?_
 refine Ow.real rfl rfl ?_
 refine Ow.feql (b:=0) rfl rfl rfl oM oM ?_
 have fin: ∀v,v=cpR p b→ ∃x y,v= .tuple #[x,y, .bool (cpV p b).isSome]:=by
  rintro v rfl
  unfold cpR
  cases cpV p b with
  |some q=>exact⟨_,_,rfl⟩
  |none=>
   simp only
   split
   ·exact⟨_,_,rfl⟩
   exact⟨_,_,rfl⟩
 obtain⟨x,y,hxy⟩:=fin _ rfl
 by_cases ha:p.a=0
 ·have e1: (((p.a:Nat):Int)==0)=true:=by rw[ha];rfl
  rw[e1]
  refine ko @iy ?_
  refine Ow.imag rfl rfl ?_
  refine Ow.feql (b:=0) rfl rfl rfl oM oM ?_
  by_cases hn:p.n=0
  ·have e2: (((p.n:Nat):Int)==0)=true:=by rw[hn];rfl
   rw[e2]
   have hc:cpV p b=none:=oT (fun h=>by omega)
   by_cases hl:1≤p.x.length
   ·have d1:decide ((1:Int)≤ (p.x.length:Int))=true:=aK oM
    by_cases hm:p.x.length≤4099
    ·have d2:decide ((p.x.length:Int)≤4099)=true:=aK oM
     have hr:decide (fw p b≠0)=true:=aK (by unfold fw;rw[if_pos ⟨ha,hn,hm⟩];omega)
     rw[hr]
     refine ko (aN @iy (aN @d1 @d2)) ?_
     refine ky (aN @iy (aN @d1 @d2)) ?_
     refine⟨_,(ke @iy),⟨bV,trivial⟩, ?_⟩
     rfl
    have d2:decide ((p.x.length:Int)≤4099)=false:=aO oM
    have hr:decide (fw p b≠0)=false:=aO (by unfold fw;rw[if_neg (fun h=>hm h.2.2),hc];simp)
    rw[hr]
    refine ko (aN @iy (aN @d1 @d2)) ?_
    refine ky (aN @iy (aN @d1 @d2)) ?_
    refine⟨_,(ke @iy),⟨bV,trivial⟩, ?_⟩
    rfl
   have d1:decide ((1:Int)≤ (p.x.length:Int))=false:=aO oM
   have hr:decide (fw p b≠0)=false:=aO (by unfold fw;rw[if_pos ⟨ha,hn,by omega⟩];omega)
   rw[hr]
   refine ko (aN @iy @d1) ?_
   refine ky (aN @iy @d1) ?_
   refine⟨_,(ke @iy),⟨bV,trivial⟩, ?_⟩
   rfl
  have e2: (((p.n:Nat):Int)==0)=false:=beq_eq_false_iff_ne.2 oM
  rw[e2,←j_ (fun h=>hn h.2)]
  refine ko @iy ?_
  refine ky @iy ?_
  refine Ow.callFV rfl call212 (fun w' aA=>If p b w' hp h0 h1) ?_
  rw[hxy]
  refine ko @iy ?_
  refine ky @iy ?_
  refine⟨_,(ke @iy),⟨bV,trivial⟩, ?_⟩
  rfl
 have e1: (((p.a:Nat):Int)==0)=false:=beq_eq_false_iff_ne.2 oM
 rw[e1,←j_ (fun h=>ha h.1)]
 refine ko @iy ?_
 refine ky @iy ?_
 refine Ow.callFV rfl call212 (fun w' aA=>If p b w' hp h0 h1) ?_
 rw[hxy]
 refine ko @iy ?_
 refine ky @iy ?_
 refine⟨_,(ke @iy),⟨bV,trivial⟩, ?_⟩
 rfl
def EC {p:PcL} {b:Int} {q:Nat×Nat} (h:cpV p b=some q):cpR p b= .tuple #[vi q.1,vi q.2, .bool true]:=by unfold cpR;rw[h]
def Dn {p:PcL} {b:Int} (h:cpV p b=none): ∃y:Int,cpR p b= .tuple #[vi 0,vi y, .bool false]:=by
 unfold cpR
 rw[h]
 simp only
 split
 ·exact⟨_,rfl⟩
 exact⟨_,rfl⟩
def iw:=aN (aN (aN @av @au) (aN @zR (aN @zX @zJ))) (aN (aN @wD (aN @Sx.tup2_0 @Sx.tup2_1)) (aN @Sx.tup3_0 (aN @Sx.tup3_1 @Sx.tup3_2)))
def Wd_ (b:Int) (v:Value) (l:List PcL) (w:World) (hv:PcSl w v l) (hl:BndP l) (hn:l.length<1000000000):
  Rets prog 211 #[vi b,v] w (fun v D=>v= .tuple #[vi (chkV b l).1,vi (chkV b l).2]∧D= []):=by
 obtain⟨bb,off,arr,E,fz,hr⟩:=hv.row
 have ln:=hv.len
 refine Rets.enterV func211 rfl (rs:= [.tmp 4, .tmp 5]) results211 ntmps211 ?_
 refine kf ?_
 unfold chkV
 by_cases jy:b<0
 ·have d1:decide (b<0)=true:=aK jy
  rw[if_pos (.inl jy)]
  refine ky (aN @iw @d1) ?_
  refine⟨_,(ke @iw),trivial, ?_⟩
  rfl
 have d1:decide (b<0)=false:=aO jy
 by_cases g4:4099<b
 ·have d2:decide (4099<b)=true:=aK g4
  rw[if_pos (.inr g4)]
  refine ky (aN @iw (aN @d1 @d2)) ?_
  refine⟨_,(ke @iw),trivial, ?_⟩
  rfl
 have d2:decide (4099<b)=false:=aO g4
 rw[if_neg oM]
 refine ky (aN @iw (aN @d1 @d2)) ?_
 refine Cw.loopG (G:=Nat) [18,19,20,21,24,25,26,27,28,29,30,4,5,22,23,6] (fun g=> [(6,vi g)]) (fun g=> []) (fun g=>g≤l.length∧anyZ b (l.take g)=false) (fun g=>l.length - g) 0 rfl rfl ?_ ?_
 ·exact⟨aV _,rfl⟩
 intro k jk hk
 refine kv ?_
 obtain⟨hk,hz⟩:=hk
 by_cases aC:k<l.length
 ·have d3:decide ((k:Int)< (l.length:Int))=true:=aK oM
  have rd:=hr.has oM
  have ix:=hr.idx true k aC
  have ld:=hr.load vu oM aC
  obtain⟨vM,z_⟩:=hl k aC
  have K3:=S7 (b:=b) aC
  have hmz:=wS (b:=b) aC
  generalize l.getD k pc0=p at*
  refine ky (aN @iw (aN @ln (aN @d3 (aN @ix (aN @rd @ld))))) ?_
  refine Ow.callFV rfl call220 (fun w' aA=>PZ p b w' vM oM oM) ?_
  by_cases gr:fw p b=0
  ·rw[aO (show¬ (fw p b≠0) by omega),if_pos (hmz gr)]
   refine ko @iw ?_
   refine ky @iw ?_
   refine⟨_,(ke @iw),trivial, ?_⟩
   rfl
  rw[aK (show fw p b≠0 from gr)]
  refine ko @iw ?_
  refine ky @iw ?_
  refine Again.mk (k+1) oM ⟨aC, ?_⟩ rfl rfl
  rw[K3,hz,Bool.false_or]
  exact beq_eq_false_iff_ne.2 gr
 obtain rfl:k=l.length:=by omega
 have d3:decide ((l.length:Int)< (l.length:Int))=false:=aO oM
 rw[List.take_length] at hz
 rw[if_neg (by rw[hz];decide)]
 refine ky (aN @iw (aN @ln @d3)) ?_
 refine Cw.loopG (G:=Nat) [31,32,33,34,38,39,40,41,42,43,37,44,45,46,9,10,11,47,48,49,50,51,52,53,54,55,56,57,7,58,59,4,5,35,36,8] (fun g=> [(7,vi (eS b (l.take g):Nat)),(8,vi g)]) (fun g=> []) (fun g=>g≤l.length∧eS b (l.take g)≤4099) (fun g=>l.length - g) 0 rfl rfl ?_ ?_
 ·exact⟨aV _,by simp[eS]⟩
 intro m jm hm
 refine kv ?_
 obtain⟨hm,hs⟩:=hm
 by_cases aC:m<l.length
 ·have d4:decide ((m:Int)< (l.length:Int))=true:=aK oM
  have rd:=hr.has oM
  have ix:=hr.idx true m aC
  have ld:=hr.load vu oM aC
  have ld1:aG (some (false,1)) (some (.cells arr E fz)) (off+m*2+1)=some (vs (l.getD m pc0).x):=hr.cell (j:=1) (n:=1) aC oM
  obtain⟨vM,z_⟩:=hl m aC
  have bK:=SZ (b:=b) aC
  have dc:=KS_ (b:=b) (l:=l) (g:=m+1)
  have gr:fw (l.getD m pc0) b≠0:=fun h=>by rw[wS aC h] at hz;cases hz
  have mL:=Wu_ gr
  have fc:=EY (l.getD m pc0) b
  generalize l.getD m pc0=p at*
  refine kz [15] (aN @iw (aN @ln (aN @d4 (aN @ix (aN @rd @ld))))) ?_
  refine Ow.callFV rfl call212 (fun w' aA=>If p b w' vM oM oM) ?_
  have fin: ∀N:Nat,eS b (l.take (m+1))=eS b (l.take m)+N→((eS b (l.take m):Nat):Int)+ (N:Int)=((eS b (l.take (m+1)):Nat):Int):=fun N h=>by omega
  cases hc:cpV p b with
  |some q=>
   rw[hc] at mL
   simp only at mL
   rw[EC hc,←mL]
   generalize fw p b=N at*
   have hf:=fin N bK
   refine ko @iw ?_
   by_cases h4:4099<eS b (l.take (m+1))
   ·have d5:decide ((4099:Int)< ((eS b (l.take (m+1)):Nat):Int))=true:=aK oM
    rw[if_pos (show 4099<eS b l by omega)]
    refine ky (aN @iw (aN @hf @d5)) ?_
    refine⟨_,(ke @iw),trivial, ?_⟩
    rfl
   have d5:decide ((4099:Int)< ((eS b (l.take (m+1)):Nat):Int))=false:=aO oM
   refine ky (aN @iw (aN @hf @d5)) ?_
   exact Again.mk (m+1) oM ⟨aC,by omega⟩ rfl rfl
  |none=>
   rw[hc] at mL
   simp only at mL
   obtain⟨y,hy⟩:=Dn hc
   rw[hy]
   have hf:=fin p.x.length oM
   refine ko (aN @iw (aN @ix (aN @rd @ld1))) ?_
   by_cases h4:4099<eS b (l.take (m+1))
   ·have d5:decide ((4099:Int)< ((eS b (l.take (m+1)):Nat):Int))=true:=aK oM
    rw[if_pos (show 4099<eS b l by omega)]
    refine ky (aN @iw (aN @hf @d5)) ?_
    refine⟨_,(ke @iw),trivial, ?_⟩
    rfl
   have d5:decide ((4099:Int)< ((eS b (l.take (m+1)):Nat):Int))=false:=aO oM
   refine ky (aN @iw (aN @hf @d5)) ?_
   exact Again.mk (m+1) oM ⟨aC,by omega⟩ rfl rfl
 obtain rfl:m=l.length:=by omega
 have d4:decide ((l.length:Int)< (l.length:Int))=false:=aO oM
 rw[List.take_length] at hs
 rw[if_neg oM,List.take_length]
 refine ky (aN @iw (aN @ln @d4)) ?_
 refine⟨_,(ke @iw),trivial, ?_⟩
 rfl
def Yo {p:PcL} {b:Int} {q:Nat×Nat} (h:cpV p b=some q):q=(p.a,p.n)∧1≤p.n∧p.n≤4099∧p.x= []∧(p.a:Int)≤b - p.n:=by
 unfold cpV at h
 split at h
 ·rename_i hc;cases h;exact⟨rfl,hc⟩
 cases h
def pU:=aN (aN (aN @av @au) (aN @zR (aN @zX @zJ))) (aN (aN @wD (aN @Sx.tup2_0 @Sx.tup2_1)) (aN @Sx.tup3_0 (aN @Sx.tup3_1 @Sx.tup3_2)))
def OP (base:List UInt8) (v:Value) (l:List PcL) (w:World) (hv:PcSl w v l) (hl:BndP l) (hn:l.length<1000000000):
  Rets prog 193 #[vs base,v] w (fun v' D=>v'= .tuple #[vs (if(chkV base.length l).2=0 then txtP base l else []),vi (chkV base.length l).2]∧D= []):=by
 obtain⟨bb,off,arr,E,fz,hr⟩:=hv.row
 have ln:=hv.len
 refine Rets.enterV func193 rfl (rs:= [.tmp 4, .tmp 5]) results193 ntmps193 ?_
 refine kf ?_
 refine ky @pU ?_
 refine Ow.callFV rfl call211 (fun w' aA=>Wd_ (base.length:Int) v l w' (hv.oldN aA trivial) hl hn) ?_
 by_cases he: (chkV base.length l).2=0
 ·obtain⟨m,hm⟩: ∃m,chkV base.length l=(m,0):=⟨(chkV base.length l).1,by rw[←he]⟩
  obtain⟨-,g4,hz,hs4,-,rM⟩:=ws hm
  rw[if_pos he,hm]
  have e0: ((0:Int) !=0)=false:=rfl
  refine ko @pU ?_
  refine ky (aN @pU @e0) ?_
  refine Cw.loopG (G:=Nat) [23,24,25,26,30,31,32,33,34,35,36,29,37,38,39,10,11,12,40,41,42,43,44,45,46,47,48,8,49,50,51,52,53,54,55,27,28,9] (fun g=> [(8,vs (txtP base (l.take g))),(9,vi g)]) (fun g=> []) (fun g=>g≤l.length) (fun g=>l.length - g) 0 rfl rfl ?_ ?_
  ·exact aV _
  intro k jk hk
  refine kv ?_
  by_cases aC:k<l.length
  ·have d3:decide ((k:Int)< (l.length:Int))=true:=aK oM
   have rd:=hr.has oM
   have ix:=hr.idx true k aC
   have ld:=hr.load vu oM aC
   have ld1:aG (some (false,1)) (some (.cells arr E fz)) (off+k*2+1)=some (vs (l.getD k pc0).x):=hr.cell (j:=1) (n:=1) aC oM
   obtain⟨vM,z_⟩:=hl k aC
   have K3:=RP (base:=base) aC
   have fe:pcT base (l.getD k pc0)=(match cpV (l.getD k pc0) base.length with|some q=>(base.drop q.1).take q.2++ (l.getD k pc0).x|none=>(l.getD k pc0).x):=rfl
   have kC: (txtP base (l.take k)).length≤4099:=by
    rw[wj (base:=base) (X6 (g:=k) hz)]
    have:=KS_ (b:=(base.length:Int)) (l:=l) (g:=k)
    omega
   have gV:cpV (l.getD k pc0) base.length=none→(l.getD k pc0).x.length≤4099:=fun hc=>by
    have gr:fw (l.getD k pc0) base.length≠0:=fun h=>by rw[wS aC h] at hz;cases hz
    have h1:=Wu_ gr
    have h2:=EY (l.getD k pc0) base.length
    rw[hc] at h1
    simp only at h1
    omega
   generalize l.getD k pc0=p at*
   refine ky (aN @pU (aN @ln (aN @d3 (aN @ix (aN @rd @ld))))) ?_
   refine Ow.callFV rfl call212 (fun w' aA=>If p (base.length:Int) w' vM oM oM) ?_
   cases hc:cpV p base.length with
   |some q=>
    rw[hc] at fe
    simp only at fe
    obtain⟨rfl,h1,h2,h3,h4⟩:=Yo hc
    rw[EC hc]
    rw[h3,List.append_nil] at fe
    simp only at fe ⊢
    refine ko @pU ?_
    refine ky @pU ?_
    refine Again.mk (k+1) oM oM rfl ?_
    rw[K3,fe,←show(base.take (p.a+p.n)).drop p.a=(base.drop p.a).take p.n by rw[List.drop_take,Nat.add_sub_cancel_left]]
    rfl
   |none=>
    rw[hc] at fe
    simp only at fe
    obtain⟨y,hy⟩:=Dn hc
    have hx4:=gV hc
    rw[hy]
    refine ko @pU ?_
    refine ky (aN @pU (aN @ix (aN @rd @ld1))) ?_
    refine Again.mk (k+1) oM oM rfl ?_
    rw[K3,fe]
    rfl
  obtain rfl:k=l.length:=by omega
  have d3:decide ((l.length:Int)< (l.length:Int))=false:=aO oM
  rw[List.take_length]
  refine ky (aN @pU (aN @ln @d3)) ?_
  refine⟨_,(ke @pU),trivial, ?_⟩
  rfl
 rw[if_neg he]
 have e0: ((chkV base.length l).2 !=0)=true:=bne_iff_ne.2 he
 refine ko @pU ?_
 refine ky (aN @pU @e0) ?_
 refine⟨_,(ke @pU),trivial, ?_⟩
 rfl
def rrO (s:List UInt8) (a:Nat) (e:Int):Obj:= .cells #[vs s,vi a,vi e] 139 (0,0)
def Dz (s:List UInt8) (a:Nat) (e:Int) (n:Nat):aG (some (false,n)) (some (rrO s a e)) 0=some (vs s):=(rfl)
def Ey (s:List UInt8) (a:Nat) (e:Int) (n:Nat):aG (some (false,n)) (some (rrO s a e)) 1=some (vi a):=(rfl)
def EL (s:List UInt8) (a:Nat) (e:Int) (n:Nat):aG (some (false,n)) (some (rrO s a e)) 2=some (vi e):=(rfl)
def NL (b:Nat) (s:List UInt8) (a:Nat) (e n:Int) (w:World) (ha:a≤s.length) (hs:s.length<1099511627776) (ho:w.heap[b]? =some (rrO s a e)):
  Rets prog 109 #[vp b 0,vi n] w (fun v D=> ∃o,D= [(b,o)]∧v=vs (bS s a e n).1∧o=rrO s (bS s a e n).2.1 (bS s a e n).2.2):=Kh b s a e n w ha hs ho
def A6 (b:Nat) (s:List UInt8) (a:Nat) (e most:Int) (w:World) (ha:a≤s.length) (hs:s.length<1099511627776) (ho:w.heap[b]? =some (rrO s a e)):
  Rets prog 70 #[vp b 0,vi most] w (fun v D=> ∃o,D= [(b,o)]∧v=vi (aF s a e most).1∧o=rrO s (aF s a e most).2.1 (aF s a e most).2.2):=KC b s a e most w ha hs ho
def Kx_ (b:Nat) (s:List UInt8) (a:Nat) (e:Int) (w:World) (ho:w.heap[b]? =some (rrO s a e)):
  Rets prog 73 #[vp b 0] w (fun v D=>v=vi (cJ s a e)∧D= []):=JS b s a e w ho
def zrRR:an prog 139=some (.agg #[vs [],vi 0,vi 0]):=id kR
def U1 (s:List UInt8):dl (cC prog 139) (an prog 139) [(0,vs s)]=some (.agg #[vs s,vi 0,vi 0]):=by
 rw[show cC prog 139=some [(0,1),(1,1),(2,1)] from id kR,zrRR];rfl
def TG:dl (cC prog 285) (an prog 285) []=some (.agg (pcC pc0).toArray):=by
 rw[show cC prog 285=some [(0,1),(1,1)] from id kR,zrPc];rfl
def SC (x n:Nat) (E:TypeId) (a:Bool):ad (some (a,1)) (some (.cells (pcC pc0).toArray E (0,0))) 0 (cx x n)=some (.cells (pcC ⟨x,n,[]⟩).toArray E (0,0)):=(rfl)
def Ss (x:List UInt8) (E:TypeId) (a:Bool):ad (some (a,1)) (some (.cells (pcC pc0).toArray E (0,0))) 1 (vs x)=some (.cells (pcC ⟨0,0,x⟩).toArray E (0,0)):=(rfl)
structure RrG where
 a:Nat
 e:Int
 out:List PcL
 v:Value
 D:aB
 DG:aB
def RrJ (d:List UInt8) (a0:Nat) (e0:Int) (sz:Nat) (g:RrG):Prop:=
 New sz g.D∧New sz g.DG∧Gr g.D 285 2 g.v g.out.length (g.out.map pcC).flatten∧g.a≤d.length∧BndP g.out∧g.out.length≤g.a+1∧(g.e=0→g.out.length≤g.a)∧
  ((e0≠0∧g.e≠0)∨(e0=0∧((g.e=0∧pcs d a0=(g.out++ (pcs d g.a).1,(pcs d g.a).2))∨(g.e≠0∧pcs d a0=(g.out,g.a,g.e)))))
def tY (d:List UInt8) (v:Value) (D:aB):Prop:=match oR d with
 |some p=> ∃x,v= .tuple #[vi p.1,x, .bool true]∧BndP p.2∧p.2.length≤4099∧p.1≤4099∧GrI D 285 2 x p.2.length (p.2.map pcC).flatten
 |none=>v= .tuple #[vi 0, .slice none 0 0, .bool false]
def TW {out:List PcL} {p:PcL} (h:BndP out) (hp:PcB p∧p.x.length<9223372036854775808):BndP (out++ [p]):=by
 intro g hg
 by_cases aC:g<out.length
 ·rw[C7 aC];exact h g aC
 rw[List.length_append] at hg
 rw[BH oM,show g - out.length=0 by simp at hg;omega]
 exact hp
def eJ:=aN (aN (aN @av (aN @au @Dz)) (aN (aN @Ey @EL) (aN @zR @zX))) (aN (aN (aN @zJ @wD) (aN @Sx.tup2_0 @Sx.tup2_1)) (aN (aN @Sx.tup3_0 @Sx.tup3_1) (aN @Sx.tup3_2 @KX)))
def Pe (d:List UInt8) (w:World) (hd:d.length<100000000):Rets prog 192 #[vs d] w (XS w [] (tY d)):=by
 refine Rets.enterX func192 rfl (rs:= [.tmp 2, .tmp 3, .tmp 4]) results192 ntmps192 (fun p hp=>by cases hp) (by simp[keys]) ?_
 refine kf ?_
 refine ky @eJ ?_
 refine Ow.build (.agg #[vs d,vi 0,vi 0]) rfl (U1 d) ?_
 refine ko @eJ ?_
 refine Ow.box rfl rfl fun br nn mO=> ?_
 simp only[dC,cy,dA,aS,List.nil_append]
 refine Ow.permL (M:= [(br,rrO d 0 0)]) (List.Perm.refl _) ?_
 refine ko @eJ ?_
 refine ky @eJ ?_
 have l1:=jf (s:=d) (a:=0) (e:=0) (most:=4099) (aV _)
 have m1:=sZ (s:=d) (a:=0) (e:=0) (most:=4099) oM
 refine Ow.callM rfl rfl call70 (by simp[keys]) (fun w' aA=>A6 br d 0 0 4099 w' (aV _) oM (aA.has _ _ am)) ?_
 refine kn ?_
 refine ko @eJ ?_
 refine ky @eJ ?_
 have l2:=jf (s:=d) (a:=(aF d 0 0 4099).2.1) (e:=(aF d 0 0 4099).2.2) (most:=4099) l1.2
 refine Ow.callM rfl rfl call70 (by simp[keys]) (fun w' aA=>A6 br d (aF d 0 0 4099).2.1 (aF d 0 0 4099).2.2 4099 w' l1.2 oM (aA.has _ _ am)) ?_
 have vA:=De d
 rw[show aF d 0 0 4099=dB d from rfl] at l2 m1 ⊢
 rw[show aF d (dB d).2.1 (dB d).2.2 4099=dM d from rfl] at l2 ⊢
 refine kn ?_
 refine ko @eJ ?_
 refine ky @eJ ?_
 refine Cw.permL (M:=(br,rrO d (dM d).2.1 (dM d).2.2):: ([]++ [])) (List.Perm.refl _) ?_
 refine Cw.loopG (G:=RrG) [20,21,22,23,24,25,26,27,28,29,30,31,32,33,34,35,9,36,10,37,38,39,40,41,42,43,44,45,46,47,48,49,50,51,52,53,54,55,56,8] (fun g=> [(8,g.v)]) (fun g=>(br,rrO d g.a g.e):: (g.D++g.DG)) (fun g=>RrJ d (dM d).2.1 (dM d).2.2 w.heap.size g) (fun g=>(if g.e=0 then d.length - g.a+1 else 0)) ⟨(dM d).2.1,(dM d).2.2,[], .slice none 0 0,[],[]⟩ rfl rfl ?_ ?_
 ·refine⟨trivial,trivial,Gr.nl,l2.2,fun g hg=>by simp at hg,by simp,fun _=>aV _, ?_⟩
  by_cases he: (dM d).2.2=0
  ·exact .inr ⟨he, .inl ⟨he,rfl⟩⟩
  exact .inl ⟨he,he⟩
 intro g j hg
 refine kv ?_
 obtain⟨a,e,out,v,D,DG⟩:=g
 obtain⟨hN,bG,hG,eC,hB,ja,uN,dG⟩:=hg
 simp only at hN bG hG eC hB ja uN dG ⊢
 by_cases hc:e=0∧a<d.length
 ·obtain⟨rfl,aC⟩:=hc
  have e0: ((0:Int)==0)=true:=rfl
  have d1:decide ((a:Int)< (d.length:Int))=true:=aK oM
  have nK:=jf (s:=d) (a:=a) (e:=0) (most:=8199) eC
  have fa:=sZ (s:=d) (a:=a) (e:=0) (most:=8199) oM
  have uR:pcR d a=pcR d a:=rfl
  conv at uR=>rhs;unfold pcR
  refine kz [1000008] (aN @eJ (aN @e0 @d1)) ?_
  refine Ow.callM rfl rfl call70 (by simp[keys]) (fun w' aA=>A6 br d a 0 8199 w' eC oM (aA.has _ _ am)) ?_
  generalize aF d a 0 8199=q at*
  obtain⟨q1,a1,e1⟩:=q
  simp only at nK fa uR ⊢
  obtain⟨Q,rfl⟩: ∃Q:Nat,q1=(Q:Int):=⟨q1.toNat,by omega⟩
  have hQ:Q≤8199:=by omega
  refine kn ?_
  refine ko @eJ ?_
  refine ky @eJ ?_
  refine Ow.build (.agg (pcC pc0).toArray) rfl TG ?_
  refine ko @eJ ?_
  refine Ow.alloc rfl rfl zrPc fun b10 ox gU=> ?_
  simp only[aS,List.nil_append,List.cons_append]
  have h10:br<b10:=ak ox (by simp[keys])
  have bK:=U7 pc0 pc0 285
  refine Ow.permL (M:=(b10, .cells (pcC pc0).toArray 285 (0,0)):: (br,rrO d a1 e1):: (D++DG)) pM ?_
  refine ko (aN @eJ @bK) ?_
  refine Cw.cutO (G:=(PcL×Nat×Int)) [37,38,39,40,41,42,43,44,45,46,47,48,49,50,51,52] (fun g=> []) (fun g=>(b10, .cells (pcC g.1).toArray 285 (0,0)):: (br,rrO d g.2.1 g.2.2):: (D++DG)) (fun g=>pcR d a=g∧(PcB g.1∧g.1.x.length<9223372036854775808)) ?_ ?_
  ·by_cases uK: (Q:Int)%2=1
   ·have d2: (((Q:Nat):Int)%2==1)=true:=by rw[beq_iff_eq];exact uK
    rw[if_pos uK] at uR
    have nu:=sZ (s:=d) (a:=a1) (e:=e1) (most:=4099) oM
    refine ky (aN @eJ @d2) ?_
    refine Ow.callM rfl rfl call70 (by simp[keys]) (fun w' aA=>A6 br d a1 e1 4099 w' nK.2 oM (aA.has _ _ (cN _ am))) ?_
    generalize aF d a1 e1 4099=x at*
    obtain⟨x1,a2,e2⟩:=x
    simp only at nu uR ⊢
    obtain⟨X,rfl⟩: ∃X:Nat,x1=(X:Int):=⟨x1.toNat,by omega⟩
    rw[Int.toNat_natCast,show((Q:Int) / 2).toNat=Q / 2 by omega] at uR
    refine kn ?_
    refine Ow.convIF rfl rfl cvIF underlying3 underlying286 rfl ?_
    refine ko @eJ ?_
    rw[show(Q:Int) / 2=((Q / 2:Nat):Int) by omega]
    refine Ow.convIF rfl rfl cvIF underlying3 underlying286 rfl ?_
    refine Ow.complexB (a:=(X:Nat)) (b:=(Q / 2:Nat)) rfl rfl rfl ?_
    have eA:=fun a=>SC X (Q / 2) 285 a
    refine ko (aN @eJ @eA) ?_
    refine CutO.mk (⟨X,Q / 2,[]⟩,a2,e2) ⟨uR,⟨by show X≤4099;omega,by show Q / 2≤4099;omega⟩,by show 0<9223372036854775808;omega⟩ rfl rfl
   have d2: (((Q:Nat):Int)%2==1)=false:=by rw[beq_eq_false_iff_ne];exact uK
   rw[if_neg uK] at uR
   refine ky (aN @eJ @d2) ?_
   refine Ow.callM rfl rfl call109 (by simp[keys]) (fun w' aA=>NL br d a1 e1 ((Q:Int) / 2) w' nK.2 oM (aA.has _ _ (cN _ am))) ?_
   have gV: (bS d a1 e1 ((Q:Int) / 2)).1.length≤d.length:=by
    unfold bS
    split
    ·simp
    split
    ·simp
    split
    ·simp
    simp only[List.length_take,List.length_drop];omega
   generalize bS d a1 e1 ((Q:Int) / 2)=x at*
   obtain⟨x1,a2,e2⟩:=x
   simp only at gV uR ⊢
   refine kn ?_
   have eA:=fun a=>Ss x1 285 a
   refine ko (aN @eJ @eA) ?_
   refine CutO.mk (⟨0,0,x1⟩,a2,e2) ⟨uR,⟨aV _,aV _⟩,by show x1.length<9223372036854775808;omega⟩ rfl rfl
  intro g j hg
  refine kv ?_
  obtain⟨p,a2,e2⟩:=g
  obtain⟨hpq,hpB⟩:=hg
  simp only at hpB ⊢
  have dc:=xS eC
  have ik:=xN eC
  have bU:=ZK aC
  have her:=Wj aC
  rw[hpq] at dc ik bU her
  simp only at dc ik bU her
  refine ky @eJ ?_
  refine Ow.buildSlice (e:=285) (pcC p).toArray rfl rfl (Wl p) fun b11 r8 pF=> ?_
  refine ko @eJ ?_
  refine Ow.permL (M:=D++ ((b10, .cells (pcC p).toArray 285 (0,0)):: (br,rrO d a2 e2):: (DG++ [(b11, .cells (pcC p).toArray 285 (0,0))]))) pM ?_
  refine Ow.appendXG (e:=285) (k:=1) (new:=pcC p) (X:=D) v rfl rfl rfl rfl underlying266 (id kR:aR prog 285=some (true,2)) kR zrPc (by rw[wD];rfl) underlying266 (by intro k h;cases h) hG (fun w' aA=>AppX.one1 (aA.has b11 (.cells (pcC p).toArray 285 (0,0)) (by simp)) (vu p) (Fc p)) oM (fun B3 v3 D3 fO mC hG3 hk13 yT hlk3=> ?_)
  have fC:New w.heap.size D3:=New.of_le fun q hq=>by
   rcases yT q hq with h|h
   ·exact hN.le q h
   omega
  refine Ow.permL (M:=(br,rrO d a2 e2):: (D3++ ((b10, .cells (pcC p).toArray 285 (0,0)):: (DG++ [(b11, .cells (pcC p).toArray 285 (0,0))])))) pM ?_
  refine ko @eJ ?_
  refine Again.mk ⟨a2,e2,out++ [p],v3,D3,(b10, .cells (pcC p).toArray 285 (0,0)):: (DG++ [(b11, .cells (pcC p).toArray 285 (0,0))])⟩ ?_ ⟨fC,⟨gU,bG.app ⟨pF,trivial⟩⟩,by simpa using hG3,dc.2,TW hB hpB, ?_, ?_, ?_⟩ rfl rfl
  ·show(if e2=0 then d.length - a2+1 else 0)< (if(0:Int)=0 then d.length - a+1 else 0)
   rw[if_pos rfl]
   split
   ·rename_i he;have:=ik he;omega
   omega
  ·show(out++ [p]).length≤a2+1
   have:=uN rfl
   rw[List.length_append];simp;omega
  ·intro he
   show(out++ [p]).length≤a2
   have:=uN rfl
   have:=ik he
   rw[List.length_append];simp;omega
  rcases dG with⟨h1,h2⟩ | ⟨h1,h2|h2⟩
  ·exact absurd rfl h2
  ·refine .inr ⟨h1, ?_⟩
   by_cases he:e2=0
   ·refine .inl ⟨he, ?_⟩
    rw[h2.2,bU he]
    simp
   refine .inr ⟨he, ?_⟩
   rw[h2.2,her he]
  exact absurd rfl h2.1
 have hdone: (e==0&&decide ((a:Int)< (d.length:Int)))=false:=by
  rw[Bool.and_eq_false_iff]
  by_cases he:e=0
  ·right;exact aO (fun h=>hc ⟨he,by omega⟩)
  left;exact beq_eq_false_iff_ne.2 he
 have dK:New w.heap.size ((br,rrO d a e):: (D++DG)):=⟨mO,hN.app bG⟩
 by_cases he:e=0
 ·subst he
  have hal2: ¬a<d.length:=fun h=>hc ⟨rfl,h⟩
  have e0: ((0:Int)==0)=true:=rfl
  have d1:decide ((a:Int)< (d.length:Int))=false:=aO oM
  have hE:cJ d a 0=0:=by unfold cJ;rw[if_neg (by simp),if_neg oM]
  have n0: ((0:Int) !=0)=false:=rfl
  obtain⟨h1,h2⟩: (dM d).2.2=0∧pcs d (dM d).2.1=(out,a,0):=by
   rcases dG with⟨h1,h2⟩ | ⟨h1,h2|h2⟩
   ·exact absurd rfl h2
   ·rw[YG hal2] at h2
    exact⟨h1,by rw[h2.2,List.append_nil]⟩
   exact absurd rfl h2.1
  rw[h2] at vA
  rw[if_neg (by rw[h1];simp),if_neg (by simp)] at vA
  simp only at vA
  refine ky (aN @eJ (aN @e0 @d1)) ?_
  refine Ow.callFV rfl call73 (fun w' aA=>Kx_ br d a 0 w' (aA.has _ _ am)) ?_
  rw[hE]
  refine ko (aN @eJ @n0) ?_
  refine ky (aN @eJ @n0) ?_
  refine Ow.callFV rfl call211 (fun w' aA=>Wd_ (dB d).1 v out w' (hG.slM (fun b o hm=>aA.has b o (by simp[hm])) rfl rfl vu) hB oM) ?_
  unfold tY
  by_cases hk:chkV (dB d).1 out=((dM d).1,0)
  ·rw[if_pos hk] at vA
   rw[vA,hk]
   obtain⟨-,-,-,-,-,kc⟩:=ws hk
   have n1: ((dM d).1 !=(dM d).1)=false:=bne_self_eq_false _
   refine ko @eJ ?_
   refine ky (aN @eJ (aN @n0 @n1)) ?_
   refine⟨_,(ke @eJ), ?_⟩
   refine⟨Ext.of_new dK,v, ?_,hB,kc,by show(dB d).1.toNat≤4099;omega,Gr.i hG fun q hq=>by simp[hq]⟩
   show Value.tuple #[vi (dB d).1,v, .bool true]= .tuple #[vi ((dB d).1.toNat:Nat),v, .bool true]
   rw[show(((dB d).1.toNat:Nat):Int)=(dB d).1 by omega]
  rw[if_neg hk] at vA
  rw[vA]
  obtain⟨N,E,hNE⟩: ∃N E,chkV (dB d).1 out=(N,E):=⟨_,_,rfl⟩
  rw[hNE] at hk ⊢
  by_cases mD:E=0
  ·subst mD
   have n1: (N !=(dM d).1)=true:=bne_iff_ne.2 (fun h=>hk (by rw[h]))
   refine ko @eJ ?_
   refine ky (aN @eJ (aN @n0 @n1)) ?_
   refine⟨_,(ke @eJ), ?_⟩
   exact⟨Ext.of_new dK,rfl⟩
  have n1: (E !=0)=true:=bne_iff_ne.2 mD
  refine ko @eJ ?_
  refine ky (aN @eJ @n1) ?_
  refine⟨_,(ke @eJ), ?_⟩
  exact⟨Ext.of_new dK,rfl⟩
 have e0: (e==0)=false:=beq_eq_false_iff_ne.2 he
 have hE:cJ d a e=e:=by unfold cJ;rw[if_pos he]
 have n0: (e !=0)=true:=bne_iff_ne.2 he
 have qH:oR d=none:=by
  rw[vA]
  rcases dG with⟨h1,h2⟩ | ⟨h1,h2|h2⟩
  ·rw[if_pos h1]
  ·exact absurd h2.1 he
  rw[h2.2,if_neg (by rw[h1];simp),if_pos he]
 refine ky (aN @eJ @e0) ?_
 refine Ow.callFV rfl call73 (fun w' aA=>Kx_ br d a e w' (aA.has _ _ am)) ?_
 rw[hE]
 refine ko (aN @eJ @n0) ?_
 refine ky (aN @eJ @n0) ?_
 refine⟨_,(ke @eJ), ?_⟩
 refine⟨Ext.of_new dK, ?_⟩
 unfold tY
 rw[qH]
 rfl
def pj:=aN (aN (aN @av @au) (aN @zR (aN @zX @zJ))) (aN (aN @wD (aN @Sx.tup2_0 @Sx.tup2_1)) (aN @Sx.tup3_0 (aN @Sx.tup3_1 @Sx.tup3_2)))
def PK (base d:List UInt8) (w:World) (hd:d.length<100000000):
  Rets prog 162 #[vs base,vs d] w (fun v D=>v= .tuple #[vs (m4 base d).1,vi (m4 base d).2]∧D= []):=by
 refine Rets.enterV func162 rfl (rs:= [.tmp 4, .tmp 5]) results162 ntmps162 ?_
 refine kf ?_
 refine ky @pj ?_
 refine Ow.callC rfl rfl call192 (fun w' aA=>Pe d w' hd) (fun B1 v1 D1 dN di cR dr=> ?_)
 have cL:=cR.mono di
 unfold tY at dr
 cases hr:oR d with
 |none=>
  rw[hr] at dr
  have y3:v1= .tuple #[vi 0, .slice none 0 0, .bool false]:=dr
  subst y3
  have sK:m4 base d=([],2):=by unfold m4;rw[hr]
  refine ko @pj ?_
  refine ky @pj ?_
  refine⟨_,(ke @pj),cL, ?_⟩
  rw[sK];rfl
 |some p=>
  rw[hr] at dr
  obtain⟨x,rfl,hB,rM,hp4,hg⟩:=dr
  by_cases hb:p.1=base.length
  ·have e1: (((p.1:Nat):Int) !=((base.length:Nat):Int))=false:=by rw[hb];exact bne_self_eq_false _
   obtain⟨m,hm⟩:=C8 hr
   rw[hb] at hm
   have sK:m4 base d=(txtP base p.2,0):=by unfold m4;rw[hr];simp only;rw[if_neg (by simp[hb])]
   refine ko @pj ?_
   refine ky (aN @pj @e1) ?_
   refine Ow.callFV rfl call193 (fun w' aA=>OP base x p.2 w' (GrI.slV (hg.mono fun q hq=>by simp[hq]) aA rfl rfl vu) hB oM) ?_
   rw[hm,if_pos rfl]
   refine ko @pj ?_
   refine ky @pj ?_
   refine⟨_,(ke @pj),cL, ?_⟩
   rw[sK];rfl
  have e1: (((p.1:Nat):Int) !=((base.length:Nat):Int))=true:=by rw[bne_iff_ne];omega
  have sK:m4 base d=([],19):=by unfold m4;rw[hr];simp only;rw[if_pos hb]
  refine ko @pj ?_
  refine ky (aN @pj @e1) ?_
  refine⟨_,(ke @pj),cL, ?_⟩
  rw[sK];rfl
structure PrG where
 at_:Nat
 out:List Nat
 v:Value
 D:aB
 DG:aB
def iE:=aN (aN (aN @av @au) (aN @BE @BO)) (aN (aN @BP @Iu) (aN @Sx.tup2_0 @Sx.tup2_1))
def QM (v0:Value) (l:List PartL) (a0:Int) (w:World) (hv:GD w v0 l):
  Rets prog 161 #[v0,vi a0] w (XS w [] (lV l a0)):=by
 obtain⟨bb,off,arr,E,fz,hr⟩:=hv.row
 have ln:=hv.len
 refine Rets.enterX func161 rfl (rs:= [.tmp 4, .tmp 5]) results161 ntmps161 (fun p hp=>by cases hp) (by simp[keys]) ?_
 refine kf ?_
 by_cases hc:200<l.length∨a0<0∨(l.length:Int)≤a0
 ·have hpv:kQ l a0= .error 1:=by unfold kQ;rw[if_pos hc]
  unfold lV
  rw[hpv]
  by_cases h1:200<l.length
  ·have d1:decide ((200:Int)< (l.length:Int))=true:=aK oM
   refine ky (aN @iE (aN @ln @d1)) ?_
   refine⟨_,(ke @iE), ?_⟩
   exact⟨Ext.refl _ _,rfl⟩
  have d1:decide ((200:Int)< (l.length:Int))=false:=aO oM
  by_cases h2:a0<0
  ·have d2:decide (a0<0)=true:=aK h2
   refine ky (aN @iE (aN @ln (aN @d1 @d2))) ?_
   refine⟨_,(ke @iE), ?_⟩
   exact⟨Ext.refl _ _,rfl⟩
  have d2:decide (a0<0)=false:=aO h2
  have d3:decide ((l.length:Int)≤a0)=true:=aK oM
  refine ky (aN @iE (aN @ln (aN @d1 (aN @d2 @d3)))) ?_
  refine⟨_,(ke @iE), ?_⟩
  exact⟨Ext.refl _ _,rfl⟩
 have d1:decide ((200:Int)< (l.length:Int))=false:=aO oM
 have d2:decide (a0<0)=false:=aO oM
 have d3:decide ((l.length:Int)≤a0)=false:=aO oM
 obtain⟨A,rfl⟩: ∃A:Nat,a0=(A:Int):=⟨a0.toNat,by omega⟩
 have hpv:kQ l (A:Int)=(mR l 5 A).map ([]++ ·):=by
  unfold kQ
  rw[if_neg hc,Int.toNat_natCast]
  cases mR l 5 A<;>rfl
 refine ky (aN @iE (aN @ln (aN @d1 (aN @d2 @d3)))) ?_
 refine Cw.loopG (G:=PrG) [21,22,25,26,4,5,27,28,29,30,6,31,32,33,34,35,36,37,38,39,40,41,42,43,44,45,46,47,48,49,50,51,52,53,54,55,56,57,58,59,60,61,62,63,1,23,24,7] (fun g=> [(1,vi g.at_),(6,g.v),(7,vi g.out.length)]) (fun g=>g.D++g.DG) (fun g=>New w.heap.size g.D∧New w.heap.size g.DG∧Gr g.D 3 1 g.v g.out.length (g.out.map natC).flatten∧g.at_<l.length∧g.out.length≤5∧kQ l (A:Int)=(mR l (5 - g.out.length) g.at_).map (g.out++ ·)) (fun g=>6 - g.out.length) ⟨A,[], .slice none 0 0,[],[]⟩ rfl rfl ?_ ?_
 ·exact⟨trivial,trivial,Gr.nl,by show A<l.length;omega,by simp,hpv⟩
 intro g j hg
 refine kv ?_
 obtain⟨a,out,v,D,DG⟩:=g
 obtain⟨hN,bG,hG,eC,ja,dG⟩:=hg
 simp only at hN bG hG eC ja dG ⊢
 have d4:decide ((out.length:Int)<6)=true:=aK oM
 by_cases h5:out.length=5
 ·have d5: ((out.length:Int)==5)=true:=by rw[h5];rfl
  rw[h5] at dG
  have cD:kQ l (A:Int)= .error 11:=dG
  refine ky (aN @iE (aN @d4 @d5)) ?_
  refine⟨_,(ke @iE), ?_⟩
  refine⟨Ext.of_new (hN.app bG), ?_⟩
  unfold lV
  rw[cD]
  rfl
 have d5: ((out.length:Int)==5)=false:=beq_eq_false_iff_ne.2 oM
 have zw:mR l (5 - out.length) a=mR l (4 - out.length+1) a:=by congr 1;omega
 rw[zw,mR] at dG
 refine ky (aN @iE (aN @d4 @d5)) ?_
 refine Ow.buildSlice (e:=3) #[vi a] rfl rfl kR fun b9 hb9 IA=> ?_
 refine ko @iE ?_
 refine Ow.permL (M:=D++ (DG++ [(b9, .cells #[vi a] 3 (0,0))])) pM ?_
 refine Ow.appendXG (e:=3) (k:=1) (new:=natC a) (X:=D) v rfl rfl rfl rfl underlying205 (id kR:aR prog 3=some (false,1)) kR (id kR:an prog 3=some (vi 0)) rfl underlying205 (by intro k h;cases h) hG (fun w' aA=>AppX.one1 (aA.has b9 (.cells #[vi a] 3 (0,0)) (by simp)) (Ex a) rfl) oM (fun B3 v3 D3 fO mC hG3 hk13 yT hlk3=> ?_)
 have fC:New w.heap.size D3:=New.of_le fun c hc=>by
  rcases yT c hc with h|h
  ·exact hN.le c h
  omega
 have mF:Gr D3 3 1 v3 (out++ [a]).length ((out++ [a]).map natC).flatten:=by simpa using hG3
 have yg: (out++ [a]).length=out.length+1:=by simp
 have Gn:New w.heap.size (DG++ [(b9, .cells #[vi a] 3 (0,0))]):=bG.app ⟨IA,trivial⟩
 generalize DG++ [(b9,Obj.cells #[vi a] 3 (0,0))]=DG' at*
 have dK:New w.heap.size (D3++DG'):=fC.app Gn
 have jy:0<l.length:=by omega
 have iJ:=hr.lt jy
 have rd:aU w (D3++DG') bb=some (.cells arr E fz):=by rw[jn (dK.not iJ)];exact hr.has jy
 have i2:=hr.idx true a eC
 have ld0:aG (some (false,1)) (some (.cells arr E fz)) (off+a*3)=some (.bool (l.getD a gL).d):=hr.cell (j:=0) (n:=1) eC oM
 have ld1:aG (some (false,1)) (some (.cells arr E fz)) (off+a*3+1)=some (vi (l.getD a gL).b):=hr.cell (j:=1) (n:=1) eC oM
 generalize l.getD a gL=p at*
 cases hd:p.d with
 |false=>
  rw[hd,if_neg (by simp)] at dG
  rw[hd] at ld0
  by_cases hb:p.b=0
  ·have e1: (p.b !=0)=false:=by rw[hb];rfl
   rw[if_neg (by simp[hb])] at dG
   refine ko (aN @iE (aN @i2 (aN @rd (aN @ld0 (aN @ld1 @e1))))) ?_
   refine ky (aN @iE (aN @i2 (aN @rd (aN @ld0 (aN @ld1 @e1))))) ?_
   refine⟨_,(ke @iE), ?_⟩
   refine⟨Ext.of_new dK, ?_⟩
   unfold lV
   rw[dG]
   exact⟨v3,rfl,by show(out++ [a]).length≤5;omega,Gr.i mF fun c hc=>by simp[hc]⟩
  have e1: (p.b !=0)=true:=by rw[bne_iff_ne];exact hb
  rw[if_pos hb] at dG
  have cD:kQ l (A:Int)= .error 2:=dG
  refine ko (aN @iE (aN @i2 (aN @rd (aN @ld0 (aN @ld1 @e1))))) ?_
  refine ky (aN @iE (aN @i2 (aN @rd (aN @ld0 (aN @ld1 @e1))))) ?_
  refine⟨_,(ke @iE), ?_⟩
  refine⟨Ext.of_new dK, ?_⟩
  unfold lV
  rw[cD];rfl
 |true=>
  rw[hd,if_pos rfl] at dG
  rw[hd] at ld0
  by_cases hb:p.b<0
  ·have e1:decide (p.b<0)=true:=aK hb
   rw[if_pos (.inl hb)] at dG
   have cD:kQ l (A:Int)= .error 2:=dG
   refine ko (aN @iE (aN @i2 (aN @rd (aN @ld0 (aN @ld1 @e1))))) ?_
   refine ky (aN @iE (aN @i2 (aN @rd (aN @ld0 (aN @ld1 @e1))))) ?_
   refine⟨_,(ke @iE), ?_⟩
   refine⟨Ext.of_new dK, ?_⟩
   unfold lV
   rw[cD];rfl
  have e1:decide (p.b<0)=false:=aO hb
  by_cases aq: (a:Int)≤p.b
  ·have e2:decide ((a:Int)≤p.b)=true:=aK aq
   rw[if_pos (.inr aq)] at dG
   have cD:kQ l (A:Int)= .error 2:=dG
   refine ko (aN @iE (aN @i2 (aN @rd (aN @ld0 (aN @ld1 (aN @e1 @e2)))))) ?_
   refine ky (aN @iE (aN @i2 (aN @rd (aN @ld0 (aN @ld1 (aN @e1 @e2)))))) ?_
   refine⟨_,(ke @iE), ?_⟩
   refine⟨Ext.of_new dK, ?_⟩
   unfold lV
   rw[cD];rfl
  have e2:decide ((a:Int)≤p.b)=false:=aO aq
  rw[if_neg oM] at dG
  obtain⟨Bn,hBn⟩: ∃Bn:Nat,p.b=(Bn:Int):=⟨p.b.toNat,by omega⟩
  rw[hBn] at ld1 e1 e2 dG
  rw[Int.toNat_natCast] at dG
  refine ko (aN @iE (aN @i2 (aN @rd (aN @ld0 (aN @ld1 (aN @e1 @e2)))))) ?_
  refine ky (aN @iE (aN @i2 (aN @rd (aN @ld0 (aN @ld1 (aN @e1 @e2)))))) ?_
  refine Again.mk ⟨Bn,out++ [a],v3,D3,DG'⟩ (by show 6 - (out++ [a]).length<6 - out.length;omega) ⟨fC,Gn,mF,by show Bn<l.length;omega,by show(out++ [a]).length≤5;omega, ?_⟩ rfl (by simp only[yg];rfl)
  show kQ l (A:Int)=(mR l (5 - (out++ [a]).length) Bn).map ((out++ [a])++ ·)
  rw[dG,show 5 - (out++ [a]).length=4 - out.length by omega]
  split
  ·rename_i h4
   rw[h4];rfl
  cases mR l (4 - out.length) Bn with
  |error x=>rfl
  |ok x=>show Except.ok _=Except.ok _;simp
def BndD (l:List PartL):Prop:= ∀g,g<l.length→(l.getD g gL).x.length<100000000
def Ak {α:Type} {enc:α→List Value} {m:Nat} {D:aB} {E:TypeId} {v:Value} {l:List α} (h:GrI D E m v l.length (l.map enc).flatten) (hn: (keys D).Nodup):l.length=0∨ ∃b c rest,v=vsl b 0 l.length c∧b∈keys D∧Sx.look D b=some (cO enc E rest l):=by
 obtain⟨X,hX,h| ⟨h0,-⟩⟩:=h
 ·rcases h.inv with⟨-,h0,-⟩ | ⟨b,c,rest,rfl,hl,h1,h2,h3,h4⟩
  ·exact .inl h0
  exact .inr ⟨b,c,rest,rfl,List.mem_map_of_mem (f:=Prod.fst) (hX _ (cQ hl)),zI hn (hX _ (cQ hl))⟩
 exact .inl h0
structure TrG where
 n:Nat
 s:List UInt8
 DG:aB
def jv:=aN (aN (aN @av @au) (aN @BE @BO)) (aN (aN @BP @Iu) (aN @Sx.tup2_0 @Sx.tup2_1))
def PP (v0:Value) (l:List PartL) (a0:Int) (w:World) (hv:GD w v0 l) (hb:BndD l):
  Rets prog 138 #[v0,vi a0] w (fun v D=>v=od (partV l a0)∧D= []):=by
 obtain⟨bb,off,arr,E,fz,hr⟩:=hv.row
 refine Rets.enterV func138 rfl (rs:= [.tmp 4, .tmp 5]) results138 ntmps138 ?_
 refine kf ?_
 refine ky @jv ?_
 refine Ow.callC rfl rfl call161 (fun w' aA=>QM v0 l a0 w' (hv.oldN aA trivial)) (fun B1 v1 D1 dN di cR dr=> ?_)
 have cL:=cR.mono di
 unfold lV at dr
 unfold partV
 cases hp:kQ l a0 with
 |error e=>
  rw[hp] at dr
  have y3:v1= .tuple #[.slice none 0 0,vi e]:=dr
  subst y3
  have e0: (e !=0)=true:=by rw[bne_iff_ne];exact CX hp
  refine ko @jv ?_
  refine ky (aN @jv @e0) ?_
  refine⟨_,(ke @jv),cL, ?_⟩
  rfl
 |ok p=>
  rw[hp] at dr
  obtain⟨x,rfl,hp5,hgp⟩:=dr
  have aC:=V2 hp
  have e0: ((0:Int) !=0)=false:=rfl
  have aP: ∀m,gY (.sl m) x=some (vi p.length):=fun m=>ru hgp m
  rw[List.nil_append]
  refine ko (aN @jv (aN @e0 @aP)) ?_
  refine ky @jv ?_
  refine Cw.world fun wz fP=> ?_
  have bA:=fP.nodup
  clear fP wz
  refine Cw.permL (M:=D1++ []) (by rw[List.append_nil]) ?_
  refine Cw.loopG (G:=TrG) [25,26,29,30,31,32,33,34,35,10,36,37,38,39,40,41,42,4,5,43,44,8,46,47,48,49,45,50,51,11,12,52,53,54,55,27,28,9] (fun g=> [(8,vs g.s),(9,vi ((g.n:Int) - 1))]) (fun g=>D1++g.DG) (fun g=>g.n≤p.length∧kS l (p.drop g.n)= .ok g.s∧New w.heap.size g.DG) (fun g=>g.n) ⟨p.length,[],[]⟩ rfl rfl ?_ ?_
  ·exact⟨bq _,by rw[List.drop_length];rfl,trivial⟩
  intro g j hg
  refine kv ?_
  obtain⟨n,s,DG⟩:=g
  simp only at hg ⊢
  obtain⟨mK,fG,bG⟩:=hg
  have dK:New w.heap.size (D1++DG):=cL.app bG
  cases n with
  |zero=>
   have d1:decide ((0:Int)≤ ((0:Nat):Int) - 1)=false:=rfl
   refine ky (aN @jv @d1) ?_
   refine⟨_,(ke @jv),dK, ?_⟩
   rw[List.drop_zero] at fG;show _=od ((Except.ok p).bind (kS l));rw[show(Except.ok p).bind (kS l)=kS l p from rfl,fG];rfl
  |succ n=>
   have en: ((n+1:Nat):Int) - 1=(n:Int):=by omega
   rw[en]
   have d1:decide ((0:Int)≤ (n:Int))=true:=aK oM
   obtain h0| ⟨bp,cp,rp,rfl,vG,bQ⟩:=Ak hgp bA
   ·omega
   have cT:n<p.length:=by omega
   have rdp:aU w (D1++DG) bp=some (cO natC 3 rp p):=aQ (az bQ)
   have lp:=Ut (E:=3) (rest:=rp) 1 n cT
   have rR:p.getD n 0<l.length:=aC _ (n_ cT)
   have eh:p.drop n=p.getD n 0::p.drop (n+1):=LE (z:=0) cT
   have jX:kS l (p.drop n)=if(ir (l.getD (p.getD n 0) gL) s).2=0 then .ok (ir (l.getD (p.getD n 0) gL) s).1 else .error (ir (l.getD (p.getD n 0) gL) s).2:=by
    rw[eh,kS,fG];rfl
   generalize p.getD n 0=a at*
   have jy:0<l.length:=by omega
   have iJ:=hr.lt jy
   have rd:aU w (D1++DG) bb=some (.cells arr E fz):=by rw[jn (dK.not iJ)];exact hr.has jy
   have i2:=hr.idx true a rR
   have ld:=hr.load Li oM rR
   have z_:=hb a rR
   generalize l.getD a gL=pt at*
   have bK:=BV pt gL 245
   refine kz [7] (aN @jv (aN @d1 (aN @lp (aN @rdp (aN @rd (aN @i2 @ld)))))) ?_
   refine Ow.alloc rfl rfl qY fun b10 ox gU=> ?_
   simp only[aS,List.nil_append,List.cons_append]
   refine Ow.permL (M:=(b10, .cells (dL gL).toArray 245 (0,0)):: (D1++DG)) pM ?_
   cases hd:pt.d with
   |false=>
    by_cases rM:4099<pt.x.length
    ·have d2:decide ((4099:Int)< (pt.x.length:Int))=true:=aK oM
     have ht:ir pt s=([],19):=by unfold ir;rw[if_neg (by rw[hd];decide),if_pos rM]
     rw[ht,if_neg (by decide)] at jX
     refine ko (aN @jv (aN @bK (aN @hd @d2))) ?_
     refine ky (aN @jv (aN @hd @d2)) ?_
     refine⟨_,(ke @jv),(show New w.heap.size ((b10,_):: (D1++DG)) from⟨gU,dK⟩), ?_⟩
     show _=od (kS l p);rw[Lt p n jX];rfl
    have d2:decide ((4099:Int)< (pt.x.length:Int))=false:=aO oM
    have ht:ir pt s=(pt.x,0):=by unfold ir;rw[if_neg (by rw[hd];decide),if_neg rM]
    rw[ht,if_pos rfl] at jX
    refine ko (aN @jv (aN @bK (aN @hd @d2))) ?_
    refine Cw.permL (M:=D1++ ((b10, .cells (dL pt).toArray 245 (0,0))::DG)) pM ?_
    refine ky @jv ?_
    exact Again.mk ⟨n,pt.x,(b10, .cells (dL pt).toArray 245 (0,0))::DG⟩ (by show n<n+1;omega) ⟨by show n≤p.length;omega,jX,⟨gU,bG⟩⟩ rfl rfl
   |true=>
    have ht:ir pt s=m4 s pt.x:=by unfold ir;rw[if_pos hd]
    rw[ht] at jX
    refine ko (aN @jv (aN @bK @hd)) ?_
    refine ky (aN @jv @hd) ?_
    refine Ow.callFV rfl call162 (fun w' aA=>PK s pt.x w' z_) ?_
    by_cases he: (m4 s pt.x).2=0
    ·have e1: ((m4 s pt.x).2 !=0)=false:=by rw[he];rfl
     rw[if_pos he] at jX
     refine ko (aN @jv @e1) ?_
     refine Cw.permL (M:=D1++ ((b10, .cells (dL pt).toArray 245 (0,0))::DG)) pM ?_
     refine ky @jv ?_
     exact Again.mk ⟨n,(m4 s pt.x).1,(b10, .cells (dL pt).toArray 245 (0,0))::DG⟩ (by show n<n+1;omega) ⟨by show n≤p.length;omega,jX,⟨gU,bG⟩⟩ rfl rfl
    have e1: ((m4 s pt.x).2 !=0)=true:=by rw[bne_iff_ne];exact he
    rw[if_neg he] at jX
    refine ko @jv ?_
    refine ky (aN @jv @e1) ?_
    refine⟨_,(ke @jv),(show New w.heap.size ((b10,_):: (D1++DG)) from⟨gU,dK⟩), ?_⟩
    show _=od (kS l p);rw[Lt p n jX];rfl
def OJ (s:List UInt8) (a:Nat) (e most:Int):aF s (a+1) e most=((aF (s.drop 1) a e most).1,(aF (s.drop 1) a e most).2.1+1,(aF (s.drop 1) a e most).2.2):=by
 unfold aF
 rw[List.drop_drop,Nat.add_comm 1 a]
 by_cases he:e≠0
 ·rw[if_pos he,if_pos he]
 rw[if_neg he,if_neg he]
 cases cK most (List.drop (a+1) s) 0 0 with
 |error x=>rfl
 |ok p=>simp only[Prod.mk.injEq,true_and];exact⟨by omega,trivial⟩
def PH (s:List UInt8) (a:Nat) (e n:Int) (hs:1≤s.length):bS s (a+1) e n=((bS (s.drop 1) a e n).1,(bS (s.drop 1) a e n).2.1+1,(bS (s.drop 1) a e n).2.2):=by
 unfold bS
 rw[List.length_drop,List.drop_drop,Nat.add_comm 1 a]
 have hq: ((s.length:Int) - ((a+1:Nat):Int)<n)=(((s.length - 1:Nat):Int) - (a:Int)<n):=by rw[eq_iff_iff];omega
 simp only[hq]
 by_cases he:e≠0
 ·simp only[if_pos he]
 simp only[if_neg he]
 by_cases hn:n<0
 ·simp only[if_pos hn]
 simp only[if_neg hn]
 by_cases hl: ((s.length - 1:Nat):Int) - (a:Int)<n
 ·simp only[if_pos hl]
 simp only[if_neg hl,Prod.mk.injEq,true_and]
 exact⟨by omega,trivial⟩
def Nj (s:List UInt8) (a:Nat) (e most:Int) (hs:1≤s.length):bL s (a+1) e most=((bL (s.drop 1) a e most).1,(bL (s.drop 1) a e most).2.1+1,(bL (s.drop 1) a e most).2.2):=by
 unfold bL
 simp only[OJ]
 rw[PH _ _ _ _ hs]
 simp only
 split<;>rfl
def wm (c:UInt8) (r:List UInt8):frR (c::r)=([c],1,0):=by
 unfold frR bS
 rw[if_neg (by simp),if_neg (by decide),if_neg (by simp only[List.length_cons];omega)]
 rfl
def Id0 (c:UInt8) (r:List UInt8):frT (c::r)=((lfT r).1,(lfT r).2.1+1,(lfT r).2.2):=by
 unfold frT
 rw[wm]
 exact Nj (c::r) 0 0 4096 (by simp)
def Ca (c:UInt8) (r:List UInt8) (a:Nat) (e:Int):cJ (c::r) (a+1) e=cJ r a e:=by
 unfold cJ
 rw[List.length_cons]
 have: ((((a+1:Nat):Int)< ((r.length+1:Nat):Int))=((a:Int)< (r.length:Int))):=by rw[eq_iff_iff];omega
 simp only[this]
def UI (c:UInt8) (r:List UInt8): (fkC c=0∧ ¬ (1≤frK (c::r)∧frK (c::r)≤3))∨(fkC c≠0∧frK (c::r)=fkC c∧lO (fkC c)= [c]):=by
 have e:frK (c::r)=Lib.indexByte letL c:=by unfold frK;rw[wm];rfl
 rw[e]
 by_cases h1:c=98
 ·subst h1;exact .inr ⟨by decide,rfl,rfl⟩
 by_cases h2:c=116
 ·subst h2;exact .inr ⟨by decide,rfl,rfl⟩
 by_cases h3:c=99
 ·subst h3;exact .inr ⟨by decide,rfl,rfl⟩
 refine .inl ⟨by unfold fkC;rw[if_neg h1,if_neg h2,if_neg h3], ?_⟩
 have b1: ((98:UInt8)==c)=false:=beq_eq_false_iff_ne.2 (Ne.symm h1)
 have b2: ((116:UInt8)==c)=false:=beq_eq_false_iff_ne.2 (Ne.symm h2)
 have b3: ((99:UInt8)==c)=false:=beq_eq_false_iff_ne.2 (Ne.symm h3)
 simp only[Lib.indexByte,b1,b2,b3,Bool.false_eq_true, ↓reduceIte]
 split<;>simp
def FG {k:Int} {t:List UInt8} (h: ¬ (1≤k∧k≤3)):cm k t=false:=by
 unfold cm;rw[if_neg (fun h'=>h ⟨h'.1,h'.2.1⟩)]
def te (s:List UInt8):f_ s=lfOk s∧(f_ s=true→frK s=lfK s∧(frT s).1=(lfT (s.drop 1)).1):=by
 cases s with
 |nil=>
  have h:f_ []=false:=by
   unfold f_
   rw[FG (k:=frK []) (by decide),Bool.and_false]
  exact⟨by rw[h];rfl,fun h'=>by rw[h] at h';cases h'⟩
 |cons c r=>
  have e1:f_ (c::r)=(cJ r (lfT r).2.1 (lfT r).2.2==0&&cm (frK (c::r)) (lfT r).1):=by
   unfold f_;rw[Id0,Ca]
  have e2:lfOk (c::r)=(fkC c !=0&&cJ r (lfT r).2.1 (lfT r).2.2==0&&nZ (fkC c) (lfT r).1):=rfl
  rcases UI c r with⟨h1,h2⟩ | ⟨h1,h2,-⟩
  ·rw[e1,e2,FG h2,h1,Bool.and_false]
   exact⟨rfl,fun h=>by cases h⟩
  have h3: (fkC c !=0)=true:=by simpa using h1
  rw[e1,e2,h2,h3,AC,Bool.true_and]
  refine⟨rfl,fun _=>⟨rfl, ?_⟩⟩
  rw[Id0];rfl
def I_ (s:List UInt8):lS s=⟨if lfOk s then lfK s else 0,if lfOk s then(lfT (s.drop 1)).1 else []⟩:=by
 unfold lS
 have h:=te s
 rw[←h.1]
 cases hf:f_ s
 ·rfl
 rw[(h.2 hf).1,(h.2 hf).2]
def Ie {k:Int} {t:List UInt8} (h:cm k t=true):t.length≤4096:=by
 unfold cm at h
 split at h
 ·rename_i h1;exact h1.2.2
 cases h
theorem Lo (l:List PartL): ∀k,(pY l k).length≤k
 |0=>bq _
 |k+1=>by
  have:=Lo l k
  unfold pY
  split
  ·split
   ·simp;omega
   omega
  omega
def GZ (k k':Int) (t t':List UInt8):bF prog .eql 33 (obV k t) (obV k' t')=some (.bool (decide ((⟨k,t⟩:ObL)=⟨k',t'⟩))):=ZT ⟨k,t⟩ ⟨k',t'⟩
end Go.Proofs
end
namespace Go.Sx
def kB (c:Bool):BitVec 32:=bif c then 3988292384#32 else 0#32
def stB (x:BitVec 32):BitVec 32:=(x>>>1)^^^kB (x.getLsbD 0)
def Y1 (c:Bool) (j:Nat) (h:j<5): (kB c).getLsbD j=false:=by
 have:j=0∨j=1∨j=2∨j=3∨j=4:=by omega
 rcases this with rfl|rfl|rfl|rfl|rfl<;>cases c<;>decide
def zN (x:BitVec 32) (j:Nat) (h:j<5): (stB x).getLsbD j=x.getLsbD (j+1):=by
 unfold stB
 rw[BitVec.getLsbD_xor,Y1 _ _ h,BitVec.getLsbD_ushiftRight,Bool.xor_false,Nat.add_comm]
def stB4 (x:BitVec 32):stB (stB (stB (stB x)))=(x>>>4)^^^ (kB (x.getLsbD 0)>>>3^^^kB (x.getLsbD 1)>>>2^^^kB (x.getLsbD 2)>>>1^^^kB (x.getLsbD 3)):=by
 have h1: (stB x).getLsbD 0=x.getLsbD 1:=zN x 0 oM
 have h2: (stB (stB x)).getLsbD 0=x.getLsbD 2:=by rw[zN _ 0 oM,zN _ 1 oM]
 have h3: (stB (stB (stB x))).getLsbD 0=x.getLsbD 3:=by rw[zN _ 0 oM,zN _ 1 oM,zN _ 2 oM]
 have e4:stB (stB (stB (stB x)))=(stB (stB (stB x))>>>1)^^^kB (x.getLsbD 3):=by rw[←h3];rfl
 have e3:stB (stB (stB x))=(stB (stB x)>>>1)^^^kB (x.getLsbD 2):=by rw[←h2];rfl
 have e2:stB (stB x)=(stB x>>>1)^^^kB (x.getLsbD 1):=by rw[←h1];rfl
 have e1:stB x=(x>>>1)^^^kB (x.getLsbD 0):=rfl
 rw[e4,e3,e2,e1]
 simp only[BitVec.ushiftRight_xor_distrib,←BitVec.shiftRight_add,BitVec.xor_assoc]
def hvB:List (BitVec 32):= [0x00000000,0x1db71064,0x3b6e20c8,0x26d930ac,0x76dc4190,0x6b6b51f4,0x4db26158,0x5005713c,0xedb88320,0xf00f9344,0xd6d6a3e8,0xcb61b38c,0x9b64c2b0,0x86d3d2d4,0xa00ae278,0xbdbdf21c]
def tabB: ∀a b c d:Bool,(kB a>>>3^^^kB b>>>2^^^kB c>>>1^^^kB d)=hvB.getD (a.toNat+2*b.toNat+4*c.toNat+8*d.toNat) 0:=by decide
def lowB (x:BitVec 32):x.toNat%16=(x.getLsbD 0).toNat+2* (x.getLsbD 1).toNat+4* (x.getLsbD 2).toNat+8* (x.getLsbD 3).toNat:=by
 have e: ∀i,(x.getLsbD i).toNat=x.toNat / 2^i%2:=by
  intro i
  rw[BitVec.getLsbD,Nat.testBit_eq_decide_div_mod_eq]
  have:=Nat.mod_lt (x.toNat / 2^i) (show 0<2 by omega)
  by_cases h:x.toNat / 2^i%2=1
  ·simp[h]
  have h0:x.toNat / 2^i%2=0:=by omega
  simp[h0]
 rw[e 0,e 1,e 2,e 3]
 omega
def Zf (x:BitVec 32):stB (stB (stB (stB x)))=(x>>>4)^^^hvB.getD (x.toNat%16) 0:=by
 rw[stB4,tabB,lowB]
end Go.Sx
section
open Go Go.Proofs Go.Sx
namespace Go.Proofs
def lM (n:UInt32):UInt32:=if n%2==1 then n / 2^^^3988292384 else n / 2
def tB (n:UInt32): (lM n).toBitVec=stB n.toBitVec:=by
 have hd: (n / 2).toBitVec=n.toBitVec>>>1:=by
  apply BitVec.eq_of_toNat_eq
  rw[UInt32.toBitVec_div,BitVec.toNat_udiv,BitVec.toNat_ushiftRight]
  rfl
 have hm: (n%2==1)=n.toBitVec.getLsbD 0:=by
  rw[BitVec.getLsbD,Nat.testBit_eq_decide_div_mod_eq,Nat.pow_zero,Nat.div_one,Bool.eq_iff_iff,beq_iff_eq,decide_eq_true_eq,←UInt32.toNat_inj,UInt32.toNat_mod]
  rfl
 unfold lM stB
 rw[hm]
 cases n.toBitVec.getLsbD 0
 ·rw[if_neg (by decide),hd];simp[kB]
 rw[if_pos rfl,UInt32.toBitVec_xor,hd];rfl
def CJ (n:UInt32):qf n=lM (lM (lM (lM n))):=by
 apply UInt32.toBitVec_inj.1
 rw[tB,tB,tB,tB,Zf]
 unfold qf
 rw[UInt32.toBitVec_xor]
 congr 1
 ·apply BitVec.eq_of_toNat_eq
  unfold fv
  rw[BitVec.toNat_ushiftRight,Nat.shiftRight_eq_div_pow]
  have:=n.toNat_lt
  simp only[UInt32.toNat_toBitVec,UInt32.toNat_ofNat']
  omega
 have e: (n&&&15).toNat=n.toBitVec.toNat%16:=by
  rw[UInt32.toNat_and,show(15:UInt32).toNat=2^4 - 1 from rfl,Nat.and_two_pow_sub_one_eq_mod]
  rfl
 rw[e]
 have aC:n.toBitVec.toNat%16<16:=Nat.mod_lt _ oM
 generalize n.toBitVec.toNat%16=m at aC
 have: ∀m,m<16→(hvL.getD m 0).toBitVec=hvB.getD m 0:=by decide
 exact this m aC
def th (n:UInt32):Nat→UInt32
 |0=>n
 |k+1=>lM (th n k)
def QU (n:UInt32):th n 8=oZ n 2:=by
 show lM (lM (lM (lM (lM (lM (lM (lM n)))))))=qf (qf n)
 rw[CJ,CJ]
def fS:=aN (aN @av @vf) (aN @wL (aN @zG @au))
def Sy (n:UInt32) (w:World):Rets prog 176 #[v32 n] w (fun v D=>v=v32 (lM n)∧D= []):=by
 have yn:aJ .rem (v32 n) (v32 2)=some (v32 (n%2)):=IH _ _ (by decide)
 have yk:aJ .quo (v32 n) (v32 2)=some (v32 (n / 2)):=ID _ _ (by decide)
 refine Rets.enterV func176 rfl (rs:= [.tmp 2]) results176 ntmps176 ?_
 refine kf ?_
 unfold lM
 refine ky (aN @fS (aN @yn @yk)) ?_
 cases h: (n%2==1)
 ·refine ky (aN @fS @yk) ?_
  refine⟨_,(ke @fS),trivial, ?_⟩
  rfl
 refine ky (aN @fS @yk) ?_
 refine⟨_,(ke @fS),trivial, ?_⟩
 rfl
def Tu (n:UInt32) (b:UInt8) (w:World):Rets prog 150 #[v32 n,v8 b] w (fun v D=>v=v32 (oY n b)∧D= []):=by
 refine Rets.enterV func150 rfl (rs:= [.tmp 4]) results150 ntmps150 ?_
 refine kf ?_
 refine ky @fS ?_
 unfold oY
 generalize n^^^UInt32.ofNat b.toNat=m
 rw[←QU,show v32 m=v32 (th m 0) from rfl]
 refine Cw.loopG (G:=Nat) [10,11,14,15,0,12,13,5] (fun g=> [(0,v32 (th m g)),(5,vi g)]) (fun g=> []) (fun g=>g≤8) (fun g=>8 - g) 0 rfl rfl ?_ ?_
 ·omega
 intro g j hg
 refine kv ?_
 by_cases aC:g<8
 ·refine ky @fS ?_
  refine Ow.callFV rfl call176 (fun w' aA=>Sy _ w') ?_
  refine ko @fS ?_
  refine ky @fS ?_
  refine Again.mk (g+1) oM oM rfl rfl
 obtain rfl:g=8:=by omega
 refine ky @fS ?_
 refine⟨_,(ke @fS),trivial, ?_⟩
 rfl
def Xy (n:UInt32):4294967295 - n= ~~~ n:=by
 apply UInt32.toBitVec_inj.1
 rw[UInt32.toBitVec_sub,UInt32.toBitVec_not,←BitVec.allOnes_sub_eq_not]
 rfl
def Od (s:List UInt8) (w:World) (hs:s.length<1099511627776):Rets prog 124 #[vs s] w (fun v D=>v=v32 (crcV s)∧D= []):=by
 refine Rets.enterV func124 rfl (rs:= [.tmp 2]) results124 ntmps124 ?_
 refine kf ?_
 refine ky @fS ?_
 rw[show v32 4294967295=v32 (kT (~~~ (0:UInt32)) (s.take 0)) from rfl]
 refine Cw.loopG (G:=Nat) [5,6,7,8,11,12,13,14,15,3,9,10,4] (fun g=> [(3,v32 (kT (~~~ (0:UInt32)) (s.take g))),(4,vi g)]) (fun g=> []) (fun g=>g≤s.length) (fun g=>s.length - g) 0 rfl rfl ?_ ?_
 ·omega
 intro g j hg
 refine kv ?_
 by_cases aC:g<s.length
 ·refine ky @fS ?_
  refine Ow.callFV rfl call150 (fun w' aA=>Tu _ _ w') ?_
  refine ko @fS ?_
  refine ky @fS ?_
  refine Again.mk (g+1) oM oM rfl ?_
  rw[C5 _ _ _ aC]
  rfl
 obtain rfl:g=s.length:=by omega
 refine ky @fS ?_
 rw[List.take_length]
 rw[Xy]
 refine⟨_,(ke @fS),trivial, ?_⟩
 rfl
def Wg (n:UInt32):sum4 n= [UInt8.ofNat (n%256).toNat,UInt8.ofNat (n / 256%256).toNat,UInt8.ofNat (n / 65536%256).toNat,UInt8.ofNat (n / 16777216).toNat]:=by
 show [UInt8.ofNat (fv n 0).toNat,UInt8.ofNat (fv n 8).toNat,UInt8.ofNat (fv n 16).toNat,UInt8.ofNat (fv n 24).toNat]=_
 have hn:=n.toNat_lt
 congr 1
 ·apply UInt8.toNat_inj.1
  simp[fv]
 congr 1
 ·apply UInt8.toNat_inj.1
  simp[fv]
 congr 1
 ·apply UInt8.toNat_inj.1
  simp[fv]
 congr 1
 apply UInt8.toNat_inj.1
 simp[fv]
def Ky_ (s:List UInt8) (w:World) (hs:s.length<1099511627776):
  Rets prog 88 #[vs s] w (fun v D=>v=vs (nb s)∧D= []):=by
 refine Rets.enterV func88 rfl (rs:= [.tmp 2]) results88 ntmps88 ?_
 refine kf ?_
 refine ky @fS ?_
 refine Ow.callFV rfl call124 (fun w' aA=>Od s w' hs) ?_
 refine ko @fS ?_
 unfold nb
 rw[Wg]
 generalize crcV s=n
 have h1:aJ .rem (v32 n) (v32 256)=some (v32 (n%256)):=IH _ _ (by decide)
 have h2:aJ .quo (v32 n) (v32 256)=some (v32 (n / 256)):=ID _ _ (by decide)
 have h3:aJ .rem (v32 (n / 256)) (v32 256)=some (v32 (n / 256%256)):=IH _ _ (by decide)
 have h4:aJ .quo (v32 n) (v32 65536)=some (v32 (n / 65536)):=ID _ _ (by decide)
 have h5:aJ .rem (v32 (n / 65536)) (v32 256)=some (v32 (n / 65536%256)):=IH _ _ (by decide)
 have h6:aJ .quo (v32 n) (v32 16777216)=some (v32 (n / 16777216)):=ID _ _ (by decide)
 refine ky (aN @fS (aN @h1 (aN @h2 (aN @h3 (aN @h4 (aN @h5 @h6)))))) ?_
 generalize UInt8.ofNat (n%256).toNat=q0
 generalize UInt8.ofNat (n / 256%256).toNat=q1
 generalize UInt8.ofNat (n / 65536%256).toNat=q2
 generalize UInt8.ofNat (n / 16777216).toNat=q3
 refine Ow.buildSlice (e:=5) #[v8 q0,v8 q1,v8 q2,v8 q3] rfl rfl kR fun b1 aW aI=> ?_
 rw[show(#[v8 q0,v8 q1,v8 q2,v8 q3]:Array Value)=a8 [q0,q1,q2,q3] from rfl]
 have rM: [q0,q1,q2,q3].length=4:=rfl
 have e4:List.take 4 (List.drop 0 [q0,q1,q2,q3])= [q0,q1,q2,q3]:=rfl
 generalize [q0,q1,q2,q3]=q at*
 refine ko (aN @fS @e4) ?_
 refine ky @fS ?_
 refine⟨_,(ke @fS),⟨aI,trivial⟩, ?_⟩
 rfl
def Jb_ (s:List UInt8) (w:World) (hs:s.length<1099511627776):
  Rets prog 94 #[vs s] w (fun v D=>v= .tuple #[vs (d_ s).1, .bool (d_ s).2]∧D= []):=by
 refine Rets.enterV func94 rfl (rs:= [.tmp 2, .tmp 3]) results94 ntmps94 ?_
 refine kf ?_
 refine ky @fS ?_
 unfold d_
 by_cases h4:s.length<4
 ·have e1:decide ((s.length:Int)<4)=true:=aK oM
  rw[if_pos h4]
  refine ky (aN @fS @e1) ?_
  refine⟨_,(ke @fS),trivial, ?_⟩
  rfl
 have e1:decide ((s.length:Int)<4)=false:=aO oM
 have e2: ((s.length:Int) - 4).toNat=s.length - 4:=by omega
 rw[if_neg h4]
 refine ky (aN @fS (aN @e1 @e2)) ?_
 refine Ow.callFV rfl call88 (fun w' aA=>Ky_ (s.take (s.length - 4)) w' (by rw[List.length_take];omega)) ?_
 refine ko @fS ?_
 cases hq: (nb (s.take (s.length - 4)) !=s)
 ·rw[if_pos (by simpa using hq)]
  refine ky (aN @fS (aN @hq @e2)) ?_
  refine⟨_,(ke @fS),trivial, ?_⟩
  rfl
 rw[if_neg (by simpa using hq)]
 refine ky (aN @fS @hq) ?_
 refine⟨_,(ke @fS),trivial, ?_⟩
 rfl
end Go.Proofs
end
section
open Go Go.Proofs Go.Sx Go.StP Go.Flo
namespace Go.Proofs
end Go.Proofs
end
