/-
  Part 2 of the walk: contracts of the functions that the law reaches, and the calculus they stand on.
  No conditions.
-/
import Derived.Test.YtfdphhalimbpbaaGreatDoorB1
import Derived.Shelf.SlIter.Nil
import Derived.Shelf.SortM.Plain
import Derived.Shelf.SortM.SortNone
import Derived.Ground.GgzProg
import Derived.Ground.SlgmProg
section
open Go Go.Proofs Go.Sx Go.StP
namespace Go.Proofs
set_option maxRecDepth 10000
set_option maxHeartbeats 400000
set_option linter.unusedSimpArgs false
theorem GlobE.new {w0 w:World} {L:za_} (hg:GlobE w0) (h:Hp w0 L w) (hn:New w0.heap.size L):GlobE w:=by
 obtain⟨e0,e1,f0,f1,h0,h1⟩:=id hg
 have:3<w0.heap.size:=(Array.getElem?_eq_some_iff.1 h1).1
 exact hg.of h fun b hb=>by have:=hn.le b hb;omega
theorem agA_ (m:List UInt8): (Dig.shaR m).length=32:=Dig.outPre_length _ _
set_option linter.defProp false
def idV (k:Int) (t:List UInt8):IdL:=if RdOk k t then⟨Dig.shaR (ak7_ k t),agA_ _⟩ else id0
instance:DecidableEq ChildL:=fun a b=>if h:a.id.l=b.id.l∧a.kind=b.kind then .isTrue (by cases a;cases b;simp only at h;obtain⟨h3,rfl⟩:=h;rw[IdL.ext' h3]) else .isFalse (fun e=>h (by rw[e];exact⟨rfl,rfl⟩))
theorem ChildL.ext' {a b:ChildL} (h: (a.id.l==b.id.l&&a.kind==b.kind)=true):a=b:=by
 simp only[Bool.and_eq_true,beq_iff_eq] at h
 cases a;cases b;simp only at h;obtain⟨h3,rfl⟩:=h;rw[IdL.ext' h3]
set_option linter.defProp false
end Go.Proofs
end
section
open Go Go.Proofs Go.Sx Go.StP Go.Flo
namespace Go.Proofs
set_option maxRecDepth 10000
set_option maxHeartbeats 400000
set_option linter.unusedSimpArgs false
structure ObL where
 k:Int
 t:List UInt8
def ais_ (s:List UInt8):ObL:=⟨if frOk s then frK s else 0,if frOk s then(frT s).1 else []⟩
def idOf (s:List UInt8):IdL:=idV (ais_ s).k (ais_ s).t
def ah5_:List (List UInt8)→List IdL→List ObL→Option (List IdL×List ObL)
 | [],ids,os=>some (ids,os)
 |s::r,ids,os=>if frOk s=true∧(ids.any fun y=>(idOf s).l==y.l)=false then ah5_ r (ids++ [idOf s]) (os++ [ais_ s]) else none
def fillV (l:List PartL):Option (List IdL×List ObL):=match allV l with
 | .ok ts=>ah5_ ts [] []
 | .error _=>none
end Go.Proofs
end
section
open Go Go.Proofs Go.Sx
namespace Go.Proofs
set_option maxRecDepth 10000
set_option maxHeartbeats 4000000
set_option linter.unusedSimpArgs false
def hvL:List UInt32:= [0x00000000,0x1db71064,0x3b6e20c8,0x26d930ac,0x76dc4190,0x6b6b51f4,0x4db26158,0x5005713c,0xedb88320,0xf00f9344,0xd6d6a3e8,0xcb61b38c,0x9b64c2b0,0x86d3d2d4,0xa00ae278,0xbdbdf21c]
def aj9_ (n:UInt32):UInt32:=jb_ n 4^^^hvL.getD (n&&&15).toNat 0
def aee_ (n:UInt32):Nat→UInt32
 |0=>n
 |k+1=>aj9_ (aee_ n k)
def af6_ (n:UInt32) (b:UInt8):UInt32:=aee_ (n^^^UInt32.ofNat b.toNat) 2
theorem aei_ (n:UInt32): (n&&&15).toNat<16:=by
 rw[UInt32.toNat_and]
 exact Nat.lt_of_le_of_lt Nat.and_le_right (by decide)
def GlobC (w:World):Prop:= ∃e f,w.heap[(4:Nat)]? =some (.cells (a32 hvL) e f)
theorem GlobC.of {w w':World} {L:za_} (h:GlobC w) (hw:Hp w L w') (hn: (4:Nat)∉keys L):GlobC w':=by
 obtain⟨e,f,h⟩:=h
 exact⟨e,f,by rw[hw.old _ (Array.getElem?_eq_some_iff.1 h).1 hn];exact h⟩
theorem ait_:hvL.length=16:=rfl
set_option linter.defProp false
def z1_:=And.intro (And.intro (@zw_) (@qx_)) (And.intro (@qw_) (And.intro (@qu_) (@zv_)))
theorem adC_ (n:UInt32) (b:UInt8) (w:World) (hG:GlobC w):
  Rets Tryz.prog 305 #[v32 n,v8 b] w (fun v D=>v=v32 (af6_ n b)∧D= []):=by
 obtain⟨e,f,htab⟩:=hG
 refine Rets.enterV Tryz.func305 rfl (rs:= [.tmp 4]) Tryz.results305 Tryz.ntmps305 ?_
 refine kf ?_
 first|with_reducible refine ks [] @z1_ ?_|refine kp @z1_ ?_
 unfold af6_
 generalize n^^^UInt32.ofNat b.toNat=m
 rw[show v32 m=v32 (aee_ m 0) from rfl]
 refine Cw.loopG (G:=Nat) [10,11,12,13,14,15,16,17,0,18,9] (fun g=> [(0,v32 (aee_ m g)),(9,vi g)]) (fun g=> []) (fun g=>g≤2) (fun g=>2 - g) 0 rfl rfl ?_ ?_
 ·omega
 intro g j hg
 refine kv ?_
 by_cases hlt:g<2
 ·have h15:=aei_ (aee_ m g)
  have hl:=ait_
  first|with_reducible refine ks [] (And.intro @z1_ @htab) ?_|refine kp (And.intro @z1_ @htab) ?_
  refine Again.mk (g+1) (by omega) (by omega) rfl rfl
 ·obtain rfl:g=2:=by omega
  first|with_reducible refine ks [] @z1_ ?_|refine kp @z1_ ?_
  refine⟨_,(ke @z1_),trivial, ?_⟩
  rfl
def aaE_ (n:UInt32) (s:List UInt8):UInt32:=s.foldl af6_ n
theorem acV_ (n:UInt32) (s:List UInt8) (g:Nat) (h:g<s.length):aaE_ n (s.take (g+1))=af6_ (aaE_ n (s.take g)) (s.getD g 0):=by
 unfold aaE_
 rw[List.take_succ_eq_append_getElem h,List.foldl_append,List.getD_eq_getElem?_getD,List.getElem?_eq_getElem h]
 rfl
theorem aeh_ (n:UInt32) (s:List UInt8) (w:World) (hG:GlobC w) (hs:s.length<1099511627776):
  Rets Tryz.prog 272 #[v32 n,vs s] w (fun v D=>v=v32 (~~~ (aaE_ (~~~ n) s))∧D= []):=by
 refine Rets.enterV Tryz.func272 rfl (rs:= [.tmp 4]) Tryz.results272 Tryz.ntmps272 ?_
 refine kf ?_
 first|with_reducible refine ks [] @z1_ ?_|refine kp @z1_ ?_
 rw[show v32 (~~~ n)=v32 (aaE_ (~~~ n) (s.take 0)) from rfl]
 refine Cw.loopG (G:=Nat) [12,13,6,14,15,16,17,18,5,19,11] (fun g=> [(5,v32 (aaE_ (~~~ n) (s.take g))),(11,vi g)]) (fun g=> []) (fun g=>g≤s.length) (fun g=>s.length - g) 0 rfl rfl ?_ ?_
 ·omega
 intro g j hg
 refine kv ?_
 by_cases hlt:g<s.length
 ·first|with_reducible refine ks [] @z1_ ?_|refine kp @z1_ ?_
  refine Ow.callFV rfl Tryz.call305 (fun w' hw'=>adC_ _ _ w' (GlobC.of hG hw' (by simp[keys]))) ?_
  refine ko @z1_ ?_
  first|with_reducible refine ks [] @z1_ ?_|refine kp @z1_ ?_
  refine Again.mk (g+1) (by omega) (by omega) rfl ?_
  rw[acV_ _ _ _ hlt]
  rfl
 ·obtain rfl:g=s.length:=by omega
  first|with_reducible refine ks [] @z1_ ?_|refine kp @z1_ ?_
  rw[List.take_length]
  refine⟨_,(ke @z1_),trivial, ?_⟩
  rfl
def crcV (s:List UInt8):UInt32:= ~~~ (aaE_ (~~~ (0:UInt32)) s)
theorem afc_ (b:Nat) (s:List UInt8) (E:TypeId) (w:World) (hG:GlobC w) (hs:s.length<1099511627776) (ho:w.heap[b]? =some (.cells #[vs s] E (0,0))):
  Rets Tryz.prog 237 #[vsl b 0 1 1] w (fun v D=>v=v32 (crcV s)∧D= []):=by
 have hS:StrS w (vsl b 0 1 1) [s] b 0 #[vs s] E (0,0):=StrS.lit [s] rfl rfl ho
 refine Rets.enterV Tryz.func237 rfl (rs:= [.tmp 2]) Tryz.results237 Tryz.ntmps237 ?_
 refine kf ?_
 first|with_reducible refine ks [] @z1_ ?_|refine kp @z1_ ?_
 refine Cw.loopG (G:=Nat) [9,10,11,5,12,13,14,3,15,8] (fun g=> [(3,v32 (if g=0 then 0 else crcV s)),(8,vi g)]) (fun g=> []) (fun g=>g≤1) (fun g=>1 - g) 0 rfl rfl ?_ ?_
 ·omega
 intro g j hg
 refine kv ?_
 by_cases hlt:g<1
 ·obtain rfl:g=0:=by omega
  have hlg:=hS.get 0 (by simp)
  have hrd:=hS.has (by simp)
  have hix:=fun m=>hS.idx m 0 (by simp)
  ((try with_reducible refine Cw.go [] ?_);(try simp(disch:=(first|assumption|omega| (simp only[qP_,qM_,UInt64.reduceToNat];try omega))) only[↓Sx.S0,Sx.S1,Tryz.fx,z1_,Nat.reduceAdd,Nat.reducePow,Int.reducePow,Nat.reduceBEq, ↓reduceIte,UInt8.reduceToNat,UInt16.reduceToNat,UInt32.reduceToNat,UInt64.reduceToNat,Int.reduceToNat,Sx.loadV_one,hrd,hlg,hix]))
  refine Ow.callFV rfl Tryz.call272 (fun w' hw'=>aeh_ 0 s w' (GlobC.of hG hw' (by simp[keys])) hs) ?_
  refine ko @z1_ ?_
  first|with_reducible refine ks [] @z1_ ?_|refine kp @z1_ ?_
  refine Again.mk 1 (by omega) (by omega) rfl rfl
 ·obtain rfl:g=1:=by omega
  first|with_reducible refine ks [] @z1_ ?_|refine kp @z1_ ?_
  refine⟨_,(ke @z1_),trivial, ?_⟩
  rfl
def QP_ (n:UInt32) (g:Nat):List UInt8:=(List.range 4).map fun j=>if j<g then UInt8.ofNat (jb_ n (8*j)).toNat else 0
def sum4 (n:UInt32):List UInt8:=QP_ n 4
theorem JS_ (n:UInt32) (g:Nat): (QP_ n g).length=4:=by simp[QP_]
theorem WG_ (n:UInt32) (g:Nat) (h:g<4): (QP_ n g).set g (UInt8.ofNat (jb_ n (8*g)).toNat)=QP_ n (g+1):=by
 have:g=0∨g=1∨g=2∨g=3:=by omega
 rcases this with rfl|rfl|rfl|rfl<;>rfl
def xD_ (s:List UInt8):List UInt8:=s++sum4 (crcV s)
theorem J9_ (s:List UInt8) (w:World) (hG:GlobC w) (hs:s.length<1099511627776):
  Rets Tryz.prog 209 #[vs s] w (fun v D=>v=vs (xD_ s)∧D= []):=by
 have hgl: (4:Nat)<w.heap.size:=by obtain⟨e,f,h⟩:=hG;exact(Array.getElem?_eq_some_iff.1 h).1
 refine Rets.enterV Tryz.func209 rfl (rs:= [.tmp 2]) Tryz.results209 Tryz.ntmps209 ?_
 refine kf ?_
 first|with_reducible refine ks [] @z1_ ?_|refine kp @z1_ ?_
 refine Ow.buildSlice (e:=9) #[vs s] rfl rfl (by kernel_rfl) fun b1 hb1 hw1=> ?_
 refine ko @z1_ ?_
 refine Ow.callFV rfl Tryz.call237 (fun w' hw'=>afc_ b1 s _ w' (GlobC.of hG hw' (by simp[keys];omega)) hs (hw'.has _ _ List.mem_cons_self)) ?_
 refine ko @z1_ ?_
 first|with_reducible refine ks [] @z1_ ?_|refine kp @z1_ ?_
 unfold xD_
 generalize crcV s=n
 refine Ow.alloc rfl rfl Tryz.zr346 fun b2 hb2 hw2=> ?_
 obtain⟨h12,-⟩:=hb2
 refine ko @z1_ ?_
 first|with_reducible refine ks [] @z1_ ?_|refine kp @z1_ ?_
 rw[show a8 (List.replicate 4 0)=a8 (QP_ n 0) from rfl]
 refine Cw.loopG (G:=Nat) [10,11,5,12,13,14,15,16,17,18,19,9] (fun g=> [(9,vi g)]) (fun g=> [(b1, .cells #[vs s] 9 (0,0)),(b2, .cells (a8 (QP_ n g)) 346 (0,0))]) (fun g=>g≤4) (fun g=>4 - g) 0 rfl rfl ?_ ?_
 ·omega
 intro g j hg
 refine kv ?_
 have hpl:=JS_ n g
 by_cases hlt:g<4
 ·first|with_reducible refine ks [] @z1_ ?_|refine kp @z1_ ?_
  refine Again.mk (g+1) (by omega) (by omega) ?_ rfl
  rw[WG_ n g hlt]
 ·obtain rfl:g=4:=by omega
  first|with_reducible refine ks [] @z1_ ?_|refine kp @z1_ ?_
  refine⟨_,(ke @z1_),⟨hw1,hw2,trivial⟩, ?_⟩
  rw[List.drop_zero,List.take_of_length_le (by omega)];rfl
def xE_ (s:List UInt8):List UInt8×Bool:=
 if s.length<4 then([],false) else if xD_ (s.take (s.length - 4))=s then(s.take (s.length - 4),true) else([],false)
theorem v7_ (s:List UInt8): (xD_ s).length=s.length+4:=by unfold xD_ sum4;rw[List.length_append,JS_]
theorem KS_ (s:List UInt8) (w:World) (hG:GlobC w) (hs:s.length<1099511627776):
  Rets Tryz.prog 216 #[vs s] w (fun v D=>v= .tuple #[vs (xE_ s).1, .bool (xE_ s).2]∧D= []):=by
 refine Rets.enterV Tryz.func216 rfl (rs:= [.tmp 2, .tmp 3]) Tryz.results216 Tryz.ntmps216 ?_
 refine kf ?_
 first|with_reducible refine ks [] @z1_ ?_|refine kp @z1_ ?_
 unfold xE_
 by_cases h4:s.length<4
 ·have e1:decide ((s.length:Int)<4)=true:=decide_eq_true (by omega)
  rw[if_pos h4]
  first|with_reducible refine ks [] (And.intro @z1_ @e1) ?_|refine kp (And.intro @z1_ @e1) ?_
  refine⟨_,(ke @z1_),trivial, ?_⟩
  rfl
 ·have e1:decide ((s.length:Int)<4)=false:=decide_eq_false (by omega)
  have e2: ((s.length:Int) - 4).toNat=s.length - 4:=by omega
  rw[if_neg h4]
  first|with_reducible refine ks [] (And.intro @z1_ (And.intro @e1 (@e2))) ?_|refine kp (And.intro @z1_ (And.intro @e1 (@e2))) ?_
  refine Ow.callFV rfl Tryz.call209 (fun w' hw'=>J9_ (s.take (s.length - 4)) w' (GlobC.of hG hw' (by simp[keys])) (by rw[List.length_take];omega)) ?_
  refine ko @z1_ ?_
  cases hq: (xD_ (s.take (s.length - 4)) !=s)
  ·rw[if_pos (by simpa using hq)]
   first|with_reducible refine ks [] (And.intro @z1_ (And.intro @hq (@e2))) ?_|refine kp (And.intro @z1_ (And.intro @hq (@e2))) ?_
   refine⟨_,(ke @z1_),trivial, ?_⟩
   rfl
  ·rw[if_neg (by simpa using hq)]
   first|with_reducible refine ks [] (And.intro @z1_ @hq) ?_|refine kp (And.intro @z1_ @hq) ?_
   refine⟨_,(ke @z1_),trivial, ?_⟩
   rfl
end Go.Proofs
end
section
open Go Go.Proofs Go.Sx Go.StP Go.Flo
namespace Go.Proofs
set_option maxRecDepth 10000
set_option maxHeartbeats 400000
set_option linter.unusedSimpArgs false
instance:DecidableEq ObL:=fun a b=>if h:a.k=b.k∧a.t=b.t then .isTrue (by cases a;cases b;simp only at h;obtain⟨rfl,rfl⟩:=h;rfl) else .isFalse (fun e=>h (by rw[e];exact⟨rfl,rfl⟩))
end Go.Proofs
end
section
open Go Go.Proofs Go.Sx Go.StP Go.Flo
namespace Go.Proofs
set_option maxRecDepth 10000
set_option maxHeartbeats 400000
set_option linter.unusedSimpArgs false
end Go.Proofs
end
section
open Go Go.Proofs Go.Sx Go.StP Go.Flo
namespace Go.Proofs
set_option maxRecDepth 10000
set_option maxHeartbeats 400000
set_option linter.unusedSimpArgs false
end Go.Proofs
end
section
open Go Go.Proofs Go.Sx Go.StP Go.Flo
namespace Go.Proofs
set_option maxRecDepth 10000
set_option maxHeartbeats 400000
set_option linter.unusedSimpArgs false
theorem ajJ_ {D:za_} {E:TypeId} {m n:Nat} {v:Value} {cs:List Value} (h:GrI D E m v n cs) (x:Bool×Nat):XU_ (.sl x) v=some (vi n):=by
 obtain⟨X,-,h⟩:=h;exact h.len x
set_option linter.defProp false
end Go.Proofs
end
section
open Go Go.Proofs Go.Sx Go.StP Go.Flo
namespace Go.Proofs
set_option maxRecDepth 10000
set_option maxHeartbeats 400000
set_option linter.unusedSimpArgs false
set_option linter.defProp false
end Go.Proofs
end
section
open Go Go.Proofs Go.Sx Go.StP Go.Flo
namespace Go.Proofs
set_option maxRecDepth 10000
set_option maxHeartbeats 400000
set_option linter.unusedSimpArgs false
set_option linter.defProp false
end Go.Proofs
end
section
open Go Go.Proofs Go.Sx Go.StP Go.Flo
namespace Go.Proofs
set_option maxRecDepth 10000
set_option maxHeartbeats 400000
set_option linter.unusedSimpArgs false
set_option linter.defProp false
end Go.Proofs
end
section
open Go Go.Proofs Go.Sx Go.StP Go.Flo
namespace Go.Proofs
set_option maxRecDepth 10000
set_option maxHeartbeats 400000
set_option linter.unusedSimpArgs false
set_option linter.defProp false
set_option linter.defProp false
end Go.Proofs
end
section
open Go Go.Proofs Go.Sx Go.StP Go.Flo
namespace Go.Proofs
set_option maxRecDepth 10000
set_option maxHeartbeats 400000
set_option linter.unusedSimpArgs false
instance:DecidableEq PartL:=fun a b=>if h:a.d=b.d∧a.b=b.b∧a.x=b.x then .isTrue (by cases a;cases b;simp only at h;obtain⟨rfl,rfl,rfl⟩:=h;rfl) else .isFalse (fun e=>h (by rw[e];exact⟨rfl,rfl,rfl⟩))
set_option linter.defProp false
end Go.Proofs
end
section
open Go Go.Proofs Go.Sx Go.StP Go.Flo
namespace Go.Proofs
set_option maxRecDepth 10000
set_option maxHeartbeats 400000
set_option linter.unusedSimpArgs false
set_option linter.defProp false
end Go.Proofs
end
section
open Go Go.Proofs Go.Sx Go.StP Go.Flo
namespace Go.Proofs
set_option maxRecDepth 10000
set_option maxHeartbeats 400000
set_option linter.unusedSimpArgs false
set_option linter.defProp false
end Go.Proofs
end
section
open Go Go.Proofs Go.Sx Go.Dig
namespace Go.Proofs
set_option maxRecDepth 10000
set_option maxHeartbeats 1000000
set_option linter.unusedSimpArgs false
set_option linter.defProp false
end Go.Proofs
end
section
open Go Go.Proofs Go.Sx Go.StP Go.Flo Go.Dig
namespace Go.Proofs
set_option maxRecDepth 10000
set_option maxHeartbeats 400000
set_option linter.unusedSimpArgs false
section
variable {P:Program} {w0:World} {f:Fr} {L:za_} {N:Fr→za_→Prop} {ops:Array Oper} {rest:List Oper} {md:Md} {d:Option Tmp} {ty:TypeId} {ps:String} {af:Array Edge} {g:Option (Nat×Bool)}
end
set_option linter.defProp false
set_option linter.defProp false
end Go.Proofs
end
section
open Go Go.Proofs Go.Sx Go.StP Go.Flo
namespace Go.Proofs
set_option maxRecDepth 100000
set_option maxHeartbeats 1000000
set_option linter.unusedSimpArgs false
abbrev aeI_ (w:World) (v:Value) (l:List (List UInt8)):Prop:=SlV 1 strC [] w v l
theorem adU_ {w:World} {v:Value} {l:List (List UInt8)} {b off:Nat} {arr:Array Value} {E:TypeId} {fz:Nat×Nat} (h:RowS 1 strC [] w v l b off arr E fz) {k:Nat} (hk:k<l.length) (n:Nat):
  zD_ (some (false,n)) (some (.cells arr E fz)) (off+k)=some (vs (l.getD k [])):=by
 have:=h.cell (j:=0) (n:=n) hk (by omega)
 rwa [Nat.mul_one,Nat.add_zero] at this
set_option linter.defProp false
end Go.Proofs
end
section
open Go Go.Proofs Go.Sx Go.StP
namespace Go.Proofs
set_option maxRecDepth 10000
set_option maxHeartbeats 400000
set_option linter.unusedSimpArgs false
def km_ (s:List UInt8):Bool:= !(s== [])&&decide (s.length≤80)&& !(s.any VX_)
set_option linter.defProp false
def qr_:=And.intro (And.intro (And.intro (@zw_) (And.intro (@qx_) (@qw_))) (And.intro (And.intro (@qu_) (@zv_)) (And.intro (@XT_) (@vn_)))) (And.intro (And.intro (And.intro (@vy_) (@vk_)) (And.intro (@WV_) (@J5_))) (And.intro (And.intro (@Sx.tup3_0) (@Sx.tup3_1)) (And.intro (@Sx.tup3_2) (@eqb))))
theorem Vn_ (c:Int) (w:World):Rets Tryz.prog 171 #[Zg_ c] w (fun v D=>v= .bool (badR c)∧D= []):=by
 refine Rets.enterV Tryz.func171 rfl (rs:= [.tmp 2]) Tryz.results171 Tryz.ntmps171 ?_
 refine kf ?_
 unfold badR
 cases h1:decide (c<33)
 ·cases h2:decide (126<c)
  ·first|with_reducible refine ks [] (And.intro @qr_ (And.intro @h1 (@h2))) ?_|refine kp (And.intro @qr_ (And.intro @h1 (@h2))) ?_
   refine⟨_,(ke @qr_),trivial, ?_⟩
   simp[xq_]
  ·first|with_reducible refine ks [] (And.intro @qr_ (And.intro @h1 (@h2))) ?_|refine kp (And.intro @qr_ (And.intro @h1 (@h2))) ?_
   refine⟨_,(ke @qr_),trivial, ?_⟩
   simp[xq_]
 ·first|with_reducible refine ks [] (And.intro @qr_ @h1) ?_|refine kp (And.intro @qr_ @h1) ?_
  refine⟨_,(ke @qr_),trivial, ?_⟩
  simp[xq_]
theorem VT_ (s:List UInt8) (w:World) (hs:s.length<1099511627776):
  Rets Tryz.prog 97 #[vs s] w (fun v D=>v= .bool (km_ s)∧D= []):=by
 refine Rets.enterV Tryz.func97 rfl (rs:= [.tmp 2]) Tryz.results97 Tryz.ntmps97 ?_
 refine kf ?_
 cases h0: (s != [])
 ·have e0: (s== [])=true:=by simpa using h0
  first|with_reducible refine ks [] (And.intro @qr_ @h0) ?_|refine kp (And.intro @qr_ @h0) ?_
  refine⟨_,(ke @qr_),trivial, ?_⟩
  simp[xq_,km_,e0]
 ·have e0: (s== [])=false:=by simpa using h0
  cases h1:decide ((s.length:Int)≤80)
  ·have e1:decide (s.length≤80)=false:=decide_eq_false (by have:=of_decide_eq_false h1;omega)
   first|with_reducible refine ks [] (And.intro @qr_ (And.intro @h0 (@h1))) ?_|refine kp (And.intro @qr_ (And.intro @h0 (@h1))) ?_
   refine⟨_,(ke @qr_),trivial, ?_⟩
   simp only[xq_,km_,e0,e1,Bool.not_false,Bool.true_and,Bool.false_and,Bool.and_false]
  ·have e1:decide (s.length≤80)=true:=decide_eq_true (by have:=of_decide_eq_true h1;omega)
   first|with_reducible refine ks [] (And.intro @qr_ (And.intro @h0 (@h1))) ?_|refine kp (And.intro @qr_ (And.intro @h0 (@h1))) ?_
   refine Ow.callFV rfl Tryz.call170 (fun w' hw'=>wK_ s 171 Tryz.call171 Vn_ w' hs) ?_
   refine ko @qr_ ?_
   first|with_reducible refine ks [] @qr_ ?_|refine kp @qr_ ?_
   refine⟨_,(ke @qr_),trivial, ?_⟩
   simp only[xq_,km_,e0,e1,Bool.not_false,Bool.true_and]
theorem adh_ (s:List UInt8) (w:World) (hs:s.length<1099511627776):Rets Tryz.prog 207 #[vs s] w (fun v D=>v= .bool (!km_ s)∧D= []):=by
 refine Rets.enterV Tryz.func207 rfl (rs:= [.tmp 2]) Tryz.results207 Tryz.ntmps207 ?_
 refine kf ?_
 first|with_reducible refine ks [] @qr_ ?_|refine kp @qr_ ?_
 refine Ow.callFV rfl Tryz.call97 (fun w' hw'=>VT_ s w' hs) ?_
 refine ko @qr_ ?_
 first|with_reducible refine ks [] @qr_ ?_|refine kp @qr_ ?_
 refine⟨_,(ke @qr_),trivial, ?_⟩
 rfl
theorem Qu_ (v:Value) (l:List (List UInt8)) (w:World) (hv:aeI_ w v l) (hl:l.length<1000000) (hs: ∀s,s∈l→s.length<1099511627776):Rets Tryz.prog 236 #[v, .func (.func 207) #[] #[]] w (fun v D=>(∃i:Int,v=vi i∧decide (0≤i)= !(l.all km_))∧D= []):=by
 obtain⟨rb,off,arr,E,fz,hr⟩:=hv.row
 have ln:=hv.len
 refine Rets.enterV Tryz.func236 rfl (rs:= [.tmp 4]) Tryz.results236 Tryz.ntmps236 ?_
 refine kf ?_
 first|with_reducible refine ks [] (And.intro @qr_ @ln) ?_|refine kp (And.intro @qr_ @ln) ?_
 refine Cw.loopG (G:=Nat) [9,10,5,11,12,13,14,15,16,17,4,18,8] (fun k=> [(4,vi 0),(8,vi k)]) (fun k=> []) (fun k=>k≤l.length∧(l.take k).all km_=true) (fun k=>l.length - k) 0 rfl rfl ?_ ?_
 ·exact⟨Nat.zero_le _,rfl⟩
 intro k jk hk
 refine kv ?_
 obtain⟨hk,hal⟩:=hk
 by_cases hlt:k<l.length
 ·have d1:decide ((k:Int)< (l.length:Int))=true:=decide_eq_true (by omega)
  have hb:=hr.has (by omega)
  have ix:=hr.idx false k hlt
  have ld:=fun n=>adU_ hr hlt n
  have hts:=StP.take_snoc (z:=([]:List UInt8)) hlt
  have hm:l.getD k []∈l:=by rw[List.getD_eq_getElem?_getD,List.getElem?_eq_getElem hlt];exact List.getElem_mem hlt
  have hsl:=hs _ hm
  generalize l.getD k []=s at*
  first|with_reducible refine ks [] (And.intro @qr_ (And.intro @d1 (And.intro @hb (And.intro @ix (@ld))))) ?_|refine kp (And.intro @qr_ (And.intro @d1 (And.intro @hb (And.intro @ix (@ld))))) ?_
  refine Ow.callFn1 (v:= .bool (!km_ s)) rfl rfl rfl Tryz.call207 (fun w' hw'=>adh_ s w' hsl) ?_
  cases hn:km_ s with
  |true=>
   refine ko @qr_ ?_
   refine Again.mk (G:=Nat) (k+1) (by show l.length - (k+1)<l.length - k;omega) ⟨hlt, ?_⟩ rfl rfl
   rw[hts,List.all_append,hal,List.all_cons,hn];rfl
  |false=>
   refine ko @qr_ ?_
   first|with_reducible refine ks [] @qr_ ?_|refine kp @qr_ ?_
   refine⟨_,(ke @qr_),trivial, ?_⟩
   refine⟨(k:Int),rfl, ?_⟩
   rw[decide_eq_true (show(0:Int)≤ (k:Int) by omega),show l.all km_=false from List.all_eq_false.2 ⟨s,hm,by rw[hn];simp⟩];rfl
 ·obtain rfl:k=l.length:=by omega
  have d1:decide ((l.length:Int)< (l.length:Int))=false:=decide_eq_false (by omega)
  rw[List.take_length] at hal
  first|with_reducible refine ks [] (And.intro @qr_ @d1) ?_|refine kp (And.intro @qr_ @d1) ?_
  refine⟨_,(ke @qr_),trivial, ?_⟩
  exact⟨-1,rfl,by rw[hal];rfl⟩
theorem Js_ (v:Value) (l:List (List UInt8)) (w:World) (hv:aeI_ w v l) (hl:l.length<1000000) (hs: ∀s,s∈l→s.length<1099511627776):Rets Tryz.prog 206 #[v, .func (.func 207) #[] #[]] w (fun v D=>v= .bool (!(l.all km_))∧D= []):=by
 refine Rets.enterV Tryz.func206 rfl (rs:= [.tmp 4]) Tryz.results206 Tryz.ntmps206 ?_
 refine kf ?_
 first|with_reducible refine ks [] @qr_ ?_|refine kp @qr_ ?_
 refine Ow.callC rfl rfl Tryz.call236 (fun w' hw'=>Rets.toX (Qu_ v l w' (hv.oldN hw' trivial) hl hs)) (fun B1 v1 D1 hA1 hB1 hN1 hS1=> ?_)
 obtain⟨rfl,i,rfl,hi⟩:=hS1
 refine ko (And.intro @qr_ @hi) ?_
 first|with_reducible refine ks [] @qr_ ?_|refine kp @qr_ ?_
 refine⟨_,(ke @qr_),trivial, ?_⟩
 rfl
end Go.Proofs
end
section
open Go Go.Proofs Go.Sx Go.StP
namespace Go.Proofs
set_option maxRecDepth 10000
set_option maxHeartbeats 400000
set_option linter.unusedSimpArgs false
structure FileL where
 data:List UInt8
 stl:Nat
def x7_:FileL:=⟨[],0⟩
structure CallL where
 kind:Nat
 a:List UInt8
 b:List UInt8
 n:Nat
def ky_:CallL:=⟨2,[],[],0⟩
abbrev NmL:=List (List UInt8×Nat)
structure DirL where
 seen:NmL
 stl:NmL
 pend:List CallL
structure DiskL where
 dir:Nat→DirL
 files:List FileL
 max:Int
 fuse:Int
 fused:Bool
 off:Bool
def zQ_ (l:NmL) (s:List UInt8):Option Nat:=(l.find? fun p=>s==p.1).map Prod.snd
def j7_ (l:NmL) (s:List UInt8):NmL:=l.filter fun p=> !(s==p.1)
def insN:NmL→List UInt8×Nat→NmL
 | [],x=> [x]
 |p::r,x=>if ltB x.1 p.1=true then x::p::r else p::insN r x
def putN (l:NmL) (x:List UInt8×Nat):NmL:=insN (j7_ l x.1) x
def SrtN (l:NmL):Prop:=l.Pairwise fun p q=>ltB p.1 q.1=true
theorem SrtN.nodup {l:NmL} (h:SrtN l): (l.map Prod.fst).Nodup:=by
 refine List.pairwise_map.2 (List.Pairwise.imp ?_ h)
 intro a b hab e
 rw[e,wJ_] at hab;cases hab
theorem jS_ (x:List UInt8×Nat): ∀l:NmL,(insN l x).Perm (x::l)
 | []=>List.Perm.refl _
 |p::r=>by
  unfold insN
  split
  ·exact List.Perm.refl _
  ·exact((jS_ x r).cons p).trans (List.Perm.swap x p r)
theorem abT_ {x:List UInt8×Nat}: ∀ {l:NmL},SrtN l→(∀p,p∈l→p.1≠x.1)→SrtN (insN l x)
 | [],_,_=>List.pairwise_singleton _ _
 |p::r,h,hx=>by
  unfold SrtN at h
  rw[List.pairwise_cons] at h
  unfold insN
  split
  ·rename_i h1
   refine List.pairwise_cons.2 ⟨fun q hq=> ?_,List.pairwise_cons.2 h⟩
   rcases List.mem_cons.1 hq with rfl|hq
   ·exact h1
   ·exact Z6_ h1 (h.1 q hq)
  ·rename_i h1
   refine List.pairwise_cons.2 ⟨fun q hq=> ?_,abT_ h.2 fun q hq=>hx q (List.mem_cons_of_mem _ hq)⟩
   rcases List.mem_cons.1 ((jS_ x r).mem_iff.1 hq) with rfl|hq
   ·have h1':ltB q.1 p.1=false:=by simpa using h1
    exact Qk_ h1' (fun e=>hx p List.mem_cons_self e.symm)
   ·exact h.1 q hq
theorem QJ_ {l:NmL} (s:List UInt8) (h:SrtN l):SrtN (j7_ l s):=List.Pairwise.filter _ h
theorem ahs_ {l:NmL} {s:List UInt8} {p:List UInt8×Nat} (h:p∈j7_ l s):p.1≠s:=by
 have:=(List.mem_filter.1 h).2
 intro e
 rw[e] at this;simp at this
theorem Xv_ {l:NmL} (x:List UInt8×Nat) (h:SrtN l):SrtN (putN l x):=abT_ (QJ_ _ h) fun _ hp=>ahs_ hp
theorem x0_ {l:NmL} {s:List UInt8} {n:Nat} (h:zQ_ l s=some n): (s,n)∈l:=by
 unfold zQ_ at h
 cases hf:l.find? fun p=>s==p.1 with
 |none=>rw[hf] at h;cases h
 |some p=>
  rw[hf] at h
  have h1:=List.find?_some hf
  have h2:=List.mem_of_find?_eq_some hf
  obtain⟨a,b⟩:=p
  cases h
  rw[show s=a from by simpa using h1];exact h2
theorem Xb_ {l:NmL} {s:List UInt8} (h:zQ_ l s=none): ∀p,p∈l→p.1≠s:=by
 intro p hp e
 unfold zQ_ at h
 cases hf:l.find? fun p=>s==p.1 with
 |none=>
  have:=List.find?_eq_none.1 hf p hp
  rw[e] at this;simp at this
 |some q=>rw[hf] at h;cases h
theorem Vv_ {α β:Type} {m:List (α×β)} (hn: (m.map Prod.fst).Nodup) {k:α} {a b:β} (h1: (k,a)∈m) (h2: (k,b)∈m):a=b:=by
 induction m with
 |nil=>cases h1
 |cons p r ih=>
  rw[List.map_cons,List.nodup_cons] at hn
  rcases List.mem_cons.1 h1 with e1|h1
  ·rcases List.mem_cons.1 h2 with e2|h2
   ·rw[←e1] at e2;exact(congrArg Prod.snd e2).symm
   ·exact absurd (by rw[←e1];exact List.mem_map.2 ⟨_,h2,rfl⟩) hn.1
  ·rcases List.mem_cons.1 h2 with e2|h2
   ·exact absurd (by rw[←e2];exact List.mem_map.2 ⟨_,h1,rfl⟩) hn.1
   ·exact ih hn.2 h1 h2
theorem Kp_ {l:NmL} (hn: (l.map Prod.fst).Nodup) {s:List UInt8} {n:Nat} (h: (s,n)∈l):zQ_ l s=some n:=by
 cases hf:zQ_ l s with
 |none=>exact absurd rfl (Xb_ hf _ h)
 |some m=>rw[Vv_ hn (x0_ hf) h]
section
variable {α β:Type} [BEq α] [LawfulBEq α]
theorem ajO_ {m:List (α×β)} (hn: (m.map Prod.fst).Nodup) {k:α} {v z:β} (h: (k,v)∈m):VY_ k z m=v:=by
 unfold VY_
 cases hf:m.find? fun p=>k==p.1 with
 |none=>
  have:=List.find?_eq_none.1 hf _ h
  exact absurd (beq_self_eq_true k) this
 |some q=>
  have h1:=List.find?_some hf
  have h2:=List.mem_of_find?_eq_some hf
  obtain⟨a,b⟩:=q
  have e:k=a:=eq_of_beq h1
  subst e
  exact Vv_ hn h2 h
theorem ai3_ {m:List (α×β)} {k:α} {z:β} (h: ∀p,p∈m→p.1≠k):VY_ k z m=z:=by
 unfold VY_
 cases hf:m.find? fun p=>k==p.1 with
 |none=>rfl
 |some q=>
  have h1:=List.find?_some hf
  exact absurd (eq_of_beq h1).symm (h q (List.mem_of_find?_eq_some hf))
theorem Ks_ {m:List (α×β)} {k:α} (h: ∀p,p∈m→p.1≠k):m.filter (fun p=> !(k==p.1))=m:=
 List.filter_eq_self.2 fun p hp=>by
  have:=h p hp
  cases e:k==p.1 with
  |false=>rfl
  |true=>exact absurd (eq_of_beq e).symm this
theorem K2_ (k:α) (v:β): ∀ {m:List (α×β)},(m.map Prod.fst).Nodup→(updG k v m).Perm ((k,v)::m.filter fun p=> !(k==p.1))
 | [],_=>List.Perm.refl _
 |p::r,hn=>by
  rw[List.map_cons,List.nodup_cons] at hn
  unfold updG
  cases hk: (k==p.1) with
  |true=>
   rw[if_pos rfl,List.filter_cons,hk]
   have e:k=p.1:=eq_of_beq hk
   have hr:r.filter (fun p=> !(k==p.1))=r:=Ks_ fun q hq e2=>hn.1 (List.mem_map.2 ⟨q,hq,by rw[e2,e]⟩)
   simp only[Bool.not_true,Bool.false_eq_true, ↓reduceIte,hr]
   rw[e]
  |false=>
   rw[if_neg (by simp),List.filter_cons,hk]
   simp only[Bool.not_false, ↓reduceIte]
   exact((K2_ k v hn.2).cons p).trans (List.Perm.swap _ _ _)
theorem aev_ (k:α): ∀ {m:List (α×β)},(m.map Prod.fst).Nodup→delG k m=m.filter fun p=> !(k==p.1)
 | [],_=>rfl
 |p::r,hn=>by
  rw[List.map_cons,List.nodup_cons] at hn
  unfold delG
  cases hk: (k==p.1) with
  |true=>
   rw[if_pos rfl,List.filter_cons,hk]
   have e:k=p.1:=eq_of_beq hk
   have hr:r.filter (fun p=> !(k==p.1))=r:=Ks_ fun q hq e2=>hn.1 (List.mem_map.2 ⟨q,hq,by rw[e2,e]⟩)
   simp only[Bool.not_true,Bool.false_eq_true, ↓reduceIte,hr]
  |false=>
   rw[if_neg (by simp),List.filter_cons,hk,aev_ k hn.2]
   simp only[Bool.not_false, ↓reduceIte]
end
def q0_:Option Nat→Value
 |none=> .pointer none
 |some b=>vp b 0
def ptrN (fb:List Nat) (p:List UInt8×Nat):List UInt8×Option Nat:=(p.1,some (fb.getD p.2 0))
def NmP (fb:List Nat) (l:NmL) (m:List (List UInt8×Option Nat)):Prop:=m.Perm (l.map (ptrN fb))
theorem NmP.keys {fb:List Nat} {l:NmL} {m:List (List UInt8×Option Nat)} (h:NmP fb l m) (hn: (l.map Prod.fst).Nodup): (m.map Prod.fst).Nodup:=by
 refine((h.map Prod.fst).nodup_iff).2 ?_
 rw[List.map_map]
 exact hn
theorem NmP.get {fb:List Nat} {l:NmL} {m:List (List UInt8×Option Nat)} (h:NmP fb l m) (hn: (l.map Prod.fst).Nodup) (s:List UInt8):VY_ s none m=(zQ_ l s).map fun n=>fb.getD n 0:=by
 cases hf:zQ_ l s with
 |none=>
  refine ai3_ fun p hp e=> ?_
  obtain⟨q,hq,rfl⟩:=List.mem_map.1 (h.mem_iff.1 hp)
  exact Xb_ hf q hq e
 |some n=>exact ajO_ (h.keys hn) (h.mem_iff.2 (List.mem_map.2 ⟨_,x0_ hf,rfl⟩))
theorem abV_ (fb:List Nat) (l:NmL) (s:List UInt8): (l.map (ptrN fb)).filter (fun p=> !(s==p.1))=(j7_ l s).map (ptrN fb):=by
 unfold j7_
 rw[List.filter_map];rfl
theorem NmP.wipe {fb:List Nat} {l:NmL} {m:List (List UInt8×Option Nat)} (h:NmP fb l m) (hn: (l.map Prod.fst).Nodup) (s:List UInt8):NmP fb (j7_ l s) (delG s m):=by
 unfold NmP
 rw[aev_ s (h.keys hn),←abV_]
 exact h.filter _
theorem NmP.put {fb:List Nat} {l:NmL} {m:List (List UInt8×Option Nat)} (h:NmP fb l m) (hn: (l.map Prod.fst).Nodup) (s:List UInt8) (n:Nat):NmP fb (putN l (s,n)) (updG s (some (fb.getD n 0)) m):=by
 refine(K2_ s _ (h.keys hn)).trans ?_
 unfold putN
 refine List.Perm.trans ?_ ((jS_ (s,n) (j7_ l s)).map (ptrN fb)).symm
 rw[List.map_cons,←abV_]
 exact(h.filter _).cons _
theorem NmP.mono {fb fb':List Nat} {l:NmL} {m:List (List UInt8×Option Nat)} (h:NmP fb l m) (hb: ∀p,p∈l→fb'.getD p.2 0=fb.getD p.2 0):NmP fb' l m:=by
 unfold NmP at h ⊢
 rw[show l.map (ptrN fb')=l.map (ptrN fb) from List.map_congr_left fun p hp=>by unfold ptrN;rw[hb p hp]]
 exact h
def xj_:List UInt8:= [108,111,111,115,101]
def vv_:List UInt8:= [112,97,99,107]
def jc_:List UInt8:= [114,101,102]
def K5_ (k:Nat):List UInt8:=match k with|0=>xj_|1=>vv_|_=>jc_
def qi_ (s:List UInt8):Option Nat:=if s==xj_ then some 0 else if s==vv_ then some 1 else if s==jc_ then some 2 else none
theorem xv_ {s:List UInt8} {k:Nat} (h:qi_ s=some k):k<3∧s=K5_ k:=by
 unfold qi_ at h
 split at h
 ·rename_i e;cases h;exact⟨by omega,eq_of_beq e⟩
 ·split at h
  ·rename_i e;cases h;exact⟨by omega,eq_of_beq e⟩
  ·split at h
   ·rename_i e;cases h;exact⟨by omega,eq_of_beq e⟩
   ·cases h
theorem xR_ {k:Nat} (h:k<3):qi_ (K5_ k)=some k:=by
 have:k=0∨k=1∨k=2:=by omega
 rcases this with rfl|rfl|rfl<;>rfl
def qV_ (l:NmL) (c:CallL):NmL:=match c.kind with
 |0=>putN l (c.a,c.n)
 |1=>putN (j7_ l c.a) (c.b,(zQ_ l c.a).getD 0)
 |_=>j7_ l c.a
def qJ_ (S:DiskL) (k:Nat) (d:DirL):DiskL:={S with dir:=fun j=>if j=k then d else S.dir j}
def jJ_ (S:DiskL) (dir:List UInt8) (names:List (List UInt8)):Nat:=if qi_ dir=none∨names.all km_=false then 1 else if S.off=true then 9 else 0
def zx_ (S:DiskL):DiskL×Nat:=if S.fused=true∧S.fuse=0 then({S with off:=true},9) else if S.fused=true then({S with fuse:=S.fuse - 1},0) else(S,0)
def wx_ (S:DiskL) (l:NmL):Nat:=(l.map fun p=>(S.files.getD p.2 x7_).data.length).sum
def w8_ (S:DiskL):Nat:=wx_ S (S.dir 0).seen+wx_ S (S.dir 1).seen+wx_ S (S.dir 2).seen
structure DkOk (S:DiskL):Prop where
 seen: ∀k,k<3→SrtN (S.dir k).seen
 stl: ∀k,k<3→SrtN (S.dir k).stl
 seenN: ∀k,k<3→ ∀p,p∈ (S.dir k).seen→p.2<S.files.length
 stlN: ∀k,k<3→ ∀p,p∈ (S.dir k).stl→p.2<S.files.length
 pendN: ∀k,k<3→ ∀c,c∈ (S.dir k).pend→c.kind=0→c.n<S.files.length
 file: ∀f,f∈S.files→f.data.length≤1048576∧f.stl≤f.data.length
 fuse: -9223372036854775808≤S.fuse∧S.fuse<9223372036854775808∧(S.fused=true→0≤S.fuse)
 max: -9223372036854775808≤S.max∧S.max<9223372036854775808
end Go.Proofs
end
section
open Go Go.Proofs Go.Sx Go.StP
namespace Go.Proofs
set_option maxRecDepth 10000
set_option maxHeartbeats 400000
set_option linter.unusedSimpArgs false
def x2_ (f:FileL):Obj:= .cells #[vs f.data,vi (f.stl:Int)] 182 (0,0)
def xb_ (a b:Nat) (v:Value):Obj:= .cells #[vm a,vm b,v] 175 (0,0)
def jh_ (bm:Nat) (S:DiskL):Obj:= .cells #[vm bm,vi S.max,vi S.fuse, .bool S.fused, .bool S.off] 168 (0,0)
def kj_ (s:List UInt8):Obj:= .cells #[vs s] 9 (0,0)
def Xq_ (b:Nat):Obj:= .cells #[vp b 0] 178 (0,0)
structure DkG where
 bd:Nat
 bm:Nat
 d:Nat→Nat
 s:Nat→Nat
 t:Nat→Nat
 p:Nat→Value
 fb:List Nat
def XC_ (G:DkG):List (List UInt8×Option Nat):= [(xj_,some (G.d 0)),(vv_,some (G.d 1)),(jc_,some (G.d 2))]
def FnP (X:za_) (fb:List Nat) (v:Value) (c:CallL):Prop:=match c.kind with
 |0=> ∃b1 b2,v= .func (.func 324) #[] #[vp b1 0,vp b2 0]∧Sx.look X b1=some (Xq_ (fb.getD c.n 0))∧Sx.look X b2=some (kj_ c.a)
 |1=> ∃b1 b2,v= .func (.func 320) #[] #[vp b1 0,vp b2 0]∧Sx.look X b1=some (kj_ c.a)∧Sx.look X b2=some (kj_ c.b)
 |_=> ∃b1,v= .func (.func 309) #[] #[vp b1 0]∧Sx.look X b1=some (kj_ c.a)
def NmM (X:za_) (fb:List Nat) (b:Nat) (l:NmL):Prop:= ∃o m,Sx.look X b=some o∧va_ vs q0_ o m∧NmP fb l m
structure DkP (X:za_) (G:DkG) (S:DiskL):Prop where
 disk:Sx.look X G.bd=some (jh_ G.bm S)
 dirs: ∃o,Sx.look X G.bm=some o∧va_ vs q0_ o (XC_ G)
 dir: ∀k,k<3→Sx.look X (G.d k)=some (xb_ (G.s k) (G.t k) (G.p k))
 seen: ∀k,k<3→NmM X G.fb (G.s k) (S.dir k).seen
 stl: ∀k,k<3→NmM X G.fb (G.t k) (S.dir k).stl
 pend: ∀k,k<3→ ∃vals:List Value,vals.length=(S.dir k).pend.length∧Gr X 176 1 (G.p k) vals.length vals∧ ∀i,i<vals.length→FnP X G.fb (vals.getD i undef) ((S.dir k).pend.getD i ky_)
 file: ∀n,n<S.files.length→Sx.look X (G.fb.getD n 0)=some (x2_ (S.files.getD n x7_))
 len:G.fb.length=S.files.length
 nodf:G.fb.Nodup
 nodm: [G.s 0,G.s 1,G.s 2,G.t 0,G.t 1,G.t 2].Nodup
 nodd: [G.d 0,G.d 1,G.d 2].Nodup
 nodb: ∀k,k<3→G.bm≠G.s k∧G.bm≠G.t k
 nodp: ∀i j,i<3→j<3→i≠j→ ∀b,slB (G.p i)=some b→slB (G.p j)≠some b
 ok:DkOk S
def DkW (w:World) (G:DkG) (S:DiskL):Prop:= ∃X,(∀b o,Sx.look X b=some o→w.heap[b]? =some o)∧DkP X G S
theorem FnP.keep {X X':za_} {fb:List Nat} {v:Value} {c:CallL} (h:FnP X fb v c) (hk: ∀b o,Sx.look X b=some o→((∃s,o=kj_ s)∨ ∃a,o=Xq_ a)→Sx.look X' b=some o):FnP X' fb v c:=by
 unfold FnP at h ⊢
 split at h
 ·obtain⟨b1,b2,h1,h2,h3⟩:=h;exact⟨b1,b2,h1,hk _ _ h2 (.inr ⟨_,rfl⟩),hk _ _ h3 (.inl ⟨_,rfl⟩)⟩
 ·obtain⟨b1,b2,h1,h2,h3⟩:=h;exact⟨b1,b2,h1,hk _ _ h2 (.inl ⟨_,rfl⟩),hk _ _ h3 (.inl ⟨_,rfl⟩)⟩
 ·obtain⟨b1,h1,h2⟩:=h;exact⟨b1,h1,hk _ _ h2 (.inl ⟨_,rfl⟩)⟩
theorem NmM.keep {X X':za_} {fb:List Nat} {b:Nat} {l:NmL} (h:NmM X fb b l) (hk: ∀o,Sx.look X b=some o→Sx.look X' b=some o):NmM X' fb b l:=by
 obtain⟨o,m,h1,h2,h3⟩:=h;exact⟨o,m,hk _ h1,h2,h3⟩
theorem w4_ {L:za_} {E:TypeId} {m n:Nat} {v:Value} {cs:List Value} (h:Gr L E m v n cs) {b:Nat} (hb:slB v=some b): ∃arr,Sx.look L b=some (.cells arr E (0,0)):=by
 rcases h with h| ⟨-,-,c,rfl,h⟩
 ·cases h with
  |nl=>cases hb
  |at_ hl=>cases hb;exact⟨_,hl⟩
 ·cases hb;exact⟨_,h⟩
def tyO:Obj→Option TypeId
 | .cells _ t _=>some t
 |_=>none
theorem qO_ {α β:Type} {encK:α→Value} {encV:β→Value} {o:Obj} {m:List (α×β)} (h:va_ encK encV o m):tyO o=none:=by
 obtain⟨es,c,rfl,-⟩:=h;rfl
theorem z9_ {X:za_} {c b:Nat} {oc x o:Obj} (hc:Sx.look X c=some oc) (hb:Sx.look X b=some o) (ht:tyO o≠tyO oc):Sx.look (setB X c x) b=some o:=by
 rw[zh_ (by rintro rfl;rw[hc] at hb;cases hb;exact ht rfl)];exact hb
theorem DkP.mono {X X':za_} {G:DkG} {S:DiskL} (h:DkP X G S) (hk: ∀b o,Sx.look X b=some o→Sx.look X' b=some o):DkP X' G S where
 disk:=hk _ _ h.disk
 dirs:=by obtain⟨o,h1,h2⟩:=h.dirs;exact⟨o,hk _ _ h1,h2⟩
 dir k hk':=hk _ _ (h.dir k hk')
 seen k hk':=(h.seen k hk').keep fun o=>hk _ o
 stl k hk':=(h.stl k hk').keep fun o=>hk _ o
 pend k hk':=by
  obtain⟨vals,h1,h2,h3⟩:=h.pend k hk'
  exact⟨vals,h1,h2.keep fun b o _=>hk b o,fun i hi=>(h3 i hi).keep fun b o ho _=>hk b o ho⟩
 file n hn:=hk _ _ (h.file n hn)
 len:=h.len
 nodf:=h.nodf
 nodm:=h.nodm
 nodd:=h.nodd
 nodb:=h.nodb
 nodp:=h.nodp
 ok:=h.ok
theorem DkP.setDisk {X:za_} {G:DkG} {S:DiskL} (h:DkP X G S) (S':DiskL) (hd:S'.dir=S.dir) (hf:S'.files=S.files) (ok:DkOk S'):DkP (setB X G.bd (jh_ G.bm S')) G S' where
 disk:=zW_ h.disk
 dirs:=by obtain⟨o,h1,h2⟩:=h.dirs;exact⟨o,z9_ h.disk h1 (by rw[qO_ h2];intro e;cases e),h2⟩
 dir k hk':=z9_ h.disk (h.dir k hk') (by simp[tyO,xb_,jh_])
 seen k hk':=by
  rw[hd]
  obtain⟨o,m,h1,h2,h3⟩:=h.seen k hk'
  exact⟨o,m,z9_ h.disk h1 (by rw[qO_ h2];intro e;cases e),h2,h3⟩
 stl k hk':=by
  rw[hd]
  obtain⟨o,m,h1,h2,h3⟩:=h.stl k hk'
  exact⟨o,m,z9_ h.disk h1 (by rw[qO_ h2];intro e;cases e),h2,h3⟩
 pend k hk':=by
  rw[hd]
  obtain⟨vals,h1,h2,h3⟩:=h.pend k hk'
  refine⟨vals,h1,h2.keep fun b o hb ho=> ?_,fun i hi=>(h3 i hi).keep fun b o ho hx=>z9_ h.disk ho ?_⟩
  ·obtain⟨arr,ha⟩:=w4_ h2 hb
   rw[ho] at ha;cases ha
   exact z9_ h.disk ho (by simp[tyO,jh_])
  ·rcases hx with⟨s,rfl⟩ | ⟨a,rfl⟩<;>simp[tyO,jh_,kj_,Xq_]
 file n hn:=by rw[hf] at hn ⊢;exact z9_ h.disk (h.file n hn) (by simp[tyO,jh_,x2_])
 len:=by rw[hf];exact h.len
 nodf:=h.nodf
 nodm:=h.nodm
 nodd:=h.nodd
 nodb:=h.nodb
 nodp:=h.nodp
 ok:=ok
theorem DkP.setFile {X:za_} {G:DkG} {S:DiskL} (h:DkP X G S) {n:Nat} (hn:n<S.files.length) (f:FileL) (ok:DkOk {S with files:=S.files.set n f}):DkP (setB X (G.fb.getD n 0) (x2_ f)) G {S with files:=S.files.set n f} where
 disk:=z9_ (h.file n hn) h.disk (by simp[tyO,jh_,x2_])
 dirs:=by obtain⟨o,h1,h2⟩:=h.dirs;exact⟨o,z9_ (h.file n hn) h1 (by rw[qO_ h2];intro e;cases e),h2⟩
 dir k hk':=z9_ (h.file n hn) (h.dir k hk') (by simp[tyO,xb_,x2_])
 seen k hk':=by
  obtain⟨o,m,h1,h2,h3⟩:=h.seen k hk'
  exact⟨o,m,z9_ (h.file n hn) h1 (by rw[qO_ h2];intro e;cases e),h2,h3⟩
 stl k hk':=by
  obtain⟨o,m,h1,h2,h3⟩:=h.stl k hk'
  exact⟨o,m,z9_ (h.file n hn) h1 (by rw[qO_ h2];intro e;cases e),h2,h3⟩
 pend k hk':=by
  obtain⟨vals,h1,h2,h3⟩:=h.pend k hk'
  refine⟨vals,h1,h2.keep fun b o hb ho=> ?_,fun i hi=>(h3 i hi).keep fun b o ho hx=>z9_ (h.file n hn) ho ?_⟩
  ·obtain⟨arr,ha⟩:=w4_ h2 hb
   rw[ho] at ha;cases ha
   exact z9_ (h.file n hn) ho (by simp[tyO,x2_])
  ·rcases hx with⟨s,rfl⟩ | ⟨a,rfl⟩<;>simp[tyO,x2_,kj_,Xq_]
 file i hi:=by
  simp only[List.length_set] at hi
  by_cases e:i=n
  ·subst e
   rw[zW_ (h.file i hn),List.getD_eq_getElem?_getD,List.getElem?_set_self hn];rfl
  ·have hl:=h.len
   have hne:G.fb.getD i 0≠G.fb.getD n 0:=by
    intro e2
    rw[List.getD_eq_getElem?_getD,List.getD_eq_getElem?_getD,List.getElem?_eq_getElem (by omega),List.getElem?_eq_getElem (by omega)] at e2
    simp only[Option.getD_some] at e2
    rcases Nat.lt_or_gt_of_ne e with hlt|hlt
    ·exact(List.pairwise_iff_getElem.1 h.nodf) i n (by omega) (by omega) hlt e2
    ·exact(List.pairwise_iff_getElem.1 h.nodf) n i (by omega) (by omega) hlt e2.symm
   rw[zh_ (Ne.symm hne),h.file i hi,List.getD_eq_getElem?_getD,List.getD_eq_getElem?_getD,List.getElem?_set_ne (Ne.symm e)]
 len:=by rw[List.length_set];exact h.len
 nodf:=h.nodf
 nodm:=h.nodm
 nodd:=h.nodd
 nodb:=h.nodb
 nodp:=h.nodp
 ok:=ok
theorem DkP.world {X:za_} {G:DkG} {S:DiskL} {w0 w:World} (h:DkP X G S) (hw:Hp w0 X w):DkW w G S:=⟨X,fun _ _ hb=>hw.has _ _ (zt_ hb),h⟩
theorem DkW.old {w w':World} {L:za_} {G:DkG} {S:DiskL} (h:DkW w G S) (hw:Hp w L w') (hn:New w.heap.size L):DkW w' G S:=by
 obtain⟨X,h1,h2⟩:=h
 refine⟨X,fun b o hb=> ?_,h2⟩
 have hlt:=(Array.getElem?_eq_some_iff.1 (h1 b o hb)).1
 rw[hw.old b hlt (hn.not hlt)];exact h1 b o hb
end Go.Proofs
end
section
open Go Go.Proofs Go.Sx Go.StP
namespace Go.Proofs
set_option maxRecDepth 10000
set_option maxHeartbeats 400000
set_option linter.unusedSimpArgs false
theorem qE_ (bm:Nat) (S:DiskL) (n:Nat):zD_ (some (false,n)) (some (jh_ bm S)) 0=some (vm bm):=(rfl)
theorem xK_ (bm:Nat) (S:DiskL) (n:Nat):zD_ (some (false,n)) (some (jh_ bm S)) 1=some (vi S.max):=(rfl)
theorem KD_ (bm:Nat) (S:DiskL) (n:Nat):zD_ (some (false,n)) (some (jh_ bm S)) 2=some (vi S.fuse):=(rfl)
theorem Vw_ (bm:Nat) (S:DiskL) (n:Nat):zD_ (some (false,n)) (some (jh_ bm S)) 3=some (.bool S.fused):=(rfl)
theorem Vr_ (bm:Nat) (S:DiskL) (n:Nat):zD_ (some (false,n)) (some (jh_ bm S)) 4=some (.bool S.off):=(rfl)
theorem acj_ (bm:Nat) (S:DiskL) (x:Int) (a:Bool):zz_ (some (a,1)) (some (jh_ bm S)) 1 (vi x)=some (jh_ bm {S with max:=x}):=qG_ [vm bm] [vi S.max] [vi x] [vi S.fuse, .bool S.fused, .bool S.off] a _ 168 rfl rfl rfl rfl rfl
theorem acr_ (bm:Nat) (S:DiskL) (x:Int) (a:Bool):zz_ (some (a,1)) (some (jh_ bm S)) 2 (vi x)=some (jh_ bm {S with fuse:=x}):=qG_ [vm bm,vi S.max] [vi S.fuse] [vi x] [.bool S.fused, .bool S.off] a _ 168 rfl rfl rfl rfl rfl
theorem J8_ (bm:Nat) (S:DiskL) (x:Bool) (a:Bool):zz_ (some (a,1)) (some (jh_ bm S)) 3 (.bool x)=some (jh_ bm {S with fused:=x}):=qG_ [vm bm,vi S.max,vi S.fuse] [.bool S.fused] [.bool x] [.bool S.off] a _ 168 rfl rfl rfl rfl rfl
theorem Xe_ (bm:Nat) (S:DiskL) (x:Bool) (a:Bool):zz_ (some (a,1)) (some (jh_ bm S)) 4 (.bool x)=some (jh_ bm {S with off:=x}):=qG_ [vm bm,vi S.max,vi S.fuse, .bool S.fused] [.bool S.off] [.bool x] [] a _ 168 rfl rfl rfl rfl rfl
theorem q2_ (a b:Nat) (v:Value) (n:Nat):zD_ (some (false,n)) (some (xb_ a b v)) 0=some (vm a):=(rfl)
theorem qW_ (a b:Nat) (v:Value) (n:Nat):zD_ (some (false,n)) (some (xb_ a b v)) 1=some (vm b):=(rfl)
theorem qY_ (a b:Nat) (v:Value) (n:Nat):zD_ (some (false,n)) (some (xb_ a b v)) 2=some v:=(rfl)
theorem xY_ (f:FileL) (n:Nat):zD_ (some (false,n)) (some (x2_ f)) 0=some (vs f.data):=(rfl)
theorem x1_ (f:FileL) (n:Nat):zD_ (some (false,n)) (some (x2_ f)) 1=some (vi (f.stl:Int)):=(rfl)
theorem wG_ (f:FileL) (x:List UInt8) (a:Bool):zz_ (some (a,1)) (some (x2_ f)) 0 (vs x)=some (x2_ {f with data:=x}):=qG_ [] [vs f.data] [vs x] [vi (f.stl:Int)] a _ 182 rfl rfl rfl rfl rfl
theorem wB_ (f:FileL) (x:Nat) (a:Bool):zz_ (some (a,1)) (some (x2_ f)) 1 (vi (x:Int))=some (x2_ {f with stl:=x}):=qG_ [vs f.data] [vi (f.stl:Int)] [vi (x:Int)] [] a _ 182 rfl rfl rfl rfl rfl
theorem ahB_ (b o:Nat):qy_ Tryz.prog .eql 82 (vp b o) (.pointer none)=some (.bool false):=by
 simp[qy_,eqX,qk_,qp_,Tryz.underlying82,vp]
theorem ahY_ (b o:Nat):qy_ Tryz.prog .neq 82 (vp b o) (.pointer none)=some (.bool true):=by
 simp[qy_,eqX,qk_,qp_,Tryz.underlying82,vp]
theorem act_ (b o:Nat):qy_ Tryz.prog .eql 171 (vp b o) (.pointer none)=some (.bool false):=by
 simp[qy_,eqX,qk_,qp_,Tryz.underlying171,vp]
theorem J7_:qy_ Tryz.prog .eql 171 (.pointer none) (.pointer none)=some (.bool true):=by
 simp[qy_,eqX,qk_,qp_,Tryz.underlying171]
theorem afJ_ (b o:Nat):qy_ Tryz.prog .eql 178 (vp b o) (.pointer none)=some (.bool false):=by
 simp[qy_,eqX,qk_,qp_,Tryz.underlying178,vp]
theorem VP_:qy_ Tryz.prog .eql 178 (.pointer none) (.pointer none)=some (.bool true):=by
 simp[qy_,eqX,qk_,qp_,Tryz.underlying178]
theorem zrPd:zY_ Tryz.prog 171=some (q0_ none):=id (by kernel_rfl)
theorem zrPf:zY_ Tryz.prog 178=some (q0_ none):=id (by kernel_rfl)
theorem jW_:KeyOk Tryz.prog 9 vs:=KeyOk.str Tryz.underlying9
theorem XE_ (G:DkG) (s:List UInt8):VY_ s none (XC_ G)=(qi_ s).map G.d:=by
 unfold VY_ XC_ qi_
 rw[List.find?_cons,List.find?_cons,List.find?_cons,List.find?_nil]
 cases h1:s==xj_
 ·cases h2:s==vv_
  ·cases h3:s==jc_<;>rfl
  ·rfl
 ·rfl
set_option linter.defProp false
def XO_:=And.intro (And.intro (And.intro (@zw_) (And.intro (@zv_) (@qE_))) (And.intro (@xK_) (And.intro (@KD_) (@Vw_)))) (And.intro (And.intro (@Vr_) (And.intro (@acj_) (@acr_))) (And.intro (And.intro (@J8_) (@Xe_)) (And.intro (@ahB_) (@ahY_))))
theorem xQ_ (b bm:Nat) (S:DiskL) (w:World) (hf: -9223372036854775808≤S.fuse∧S.fuse<9223372036854775808∧(S.fused=true→0≤S.fuse)) (ho:w.heap[b]? =some (jh_ bm S)):
  Rets Tryz.prog 153 #[vp b 0] w (fun v D=> ∃o,D= [(b,o)]∧v=vi (zx_ S).2∧o=jh_ bm (zx_ S).1):=by
 refine Rets.enterM Tryz.func153 rfl (rs:= [.tmp 2]) Tryz.results153 Tryz.ntmps153 ho ?_
 refine kf ?_
 unfold zx_
 cases hfd:S.fused with
 |false=>
  rw[if_neg (by simp),if_neg (by simp)]
  first|with_reducible refine ks [] (And.intro @XO_ @hfd) ?_|refine kp (And.intro @XO_ @hfd) ?_
  refine⟨_,_,_,(ke @XO_),rfl,trivial, ?_⟩
  exact⟨rfl,rfl⟩
 |true=>
  by_cases h0:S.fuse=0
  ·have e0: (S.fuse==0)=true:=beq_iff_eq.2 h0
   rw[if_pos ⟨rfl,h0⟩]
   first|with_reducible refine ks [] (And.intro @XO_ (And.intro @hfd (@e0))) ?_|refine kp (And.intro @XO_ (And.intro @hfd (@e0))) ?_
   refine⟨_,_,_,(ke @XO_),rfl,trivial, ?_⟩
   exact⟨rfl,rfl⟩
  ·have e0: (S.fuse==0)=false:=beq_eq_false_iff_ne.2 h0
   have h1:=hf.2.2 hfd
   rw[if_neg (fun h=>h0 h.2),if_pos rfl]
   first|with_reducible refine ks [] (And.intro @XO_ (And.intro @hfd (@e0))) ?_|refine kp (And.intro @XO_ (And.intro @hfd (@e0))) ?_
   refine⟨_,_,_,(ke @XO_),rfl,trivial, ?_⟩
   exact⟨rfl,rfl⟩
def akp_ (G:DkG) (S:DiskL) (dir:List UInt8) (names:List (List UInt8)) (v:Value):Prop:=
 (jJ_ S dir names≠0∧v= .tuple #[.pointer none,vi (jJ_ S dir names:Nat)])∨(jJ_ S dir names=0∧ ∃k,qi_ dir=some k∧v= .tuple #[vp (G.d k) 0,vi 0])
set_option linter.defProp false
def x6_:=And.intro (And.intro (And.intro (@zw_) (@zv_)) (And.intro (@qE_) (And.intro (@xK_) (@KD_)))) (And.intro (And.intro (@Vw_) (And.intro (@Vr_) (@ahB_))) (And.intro (@ahY_) (And.intro (@act_) (@J7_))))
theorem jp_ (w:World) (G:DkG) (S:DiskL) (dir:List UInt8) (v:Value) (names:List (List UInt8)) (hD:DkW w G S) (hv:aeI_ w v names) (hl:names.length<1000000) (hs: ∀s,s∈names→s.length<1099511627776):
  Rets Tryz.prog 151 #[vp G.bd 0,vs dir,v] w (fun v D=>akp_ G S dir names v∧D= []):=by
 obtain⟨X,hX,hP⟩:=hD
 have hd:=hX _ _ hP.disk
 obtain⟨om,hom,hM⟩:=hP.dirs
 have hb:=hX _ _ hom
 refine Rets.enterV Tryz.func151 rfl (rs:= [.tmp 6, .tmp 7]) Tryz.results151 Tryz.ntmps151 ?_
 refine kf ?_
 first|with_reducible refine ks [] (And.intro @x6_ @hd) ?_|refine kp (And.intro @x6_ @hd) ?_
 refine Ow.mapGetG (encK:=vs) (encV:=q0_) (k:=dir) (z:=none) rfl rfl Tryz.underlying166 jW_ zrPd rfl rfl hb hM ?_
 rw[XE_]
 unfold akp_ jJ_
 cases hw:qi_ dir with
 |none=>
  rw[if_pos (.inl rfl)]
  have hp0:q0_ none= .pointer none:=rfl
  refine ko (And.intro @x6_ @hp0) ?_
  first|with_reducible refine ks [] @x6_ ?_|refine kp @x6_ ?_
  refine⟨_,(ke @x6_),trivial, ?_⟩
  exact .inl ⟨by decide,rfl⟩
 |some k=>
  have hp: ∀q:Nat,q0_ (some q)=vp q 0:=fun _=>rfl
  refine ko (And.intro @x6_ @hp) ?_
  refine Ow.callFV rfl Tryz.call206 (fun w' hw'=>Js_ v names w' (hv.oldN hw' trivial) hl hs) ?_
  cases hal:names.all km_ with
  |false=>
   rw[if_pos (.inr rfl)]
   refine ko @x6_ ?_
   first|with_reducible refine ks [] @x6_ ?_|refine kp @x6_ ?_
   refine⟨_,(ke @x6_),trivial, ?_⟩
   exact .inl ⟨by decide,rfl⟩
  |true=>
   rw[if_neg (by simp)]
   cases hof:S.off with
   |true=>
    rw[if_pos rfl]
    refine ko @x6_ ?_
    first|with_reducible refine ks [] (And.intro @x6_ (And.intro @hd (@hof))) ?_|refine kp (And.intro @x6_ (And.intro @hd (@hof))) ?_
    refine⟨_,(ke @x6_),trivial, ?_⟩
    exact .inl ⟨by decide,rfl⟩
   |false=>
    rw[if_neg (by simp)]
    refine ko @x6_ ?_
    first|with_reducible refine ks [] (And.intro @x6_ (And.intro @hd (@hof))) ?_|refine kp (And.intro @x6_ (And.intro @hd (@hof))) ?_
    refine⟨_,(ke @x6_),trivial, ?_⟩
    exact .inr ⟨rfl,k,rfl,rfl⟩
end Go.Proofs
end
section
open Go Go.Proofs Go.Sx Go.StP
namespace Go.Proofs
set_option maxRecDepth 10000
set_option maxHeartbeats 400000
set_option linter.unusedSimpArgs false
theorem VQ_ {w:World} {b:Nat} {s:List UInt8} {E:TypeId} (h:w.heap[b]? =some (.cells #[vs s] E (0,0))):aeI_ w (vsl b 0 1 1) [s]:=
 SlV.sl (l:= [s]) h (fun k hk j hj=>by
  obtain rfl:k=0:=by simpa using hk
  obtain rfl:j=0:=by omega
  rfl) (Nat.le_refl _) (by simp)
theorem akM_ {w:World} {b:Nat} {s u:List UInt8} {E:TypeId} (h:w.heap[b]? =some (.cells #[vs s,vs u] E (0,0))):aeI_ w (vsl b 0 2 2) [s,u]:=
 SlV.sl (l:= [s,u]) h (fun k hk j hj=>by
  obtain rfl:j=0:=by omega
  have:k=0∨k=1:=by simp at hk;omega
  rcases this with rfl|rfl<;>rfl) (Nat.le_refl _) (by simp)
theorem aco_ {S:DiskL} {dir:List UInt8} {names:List (List UInt8)} (h:jJ_ S dir names=0):qi_ dir≠none∧names.all km_=true∧S.off=false:=by
 unfold jJ_ at h
 split at h
 ·cases h
 ·split at h
  ·cases h
  ·rename_i h1 h2
   refine⟨fun e=>h1 (.inl e), ?_,by simpa using h2⟩
   cases e:names.all km_ with
   |true=>rfl
   |false=>exact absurd (.inr e) h1
def kb_ (S:DiskL) (dir name:List UInt8):List UInt8×Nat:=
 if jJ_ S dir [name]≠0 then([],jJ_ S dir [name]) else match(qi_ dir).bind fun k=>zQ_ (S.dir k).seen name with
  |none=>([],6)
  |some n=>((S.files.getD n x7_).data,0)
theorem jL_ {n:Nat} (h:n≠0): ((n:Int) !=0)=true:=bne_iff_ne.2 (by omega)
set_option linter.defProp false
def ko_:=And.intro (And.intro (And.intro (And.intro (@zw_) (@zv_)) (And.intro (@qE_) (@q2_))) (And.intro (And.intro (@qW_) (@qY_)) (And.intro (@xY_) (And.intro (@x1_) (@act_))))) (And.intro (And.intro (And.intro (@J7_) (@afJ_)) (And.intro (@VP_) (@Sx.tup2_0))) (And.intro (And.intro (@Sx.tup2_1) (@J5_)) (And.intro (@Sx.tup3_0) (And.intro (@Sx.tup3_1) (@Sx.tup3_2)))))
theorem JP_ (w:World) (G:DkG) (S:DiskL) (dir name:List UInt8) (hD:DkW w G S) (hn:name.length<1099511627776):
  Rets Tryz.prog 94 #[vp G.bd 0,vs dir,vs name] w (fun v D=>v= .tuple #[vs (kb_ S dir name).1,vi ((kb_ S dir name).2:Nat)]∧D= []):=by
 have hD':=hD
 obtain⟨X,hX,hP⟩:=hD
 refine Rets.enterV Tryz.func94 rfl (rs:= [.tmp 6, .tmp 7]) Tryz.results94 Tryz.ntmps94 ?_
 refine kf ?_
 first|with_reducible refine ks [] @ko_ ?_|refine kp @ko_ ?_
 refine Ow.buildSlice (e:=9) #[vs name] rfl rfl (by kernel_rfl) fun b1 hb1 hw1=> ?_
 refine ko @ko_ ?_
 have hN1:New w.heap.size [(b1,Obj.cells #[vs name] 9 (0,0))]:=⟨hw1,trivial⟩
 refine Ow.callC rfl rfl Tryz.call151 (fun w' hw'=>Rets.toX (jp_ w' G S dir (vsl b1 0 1 1) [name] (hD'.old hw' hN1) (VQ_ (hw'.has _ _ List.mem_cons_self)) (by simp) (by simpa using hn))) (fun B2 v2 D2 hA2 hB2 hN2 hS2=> ?_)
 obtain⟨rfl,hS2⟩:=hS2
 rw[List.append_nil]
 unfold kb_
 rcases hS2 with⟨he,rfl⟩ | ⟨he,k,hk,rfl⟩
 ·rw[if_pos he]
  have e1:=jL_ he
  refine ko @ko_ ?_
  first|with_reducible refine ks [] (And.intro @ko_ @e1) ?_|refine kp (And.intro @ko_ @e1) ?_
  refine⟨_,(ke @ko_),hN1, ?_⟩
  rfl
 ·rw[if_neg (by rw[he];simp),hk]
  have hk3:=(xv_ hk).1
  have hdr:=hX _ _ (hP.dir k hk3)
  obtain⟨os,ms,hos,hms,hnp⟩:=hP.seen k hk3
  have hso:=hX _ _ hos
  have hl1:=(Array.getElem?_eq_some_iff.1 hdr).1
  have hl2:=(Array.getElem?_eq_some_iff.1 hso).1
  have hr1:zs_ w [(b1,Obj.cells #[vs name] 9 (0,0))] (G.d k)=some (xb_ (G.s k) (G.t k) (G.p k)):=by rw[q3_ (hN1.not hl1)];exact hdr
  have hr2:zs_ w [(b1,Obj.cells #[vs name] 9 (0,0))] (G.s k)=some os:=by rw[q3_ (hN1.not hl2)];exact hso
  have e1: ((0:Int) !=0)=false:=rfl
  refine ko @ko_ ?_
  first|with_reducible refine ks [] (And.intro @ko_ (And.intro @e1 (And.intro @hdr (@hr1)))) ?_|refine kp (And.intro @ko_ (And.intro @e1 (And.intro @hdr (@hr1)))) ?_
  refine Ow.mapGetG (encK:=vs) (encV:=q0_) (k:=name) (z:=none) rfl rfl Tryz.underlying173 jW_ zrPf rfl rfl hr2 hms ?_
  rw[hnp.get (hP.ok.seen k hk3).nodup]
  show Ow _ _ _ _ _ _ _ _
  cases hf:zQ_ (S.dir k).seen name with
  |none=>
   have hf': (some k).bind (fun k=>zQ_ (S.dir k).seen name)=none:=hf
   rw[hf']
   have hp0:q0_ none= .pointer none:=rfl
   refine ko (And.intro @ko_ @hp0) ?_
   first|with_reducible refine ks [] @ko_ ?_|refine kp @ko_ ?_
   refine⟨_,(ke @ko_),hN1, ?_⟩
   rfl
  |some n=>
   have hf': (some k).bind (fun k=>zQ_ (S.dir k).seen name)=some n:=hf
   rw[hf']
   have hnl:=hP.ok.seenN k hk3 _ (x0_ hf)
   have hfl:=hX _ _ (hP.file n hnl)
   have hl3:=(Array.getElem?_eq_some_iff.1 hfl).1
   have hr3:zs_ w [(b1,Obj.cells #[vs name] 9 (0,0))] (G.fb.getD n 0)=some (x2_ (S.files.getD n x7_)):=by rw[q3_ (hN1.not hl3)];exact hfl
   have hp: ∀q:Nat,q0_ (some q)=vp q 0:=fun _=>rfl
   refine ko (And.intro @ko_ @hp) ?_
   first|with_reducible refine ks [] (And.intro @ko_ (And.intro @hfl (@hr3))) ?_|refine kp (And.intro @ko_ (And.intro @hfl (@hr3))) ?_
   refine⟨_,(ke @ko_),hN1, ?_⟩
   rfl
end Go.Proofs
end
section
open Go Go.Proofs Go.Sx Go.StP
namespace Go.Proofs
set_option maxRecDepth 10000
set_option maxHeartbeats 400000
set_option linter.unusedSimpArgs false
def uDir (S:DiskL) (p:List UInt8×Option Nat):Nat:=match qi_ p.1 with|some k=>wx_ S (S.dir k).seen|none=>0
def ws_ (S:DiskL) (l:NmL) (p:List UInt8×Option Nat):Nat:=match zQ_ l p.1 with|some n=>(S.files.getD n x7_).data.length|none=>0
theorem ahj_ (S:DiskL) (G:DkG): ((XC_ G).map (uDir S)).sum=w8_ S:=by
 unfold XC_ w8_
 simp only[List.map_cons,List.map_nil,List.sum_cons,List.sum_nil]
 show wx_ S (S.dir 0).seen+ (wx_ S (S.dir 1).seen+ (wx_ S (S.dir 2).seen+0))=_
 omega
theorem afu_ (S:DiskL) {fb:List Nat} {l:NmL} {m:List (List UInt8×Option Nat)} (h:NmP fb l m) (hn: (l.map Prod.fst).Nodup): (m.map (ws_ S l)).sum=wx_ S l:=by
 rw[(h.map (ws_ S l)).sum_nat,List.map_map]
 unfold wx_
 congr 1
 refine List.map_congr_left fun p hp=> ?_
 show ws_ S l (ptrN fb p)=_
 unfold ws_ ptrN
 rw[Kp_ hn hp]
theorem aa5_ {α:Type} (f:α→Nat) {a b m:List α} (h: (a++b).Perm m): (a.map f).sum≤ (m.map f).sum:=by
 rw[← (h.map f).sum_nat,List.map_append,List.sum_append]
 omega
theorem kW_ {α β:Type} {encK:α→Value} {encV:β→Value} {o:Obj} {bm:Nat} {om:Obj} {m dn lf:List (α×β)} (h:ItG encK encV o bm om m dn lf): (dn++lf).Perm m:=by
 obtain⟨es,clock,ds,-,-,-,-,-,-,hp⟩:=h;exact hp
theorem adZ_ {G:DkG} {p:List UInt8×Option Nat} (h:p∈XC_ G): ∃k,k<3∧p=(K5_ k,some (G.d k)):=by
 unfold XC_ at h
 simp only[List.mem_cons,List.not_mem_nil,or_false] at h
 rcases h with rfl|rfl|rfl
 ·exact⟨0,by omega,rfl⟩
 ·exact⟨1,by omega,rfl⟩
 ·exact⟨2,by omega,rfl⟩
structure UsG where
 dn:List (List UInt8×Option Nat)
 lf:List (List UInt8×Option Nat)
 it:Obj
 DG:za_
set_option linter.defProp false
def ju_:=And.intro (And.intro (And.intro (And.intro (@zw_) (@zv_)) (And.intro (@qE_) (@q2_))) (And.intro (And.intro (@qW_) (@qY_)) (And.intro (@xY_) (And.intro (@x1_) (@ahB_))))) (And.intro (And.intro (And.intro (@act_) (@J7_)) (And.intro (@afJ_) (And.intro (@VP_) (@Sx.tup2_0)))) (And.intro (And.intro (@Sx.tup2_1) (@J5_)) (And.intro (@Sx.tup3_0) (And.intro (@Sx.tup3_1) (@Sx.tup3_2)))))
theorem Xk_ (w:World) (G:DkG) (S:DiskL) (hD:DkW w G S) (hb:w8_ S<4611686018427387904):Rets Tryz.prog 152 #[vp G.bd 0] w (fun v D=>v=vi (w8_ S:Nat)∧D= []):=by
 obtain⟨X,hX,hP⟩:=hD
 have hd:=hX _ _ hP.disk
 obtain⟨om,hom,hM⟩:=hP.dirs
 have hbm:=hX _ _ hom
 have hlm:=(Array.getElem?_eq_some_iff.1 hbm).1
 have hU:=ahj_ S G
 have old: ∀b o,w.heap[b]? =some o→ ∀Y,New w.heap.size Y→zs_ w Y b=some o:=fun b o hb Y hY=>by
  rw[q3_ (hY.not (Array.getElem?_eq_some_iff.1 hb).1)];exact hb
 refine Rets.enterV Tryz.func152 rfl (rs:= [.tmp 2]) Tryz.results152 Tryz.ntmps152 ?_
 refine kf ?_
 first|with_reducible refine ks [] (And.intro @ju_ @hd) ?_|refine kp (And.intro @ju_ @hd) ?_
 refine Ow.rangeMapG (encK:=vs) (encV:=q0_) rfl rfl Tryz.underlying166 rfl hbm hM fun bi oi hbi hwi hI=> ?_
 rw[List.nil_append]
 refine ko @ju_ ?_
 first|with_reducible refine ks [] @ju_ ?_|refine kp @ju_ ?_
 refine Cw.loopG (G:=UsG) [15,16,17,18,5,19,20,21,22,23,24,25,26,27,7,28,29,30,31,32,33,34,3] (fun g=> [(3,vi ((g.dn.map (uDir S)).sum:Nat))]) (fun g=>(bi,g.it)::g.DG) (fun g=>ItG vs q0_ g.it G.bm om (XC_ G) g.dn g.lf∧New w.heap.size g.DG) (fun g=>g.lf.length) ⟨[],XC_ G,oi,[]⟩ rfl rfl ?_ ?_
 ·exact⟨hI,trivial⟩
 intro g j hg
 refine kv ?_
 clear hI
 obtain⟨dn,lf,it,DG⟩:=g
 simp only at hg ⊢
 obtain⟨hI,hN⟩:=hg
 have hNi: ∀x,New w.heap.size ((bi,x)::DG):=fun x=>⟨hwi,hN⟩
 first|with_reducible refine ks [] @ju_ ?_|refine kp @ju_ ?_
 refine Ow.nextMapG rfl rfl rfl (zB_ _ _ _) (old _ _ hbm _ (hNi it)) hI (fun hlf=> ?_) (fun p it' lf' hl' hI'=> ?_)
 ·subst hlf
  have hp:=kW_ hI
  rw[List.append_nil] at hp
  rw[(hp.map (uDir S)).sum_nat,hU]
  refine ko @ju_ ?_
  first|with_reducible refine ks [] @ju_ ?_|refine kp @ju_ ?_
  refine⟨_,(ke @ju_),hNi it, ?_⟩
  rfl
 ·refine kn ?_
  refine ko @ju_ ?_
  first|with_reducible refine ks [] @ju_ ?_|refine kp @ju_ ?_
  refine Ow.entryMapG (encK:=vs) (encV:=q0_) rfl rfl rfl (xl_ _ _ _ _) (old _ _ hbm _ (hNi it')) hI' ?_
  have hp:=kW_ hI'
  obtain⟨k,hk3,rfl⟩:=adZ_ (hp.mem_iff.1 (List.mem_append_left _ (List.mem_append_right _ List.mem_cons_self)))
  have hle:=aa5_ (uDir S) hp
  rw[hU,List.map_append,List.sum_append] at hle
  have huk: ([(K5_ k,some (G.d k))].map (uDir S)).sum=wx_ S (S.dir k).seen:=by
   show uDir S (K5_ k,some (G.d k))+0=_
   unfold uDir
   simp only[xR_ hk3,Nat.add_zero]
  rw[huk] at hle
  have hac: ((dn++ [(K5_ k,some (G.d k))]).map (uDir S)).sum=(dn.map (uDir S)).sum+wx_ S (S.dir k).seen:=by rw[List.map_append,List.sum_append,huk]
  generalize (dn.map (uDir S)).sum=A at*
  have hdr:=hX _ _ (hP.dir k hk3)
  obtain⟨os,ms,hos,hms,hnp⟩:=hP.seen k hk3
  have hso:=hX _ _ hos
  have hs:=afu_ S hnp (hP.ok.seen k hk3).nodup
  have hdr1:=old _ _ hdr _ (hNi it')
  have hdr2:=old _ _ hdr _ hN
  have hp': ∀q:Nat,q0_ (some q)=vp q 0:=fun _=>rfl
  refine ko (And.intro @ju_ (And.intro @hp' (And.intro @hdr1 (@hdr2)))) ?_
  refine Ow.rangeMapG (encK:=vs) (encV:=q0_) rfl rfl Tryz.underlying173 rfl (old _ _ hso _ (hNi it')) hms fun bj oj hbj hwj hJ=> ?_
  refine Ow.permL (M:=(bj,oj):: (bi,it')::DG) (by classical exact List.perm_iff_count.2 fun a=>by simp only[List.count_append,List.count_cons,List.count_nil]<;>omega) ?_
  refine ko @ju_ ?_
  first|with_reducible refine ks [] @ju_ ?_|refine kp @ju_ ?_
  refine Cw.loopG (G:=UsG) [24,25,26,27,7,28,29,30,31,32,33,34,3] (fun p=> [(3,vi ((A+ (p.dn.map (ws_ S (S.dir k).seen)).sum:Nat):Int))]) (fun p=>(bj,p.it):: (bi,it')::DG) (fun p=>ItG vs q0_ p.it (G.s k) os ms p.dn p.lf) (fun p=>p.lf.length) ⟨[],ms,oj,[]⟩ rfl rfl ?_ ?_
  ·exact hJ
  intro p jp hp
  refine kv ?_
  clear hJ
  obtain⟨dn2,lf2,jt,DX⟩:=p
  simp only at hp ⊢
  first|with_reducible refine ks [] @ju_ ?_|refine kp @ju_ ?_
  refine Ow.nextMapG rfl rfl rfl (zB_ _ _ _) (old _ _ hso _ ⟨hwj,hNi it'⟩) hp (fun hlf=> ?_) (fun p jt' lf2' hl2' hJ'=> ?_)
  ·subst hlf
   have hq:=kW_ hp
   rw[List.append_nil] at hq
   rw[(hq.map (ws_ S (S.dir k).seen)).sum_nat,hs]
   refine Ow.permL (M:=(bi,it'):: (bj,jt)::DG) (by classical exact List.perm_iff_count.2 fun a=>by simp only[List.count_append,List.count_cons,List.count_nil]<;>omega) ?_
   refine ko @ju_ ?_
   first|with_reducible refine ks [] @ju_ ?_|refine kp @ju_ ?_
   exact Again.mk ⟨dn++ [(K5_ k,some (G.d k))],lf',it',(bj,jt)::DG⟩ (by show lf'.length<lf.length;omega) ⟨hI',hwj,hN⟩ rfl (by simp only[hac];rfl)
  ·refine kn ?_
   refine ko @ju_ ?_
   first|with_reducible refine ks [] @ju_ ?_|refine kp @ju_ ?_
   have hq:=kW_ hJ'
   have hle2:=aa5_ (ws_ S (S.dir k).seen) hq
   rw[hs] at hle2
   have hpm:p∈ (S.dir k).seen.map (ptrN G.fb):=hnp.mem_iff.1 (hq.mem_iff.1 (List.mem_append_left _ (List.mem_append_right _ List.mem_cons_self)))
   obtain⟨⟨s,n⟩,hsn,rfl⟩:=List.mem_map.1 hpm
   have huf: ([ptrN G.fb (s,n)].map (ws_ S (S.dir k).seen)).sum=(S.files.getD n x7_).data.length:=by
    show ws_ S (S.dir k).seen (s,some (G.fb.getD n 0))+0=_
    unfold ws_
    simp only[Kp_ (hP.ok.seen k hk3).nodup hsn,Nat.add_zero]
   rw[List.map_append,List.sum_append,huf] at hle2
   have hac2: ((dn2++ [ptrN G.fb (s,n)]).map (ws_ S (S.dir k).seen)).sum=(dn2.map (ws_ S (S.dir k).seen)).sum+ (S.files.getD n x7_).data.length:=by rw[List.map_append,List.sum_append,huf]
   have hfl:=hX _ _ (hP.file n (hP.ok.seenN k hk3 _ hsn))
   have hf1:=old _ _ hfl _ (show New w.heap.size ((bj,jt'):: (bi,it')::DG) from⟨hwj,hNi it'⟩)
   have hf2:=old _ _ hfl _ (hNi it')
   have hf3:=old _ _ hfl _ hN
   generalize (dn2.map (ws_ S (S.dir k).seen)).sum=B at*
   refine Ow.entryMapG (encK:=vs) (encV:=q0_) rfl rfl rfl (xl_ _ _ _ _) (old _ _ hso _ ⟨hwj,hNi it'⟩) hJ' ?_
   unfold ptrN at hJ' hac2 ⊢
   simp only at hJ' hac2 ⊢
   generalize G.fb.getD n 0=fbn at*
   generalize S.files.getD n x7_=fl at*
   refine ko (And.intro @ju_ (And.intro @hp' (And.intro @hf1 (And.intro @hf2 (@hf3))))) ?_
   first|with_reducible refine ks [] @ju_ ?_|refine kp @ju_ ?_
   exact Again.mk ⟨dn2++ [(s,some fbn)],lf2',jt',DX⟩ (by show lf2'.length<lf2.length;omega) hJ' rfl (by simp only[hac2,←Nat.add_assoc,Int.natCast_add];rfl)
end Go.Proofs
end
section
open Go Go.Proofs Go.Sx Go.StP
namespace Go.Proofs
set_option maxRecDepth 10000
set_option maxHeartbeats 400000
set_option linter.unusedSimpArgs false
def atD (S:DiskL) (dir name:List UInt8):Option Nat:=(qi_ dir).bind fun k=>zQ_ (S.dir k).seen name
def qo_ (S:DiskL) (n:Nat):FileL:=S.files.getD n x7_
def WN_ (S:DiskL) (n:Nat) (f:FileL):DiskL:={S with files:=S.files.set n f}
def je_ (S:DiskL) (dir name:List UInt8):DiskL×Nat:=
 if jJ_ S dir [name]≠0 then(S,jJ_ S dir [name]) else match atD S dir name with
  |none=>(S,6)
  |some n=>if(zx_ S).2≠0 then zx_ S else(WN_ (zx_ S).1 n ⟨(qo_ S n).data,(qo_ S n).data.length⟩,0)
theorem jC_ (S:DiskL): (zx_ S).1.dir=S.dir∧(zx_ S).1.files=S.files∧(zx_ S).1.max=S.max:=by
 unfold zx_
 split
 ·exact⟨rfl,rfl,rfl⟩
 ·split
  ·exact⟨rfl,rfl,rfl⟩
  ·exact⟨rfl,rfl,rfl⟩
theorem xI_ {S:DiskL} (h:DkOk S):DkOk (zx_ S).1:=by
 obtain⟨h1,h2,h3⟩:=jC_ S
 refine⟨by rw[h1];exact h.seen,by rw[h1];exact h.stl,by rw[h1,h2];exact h.seenN,by rw[h1,h2];exact h.stlN,by rw[h1,h2];exact h.pendN,by rw[h2];exact h.file, ?_,by rw[h3];exact h.max⟩
 have hf:=h.fuse
 unfold zx_
 split
 ·exact hf
 ·split
  ·rename_i h4 h5
   have:=hf.2.2 h5
   have h6:S.fuse≠0:=fun e=>h4 ⟨h5,e⟩
   exact⟨by show _≤S.fuse - 1;omega,by show S.fuse - 1<_;omega,fun _=>by show 0≤S.fuse - 1;omega⟩
  ·exact hf
theorem Zk_ {S:DiskL} (h:DkOk S) {n:Nat} {f:FileL} (hf:f.data.length≤1048576∧f.stl≤f.data.length):DkOk (WN_ S n f):=by
 refine⟨h.seen,h.stl,fun k hk p hp=>by show p.2< (S.files.set n f).length;rw[List.length_set];exact h.seenN k hk p hp,fun k hk p hp=>by show p.2< (S.files.set n f).length;rw[List.length_set];exact h.stlN k hk p hp,fun k hk c hc h0=>by show c.n< (S.files.set n f).length;rw[List.length_set];exact h.pendN k hk c hc h0,fun g hg=> ?_,h.fuse,h.max⟩
 rcases List.mem_or_eq_of_mem_set hg with hg|rfl
 ·exact h.file g hg
 ·exact hf
theorem X4_ {S:DiskL} (h:DkOk S) {n:Nat} (hn:n<S.files.length): (qo_ S n).data.length≤1048576∧(qo_ S n).stl≤ (qo_ S n).data.length:=by
 unfold qo_
 rw[List.getD_eq_getElem?_getD,List.getElem?_eq_getElem hn]
 exact h.file _ (List.getElem_mem hn)
set_option linter.defProp false
def j0_:=And.intro (And.intro (And.intro (And.intro (@zw_) (@zv_)) (And.intro (@qE_) (@xK_))) (And.intro (And.intro (@q2_) (@qW_)) (And.intro (@qY_) (@xY_)))) (And.intro (And.intro (And.intro (@x1_) (@wG_)) (And.intro (@wB_) (@act_))) (And.intro (And.intro (@J7_) (@afJ_)) (And.intro (@VP_) (And.intro (@Sx.tup2_0) (@Sx.tup2_1)))))
theorem JT_ (X:za_) (G:DkG) (S:DiskL) (dir name:List UInt8) (w:World) (hX: ∀p,p∈X→w.heap[p.1]? =some p.2) (hn: (keys X).Nodup) (hP:DkP X G S) (hnm:name.length<1099511627776):
  Rets Tryz.prog 85 #[vp G.bd 0,vs dir,vs name] w (XS w X (fun v D=>v=vi ((je_ S dir name).2:Nat)∧DkP D G (je_ S dir name).1)):=by
 refine Rets.enterX Tryz.func85 rfl (rs:= [.tmp 6]) Tryz.results85 Tryz.ntmps85 hX hn ?_
 refine kf ?_
 first|with_reducible refine ks [] @j0_ ?_|refine kp @j0_ ?_
 refine Ow.buildSlice (e:=9) #[vs name] rfl rfl (by kernel_rfl) fun b1 hb1 hw1=> ?_
 have hP1:=hP.mono (X':=X++ [(b1,Obj.cells #[vs name] 9 (0,0))]) fun b o h=>zq_ h
 have hE1:=(Ext.refl w X).app (o:=Obj.cells #[vs name] 9 (0,0)) hw1
 have hm1: (b1,Obj.cells #[vs name] 9 (0,0))∈X++ [(b1,Obj.cells #[vs name] 9 (0,0))]:=by simp
 generalize X++ [(b1,Obj.cells #[vs name] 9 (0,0))]=L1 at*
 refine ko @j0_ ?_
 refine Ow.callC rfl rfl Tryz.call151 (fun w' hw'=>Rets.toX (jp_ w' G S dir (vsl b1 0 1 1) [name] (hP1.world hw') (VQ_ (hw'.has _ _ hm1)) (by simp) (by simpa using hnm))) (fun B2 v2 D2 hA2 hB2 hN2 hS2=> ?_)
 obtain⟨rfl,hS2⟩:=hS2
 rw[List.append_nil]
 clear hm1 hA2 hN2
 unfold je_ atD
 rcases hS2 with⟨he,rfl⟩ | ⟨he,k,hk,rfl⟩
 ·rw[if_pos he]
  have e1:=jL_ he
  refine ko @j0_ ?_
  first|with_reducible refine ks [] (And.intro @j0_ @e1) ?_|refine kp (And.intro @j0_ @e1) ?_
  refine⟨_,(ke @j0_), ?_⟩
  exact⟨hE1,rfl,hP1⟩
 ·rw[if_neg (by rw[he];simp),hk]
  have hk3:=(xv_ hk).1
  have hdr:=zb_ (w0:=w) (hP1.dir k hk3)
  obtain⟨os,ms,hos,hms,hnp⟩:=hP1.seen k hk3
  have hso:=zb_ (w0:=w) hos
  have e1: ((0:Int) !=0)=false:=rfl
  refine ko @j0_ ?_
  first|with_reducible refine ks [] (And.intro @j0_ (And.intro @e1 (@hdr))) ?_|refine kp (And.intro @j0_ (And.intro @e1 (@hdr))) ?_
  refine Ow.mapGetG (encK:=vs) (encV:=q0_) (k:=name) (z:=none) rfl rfl Tryz.underlying173 jW_ zrPf rfl rfl hso hms ?_
  rw[hnp.get (hP.ok.seen k hk3).nodup]
  show Ow _ _ _ _ _ _ _ _
  cases hf:zQ_ (S.dir k).seen name with
  |none=>
   have hf': (some k).bind (fun k=>zQ_ (S.dir k).seen name)=none:=hf
   rw[hf']
   have hp0:q0_ none= .pointer none:=rfl
   refine ko (And.intro @j0_ @hp0) ?_
   first|with_reducible refine ks [] @j0_ ?_|refine kp @j0_ ?_
   refine⟨_,(ke @j0_), ?_⟩
   exact⟨hE1,rfl,hP1⟩
  |some n=>
   have hf': (some k).bind (fun k=>zQ_ (S.dir k).seen name)=some n:=hf
   rw[hf']
   have hnl:=hP.ok.seenN k hk3 _ (x0_ hf)
   have hp: ∀q:Nat,q0_ (some q)=vp q 0:=fun _=>rfl
   have hbk:G.bd∈keys L1:=ze_ hP1.disk
   refine ko (And.intro @j0_ @hp) ?_
   first|with_reducible refine ks [] @j0_ ?_|refine kp @j0_ ?_
   refine Ow.callM rfl rfl Tryz.call153 hbk (fun w' hw'=>xQ_ G.bd G.bm S w' hP.ok.fuse (hw'.has _ _ (zt_ hP1.disk))) ?_
   obtain⟨hb1,hb2,hb3⟩:=jC_ S
   have hP2:=hP1.setDisk (zx_ S).1 hb1 hb2 (xI_ hP.ok)
   have hE2:=hE1.setB (b:=G.bd) (o:=jh_ G.bm (zx_ S).1)
   generalize setB L1 G.bd (jh_ G.bm (zx_ S).1)=L2 at*
   by_cases hbn: (zx_ S).2=0
   ·have hlk:=hP2.file n (by rw[hb2];exact hnl)
    have hrd:=zb_ (w0:=w) hlk
    have e2: (((zx_ S).2:Int) !=0)=false:=by rw[hbn];rfl
    rw[if_neg (by rw[hbn];simp)]
    have hfo:=X4_ hP.ok hnl
    have hP3:=hP2.setFile (n:=n) (by rw[hb2];exact hnl) ⟨(qo_ S n).data,(qo_ S n).data.length⟩ (Zk_ (xI_ hP.ok) ⟨hfo.1,Nat.le_refl _⟩)
    have hfe: (zx_ S).1.files.getD n x7_=qo_ S n:=by rw[hb2];rfl
    rw[hfe] at hlk hrd
    refine ko (And.intro @j0_ @e2) ?_
    first|with_reducible refine ks [] (And.intro @j0_ (And.intro @hrd (@hlk))) ?_|refine kp (And.intro @j0_ (And.intro @hrd (@hlk))) ?_
    refine⟨_,(ke @j0_), ?_⟩
    exact⟨hE2.setB,rfl,hP3⟩
   ·have e2:=jL_ hbn
    rw[if_pos hbn]
    refine ko (And.intro @j0_ @e2) ?_
    first|with_reducible refine ks [] @j0_ ?_|refine kp @j0_ ?_
    refine⟨_,(ke @j0_), ?_⟩
    exact⟨hE2,rfl,hP2⟩
end Go.Proofs
end
section
open Go Go.Proofs Go.Sx Go.StP
namespace Go.Proofs
set_option maxRecDepth 10000
set_option maxHeartbeats 400000
set_option linter.unusedSimpArgs false
def Je_ (S:DiskL) (n:Nat) (s:List UInt8):Bool:=decide ((1048576:Int) - ((qo_ S n).data.length:Int)< (s.length:Int)) ||decide (S.max< (w8_ S:Int)) ||decide (S.max - (w8_ S:Int)< (s.length:Int))
def qD_ (S:DiskL) (dir name s:List UInt8):DiskL×Nat:=
 if jJ_ S dir [name]≠0 then(S,jJ_ S dir [name]) else match atD S dir name with
  |none=>(S,6)
  |some n=>if Je_ S n s=true then(S,8) else if(zx_ S).2≠0 then zx_ S else(WN_ (zx_ S).1 n ⟨(qo_ S n).data++s,(qo_ S n).stl⟩,0)
set_option linter.defProp false
def qz_:=And.intro (And.intro (And.intro (And.intro (@zw_) (@zv_)) (And.intro (@qE_) (@xK_))) (And.intro (And.intro (@q2_) (@qW_)) (And.intro (@qY_) (@xY_)))) (And.intro (And.intro (And.intro (@x1_) (@wG_)) (And.intro (@wB_) (@act_))) (And.intro (And.intro (@J7_) (@afJ_)) (And.intro (@VP_) (And.intro (@Sx.tup2_0) (@Sx.tup2_1)))))
theorem wR_ (X:za_) (G:DkG) (S:DiskL) (dir name s:List UInt8) (w:World) (hX: ∀p,p∈X→w.heap[p.1]? =some p.2) (hn: (keys X).Nodup) (hP:DkP X G S) (hnm:name.length<1099511627776) (hsl:s.length<1099511627776) (hu:w8_ S<4611686018427387904):
  Rets Tryz.prog 84 #[vp G.bd 0,vs dir,vs name,vs s] w (XS w X (fun v D=>v=vi ((qD_ S dir name s).2:Nat)∧DkP D G (qD_ S dir name s).1)):=by
 refine Rets.enterX Tryz.func84 rfl (rs:= [.tmp 8]) Tryz.results84 Tryz.ntmps84 hX hn ?_
 refine kf ?_
 first|with_reducible refine ks [] @qz_ ?_|refine kp @qz_ ?_
 refine Ow.buildSlice (e:=9) #[vs name] rfl rfl (by kernel_rfl) fun b1 hb1 hw1=> ?_
 have hP1:=hP.mono (X':=X++ [(b1,Obj.cells #[vs name] 9 (0,0))]) fun b o h=>zq_ h
 have hE1:=(Ext.refl w X).app (o:=Obj.cells #[vs name] 9 (0,0)) hw1
 have hm1: (b1,Obj.cells #[vs name] 9 (0,0))∈X++ [(b1,Obj.cells #[vs name] 9 (0,0))]:=by simp
 generalize X++ [(b1,Obj.cells #[vs name] 9 (0,0))]=L1 at*
 refine ko @qz_ ?_
 refine Ow.callC rfl rfl Tryz.call151 (fun w' hw'=>Rets.toX (jp_ w' G S dir (vsl b1 0 1 1) [name] (hP1.world hw') (VQ_ (hw'.has _ _ hm1)) (by simp) (by simpa using hnm))) (fun B2 v2 D2 hA2 hB2 hN2 hS2=> ?_)
 obtain⟨rfl,hS2⟩:=hS2
 rw[List.append_nil]
 clear hm1 hA2 hN2
 unfold qD_ atD
 rcases hS2 with⟨he,rfl⟩ | ⟨he,k,hk,rfl⟩
 ·rw[if_pos he]
  have e1:=jL_ he
  refine ko @qz_ ?_
  first|with_reducible refine ks [] (And.intro @qz_ @e1) ?_|refine kp (And.intro @qz_ @e1) ?_
  refine⟨_,(ke @qz_), ?_⟩
  exact⟨hE1,rfl,hP1⟩
 ·rw[if_neg (by rw[he];simp),hk]
  have hk3:=(xv_ hk).1
  have hdr:=zb_ (w0:=w) (hP1.dir k hk3)
  obtain⟨os,ms,hos,hms,hnp⟩:=hP1.seen k hk3
  have hso:=zb_ (w0:=w) hos
  have e1: ((0:Int) !=0)=false:=rfl
  refine ko @qz_ ?_
  first|with_reducible refine ks [] (And.intro @qz_ (And.intro @e1 (@hdr))) ?_|refine kp (And.intro @qz_ (And.intro @e1 (@hdr))) ?_
  refine Ow.mapGetG (encK:=vs) (encV:=q0_) (k:=name) (z:=none) rfl rfl Tryz.underlying173 jW_ zrPf rfl rfl hso hms ?_
  rw[hnp.get (hP.ok.seen k hk3).nodup]
  show Ow _ _ _ _ _ _ _ _
  cases hf:zQ_ (S.dir k).seen name with
  |none=>
   have hf': (some k).bind (fun k=>zQ_ (S.dir k).seen name)=none:=hf
   rw[hf']
   have hp0:q0_ none= .pointer none:=rfl
   refine ko (And.intro @qz_ @hp0) ?_
   first|with_reducible refine ks [] @qz_ ?_|refine kp @qz_ ?_
   refine⟨_,(ke @qz_), ?_⟩
   exact⟨hE1,rfl,hP1⟩
  |some n=>
   have hf': (some k).bind (fun k=>zQ_ (S.dir k).seen name)=some n:=hf
   rw[hf']
   have hnl:n<S.files.length:=hP.ok.seenN k hk3 _ (x0_ hf)
   have hfo:=X4_ hP.ok hnl
   have hp: ∀q:Nat,q0_ (some q)=vp q 0:=fun _=>rfl
   have hbk:G.bd∈keys L1:=ze_ hP1.disk
   have hrf:=zb_ (w0:=w) (hP1.file n hnl)
   have hrb:=zb_ (w0:=w) hP1.disk
   have hrf':zs_ w L1 (G.fb.getD n 0)=some (x2_ (qo_ S n)):=hrf
   have hmx:=hP.ok.max
   refine ko (And.intro @qz_ @hp) ?_
   first|with_reducible refine ks [] @qz_ ?_|refine kp @qz_ ?_
   refine Cw.regionS [G.fb.getD n 0,G.bd] [0,1,2,3,4,5,6,7,8,9,10,12,13,14,15,11,16,17,18,19,20,21,22,23,25,24,26,27,28,29,30] [] (by kernel_rfl) (by kernel_rfl) (by kernel_rfl) ?_
   simp only[zI_, ↓zr_, ↓zk_, ↓z0_, ↓zZ_,zl_]
   cases h1:decide ((1048576:Int) - ((qo_ S n).data.length:Int)< (s.length:Int)) with
   |true=>
    refine kq (And.intro @qz_ (And.intro @hrf' (And.intro @hrb (@h1)))) ?_
    have hF:Je_ S n s=true:=by unfold Je_;rw[h1];simp
    rw[if_pos hF]
    try with_reducible refine Ow.nil ?_
    first|with_reducible refine ks [] @qz_ ?_|refine kp @qz_ ?_
    refine⟨_,(ke @qz_), ?_⟩
    exact⟨hE1,rfl,hP1⟩
   |false=>
    refine kq (And.intro @qz_ (And.intro @hrf' (And.intro @hrb (@h1)))) ?_
    refine Ow.soft rfl rfl rfl ?_
    refine Ow.callFV rfl Tryz.call152 (fun w' hw'=>Xk_ w' G S (hP1.world hw') hu) ?_
    with_reducible refine Ow.nil ?_
    refine⟨by intro b hb;simp only[List.mem_cons,List.not_mem_nil,or_false] at hb;(try subst hb);rfl, ?_⟩
    cases h2:decide (S.max< (w8_ S:Int)) with
    |true=>
     refine kq (And.intro @qz_ (And.intro @hrb (@h2))) ?_
     have hF:Je_ S n s=true:=by unfold Je_;rw[h2];simp
     rw[if_pos hF]
     try with_reducible refine Ow.nil ?_
     first|with_reducible refine ks [] @qz_ ?_|refine kp @qz_ ?_
     refine⟨_,(ke @qz_), ?_⟩
     exact⟨hE1,rfl,hP1⟩
    |false=>
     have h2':=of_decide_eq_false h2
     refine kq (And.intro @qz_ (And.intro @hrb (@h2))) ?_
     refine Ow.soft rfl rfl rfl ?_
     refine Ow.callFV rfl Tryz.call152 (fun w' hw'=>Xk_ w' G S (hP1.world hw') hu) ?_
     with_reducible refine Ow.nil ?_
     refine⟨by intro b hb;simp only[List.mem_cons,List.not_mem_nil,or_false] at hb;(try subst hb);rfl, ?_⟩
     cases h3:decide (S.max - (w8_ S:Int)< (s.length:Int)) with
     |true=>
      refine kq (And.intro @qz_ (And.intro @hrb (@h3))) ?_
      have hF:Je_ S n s=true:=by unfold Je_;rw[h3];simp
      rw[if_pos hF]
      try with_reducible refine Ow.nil ?_
      first|with_reducible refine ks [] @qz_ ?_|refine kp @qz_ ?_
      refine⟨_,(ke @qz_), ?_⟩
      exact⟨hE1,rfl,hP1⟩
     |false=>
      have hF:Je_ S n s=false:=by unfold Je_;rw[h1,h2,h3];rfl
      rw[if_neg (by rw[hF];simp)]
      have h1':=of_decide_eq_false h1
      refine kq (And.intro @qz_ (And.intro @hrb (@h3))) ?_
      try with_reducible refine Ow.nil ?_
      first|with_reducible refine ks [] @qz_ ?_|refine kp @qz_ ?_
      refine Ow.callM rfl rfl Tryz.call153 hbk (fun w' hw'=>xQ_ G.bd G.bm S w' hP.ok.fuse (hw'.has _ _ (zt_ hP1.disk))) ?_
      obtain⟨hb1,hb2,hb3⟩:=jC_ S
      have hP2:=hP1.setDisk (zx_ S).1 hb1 hb2 (xI_ hP.ok)
      have hE2:=hE1.setB (b:=G.bd) (o:=jh_ G.bm (zx_ S).1)
      generalize setB L1 G.bd (jh_ G.bm (zx_ S).1)=L2 at*
      by_cases hbn: (zx_ S).2=0
      ·have hlk:=hP2.file n (by rw[hb2];exact hnl)
       have hrd:=zb_ (w0:=w) hlk
       have e2: (((zx_ S).2:Int) !=0)=false:=by rw[hbn];rfl
       rw[if_neg (by rw[hbn];simp)]
       have hP3:=hP2.setFile (n:=n) (by rw[hb2];exact hnl) ⟨(qo_ S n).data++s,(qo_ S n).stl⟩ (Zk_ (xI_ hP.ok) ⟨by simp only[List.length_append];omega,by simp only[List.length_append];omega⟩)
       have hfe: (zx_ S).1.files.getD n x7_=qo_ S n:=by rw[hb2];rfl
       rw[hfe] at hlk hrd
       refine ko (And.intro @qz_ @e2) ?_
       first|with_reducible refine ks [] (And.intro @qz_ (And.intro @hrd (@hlk))) ?_|refine kp (And.intro @qz_ (And.intro @hrd (@hlk))) ?_
       refine⟨_,(ke @qz_), ?_⟩
       exact⟨hE2.setB,rfl,hP3⟩
      ·have e2:=jL_ hbn
       rw[if_pos hbn]
       refine ko (And.intro @qz_ @e2) ?_
       first|with_reducible refine ks [] @qz_ ?_|refine kp @qz_ ?_
       refine⟨_,(ke @qz_), ?_⟩
       exact⟨hE2,rfl,hP2⟩
end Go.Proofs
end
section
open Go Go.Proofs Go.Sx Go.StP
namespace Go.Proofs
set_option maxRecDepth 10000
set_option maxHeartbeats 400000
set_option linter.unusedSimpArgs false
structure Only (X D:za_) (bs:Nat) (o:Obj):Prop where
 keys:Sx.keys D=Sx.keys X
 at_:Sx.look D bs=some o
 rest: ∀b,b≠bs→Sx.look D b=Sx.look X b
theorem Only.set {X:za_} {bs:Nat} {o o':Obj} (h:Sx.look X bs=some o):Only X (setB X bs o') bs o':=⟨jz_ _ _ _,zW_ h,fun _ hb=>zh_ (Ne.symm hb)⟩
theorem Only.trans {X D D':za_} {bs:Nat} {o o':Obj} (h:Only X D bs o) (h':Only D D' bs o'):Only X D' bs o':=⟨h'.keys.trans h.keys,h'.at_,fun b hb=>(h'.rest b hb).trans (h.rest b hb)⟩
theorem KX_ (s:List UInt8) (n:Nat):zD_ (some (false,n)) (some (kj_ s)) 0=some (vs s):=(rfl)
theorem afO_ (b:Nat) (n:Nat):zD_ (some (false,n)) (some (Xq_ b)) 0=some (vp b 0):=(rfl)
set_option linter.defProp false
def vd_:=And.intro (And.intro (@zw_) (@zv_)) (And.intro (@KX_) (@afO_))
theorem XJ_ (X:za_) (b1 b2 bs fbn:Nat) (a:List UInt8) (o:Obj) (m:List (List UInt8×Option Nat)) (w:World) (hX: ∀p,p∈X→w.heap[p.1]? =some p.2) (hn: (keys X).Nodup)
  (h1:Sx.look X b1=some (Xq_ fbn)) (h2:Sx.look X b2=some (kj_ a)) (hs:Sx.look X bs=some o) (hm:va_ vs q0_ o m):
  Rets Tryz.prog 324 #[vm bs,vp b1 0,vp b2 0] w (XS w X (fun v D=>v=xq_ []∧ ∃o',Only X D bs o'∧va_ vs q0_ o' (updG a (some fbn) m))):=by
 have r1:=zb_ (w0:=w) h1
 have r2:=zb_ (w0:=w) h2
 refine Rets.enterX Tryz.func324 rfl (rs:= []) Tryz.results324 Tryz.ntmps324 hX hn ?_
 refine kf ?_
 first|with_reducible refine ks [] (And.intro @vd_ (And.intro @r1 (@r2))) ?_|refine kp (And.intro @vd_ (And.intro @r1 (@r2))) ?_
 refine Ow.mapUpdateG (encK:=vs) (encV:=q0_) (k:=a) (v:=some fbn) rfl rfl Tryz.underlying173 jW_ rfl rfl rfl hs hm (fun o' hm'=> ?_)
 refine ko @vd_ ?_
 refine⟨_,(ke @vd_), ?_⟩
 exact⟨(Ext.refl w X).setB,rfl,o',Only.set hs,hm'⟩
theorem Xo_ (X:za_) (b1 bs:Nat) (a:List UInt8) (o:Obj) (m:List (List UInt8×Option Nat)) (w:World) (hX: ∀p,p∈X→w.heap[p.1]? =some p.2) (hn: (keys X).Nodup)
  (h1:Sx.look X b1=some (kj_ a)) (hs:Sx.look X bs=some o) (hm:va_ vs q0_ o m):
  Rets Tryz.prog 309 #[vm bs,vp b1 0] w (XS w X (fun v D=>v=xq_ []∧ ∃o',Only X D bs o'∧va_ vs q0_ o' (delG a m))):=by
 have r1:=zb_ (w0:=w) h1
 refine Rets.enterX Tryz.func309 rfl (rs:= []) Tryz.results309 Tryz.ntmps309 hX hn ?_
 refine kf ?_
 first|with_reducible refine ks [] (And.intro @vd_ @r1) ?_|refine kp (And.intro @vd_ @r1) ?_
 refine Ow.mapDeleteG (encK:=vs) (encV:=q0_) (k:=a) rfl rfl Tryz.underlying173 jW_ rfl rfl hs hm (fun o' hm'=> ?_)
 refine ko @vd_ ?_
 refine⟨_,(ke @vd_), ?_⟩
 exact⟨(Ext.refl w X).setB,rfl,o',Only.set hs,hm'⟩
theorem VM_ (X:za_) (b1 b2 bs:Nat) (a b:List UInt8) (o:Obj) (m:List (List UInt8×Option Nat)) (w:World) (hX: ∀p,p∈X→w.heap[p.1]? =some p.2) (hn: (keys X).Nodup)
  (h1:Sx.look X b1=some (kj_ a)) (h2:Sx.look X b2=some (kj_ b)) (hs:Sx.look X bs=some o) (hm:va_ vs q0_ o m):
  Rets Tryz.prog 320 #[vm bs,vp b1 0,vp b2 0] w (XS w X (fun v D=>v=xq_ []∧ ∃o',Only X D bs o'∧va_ vs q0_ o' (delG a (updG b (VY_ a none m) m)))):=by
 have r1:=zb_ (w0:=w) h1
 have r2:=zb_ (w0:=w) h2
 refine Rets.enterX Tryz.func320 rfl (rs:= []) Tryz.results320 Tryz.ntmps320 hX hn ?_
 refine kf ?_
 first|with_reducible refine ks [] (And.intro @vd_ (And.intro @r1 (@r2))) ?_|refine kp (And.intro @vd_ (And.intro @r1 (@r2))) ?_
 refine Ow.mapGetG (encK:=vs) (encV:=q0_) (k:=a) (z:=none) rfl rfl Tryz.underlying173 jW_ zrPf rfl rfl (zb_ hs) hm ?_
 refine ko @vd_ ?_
 refine Ow.mapUpdateG (encK:=vs) (encV:=q0_) (k:=b) (v:=VY_ a none m) rfl rfl Tryz.underlying173 jW_ rfl rfl rfl hs hm (fun o1 hm1=> ?_)
 have ho1:Only X (setB X bs o1) bs o1:=Only.set hs
 have hne:b1≠bs:=by
  rintro rfl
  rw[hs] at h1;cases h1
  obtain⟨es,c,h,-⟩:=hm;cases h
 have r3:=zb_ (w0:=w) ((ho1.rest b1 hne).trans h1)
 have hE:=(Ext.refl w X).setB (b:=bs) (o:=o1)
 generalize setB X bs o1=L1 at*
 refine ko @vd_ ?_
 first|with_reducible refine ks [] (And.intro @vd_ @r3) ?_|refine kp (And.intro @vd_ @r3) ?_
 refine Ow.mapDeleteG (encK:=vs) (encV:=q0_) (k:=a) rfl rfl Tryz.underlying173 jW_ rfl rfl ho1.at_ hm1 (fun o' hm'=> ?_)
 refine ko @vd_ ?_
 refine⟨_,(ke @vd_), ?_⟩
 exact⟨hE.setB,rfl,o',ho1.trans (Only.set ho1.at_),hm'⟩
end Go.Proofs
end
section
open Go Go.Proofs Go.Sx Go.StP
namespace Go.Proofs
set_option maxRecDepth 10000
set_option maxHeartbeats 400000
set_option linter.unusedSimpArgs false
def okC (l:NmL) (c:CallL):Prop:=c.kind=1→zQ_ l c.a≠none∧c.a≠c.b
theorem NmP.ren {fb:List Nat} {l:NmL} {m:List (List UInt8×Option Nat)} (h:NmP fb l m) (hs:SrtN l) {a b:List UInt8} {n:Nat} (hab:a≠b):NmP fb (putN (j7_ l a) (b,n)) (delG a (updG b (some (fb.getD n 0)) m)):=by
 have h1:=h.put hs.nodup b n
 have h2:=h1.wipe (Xv_ (b,n) hs).nodup a
 refine h2.trans (List.Perm.map _ ?_)
 unfold putN
 refine(List.Perm.filter _ (jS_ (b,n) (j7_ l b))).trans ?_
 refine List.Perm.trans ?_ (jS_ (b,n) (j7_ (j7_ l a) b)).symm
 have e: (a==b)=false:=beq_eq_false_iff_ne.2 hab
 rw[List.filter_cons]
 simp only[e,Bool.not_false, ↓reduceIte]
 unfold j7_
 rw[List.filter_filter,List.filter_filter]
 refine List.Perm.cons _ (List.Perm.of_eq (List.filter_congr fun p _=>Bool.and_comm _ _))
theorem abw_ {l:NmL} (c:CallL) (h:SrtN l):SrtN (qV_ l c):=by
 unfold qV_
 split
 ·exact Xv_ _ h
 ·exact Xv_ _ (QJ_ _ h)
 ·exact QJ_ _ h
theorem ZC_ {X:za_} {fb:List Nat} {v:Value} {c:CallL} {bs:Nat} {l:NmL} (hv:FnP X fb v c) (hN:NmM X fb bs l) (hs:SrtN l) (hok:okC l c):
  ∃k cap,v= .func (.func k) #[] cap∧(∀a w,(callFunc k a).run Tryz.prog w= .ok (.enter k a) w)∧ ∀w,(∀p,p∈X→w.heap[p.1]? =some p.2)→(keys X).Nodup→Rets Tryz.prog k (#[vm bs]++cap) w (XS w X (fun r D=>r=xq_ []∧ ∃o',Only X D bs o'∧NmM D fb bs (qV_ l c))):=by
 obtain⟨o,m,ho,hm,hp⟩:=hN
 unfold FnP at hv
 split at hv
 ·rename_i hk
  obtain⟨b1,b2,rfl,h1,h2⟩:=hv
  refine⟨_,_,rfl,Tryz.call324,fun w hX hn=>Rets.mono (XJ_ X b1 b2 bs _ c.a o m w hX hn h1 h2 ho hm) ?_⟩
  rintro r D ⟨hE,hr,o',hO,hm'⟩
  refine⟨hE,hr,o',hO,o',_,hO.at_,hm', ?_⟩
  unfold qV_
  rw[hk]
  exact hp.put hs.nodup c.a c.n
 ·rename_i hk
  obtain⟨b1,b2,rfl,h1,h2⟩:=hv
  obtain⟨hf,hab⟩:=hok hk
  refine⟨_,_,rfl,Tryz.call320,fun w hX hn=>Rets.mono (VM_ X b1 b2 bs c.a c.b o m w hX hn h1 h2 ho hm) ?_⟩
  rintro r D ⟨hE,hr,o',hO,hm'⟩
  refine⟨hE,hr,o',hO,o',_,hO.at_,hm', ?_⟩
  unfold qV_
  rw[hk,hp.get hs.nodup]
  cases e:zQ_ l c.a with
  |none=>exact absurd e hf
  |some n=>exact hp.ren hs hab
 ·rename_i h0 h1'
  obtain⟨b1,rfl,h1⟩:=hv
  refine⟨_,_,rfl,Tryz.call309,fun w hX hn=>Rets.mono (Xo_ X b1 bs c.a o m w hX hn h1 ho hm) ?_⟩
  rintro r D ⟨hE,hr,o',hO,hm'⟩
  refine⟨hE,hr,o',hO,o',_,hO.at_,hm', ?_⟩
  have e:qV_ l c=j7_ l c.a:=by
   unfold qV_
   split
   ·rename_i e;exact absurd e h0
   ·rename_i e;exact absurd e h1'
   ·rfl
  rw[e]
  exact hp.wipe hs.nodup c.a
end Go.Proofs
end
section
open Go Go.Proofs Go.Sx Go.StP
namespace Go.Proofs
set_option maxRecDepth 10000
set_option maxHeartbeats 400000
set_option linter.unusedSimpArgs false
theorem QE_ {α:Type} {a b:List α} (z:α) (k:Nat) (h:k<a.length): (a++b).getD k z=a.getD k z:=by
 rw[List.getD_eq_getElem?_getD,List.getElem?_append_left h,←List.getD_eq_getElem?_getD]
theorem ZP_ {α:Type} {a:List α} (z x:α) {k:Nat} (h:a.length=k): (a++ [x]).getD k z=x:=by
 subst h
 rw[List.getD_eq_getElem?_getD,List.getElem?_append_right (Nat.le_refl _),Nat.sub_self];rfl
def setP (G:DkG) (k:Nat) (v:Value):DkG:={G with p:=fun j=>if j=k then v else G.p j}
theorem abo_ {l:NmL} {c:CallL} {n:Nat} (hl: ∀p,p∈l→p.2<n) (hok:okC l c) (hc:c.kind=0→c.n<n): ∀p,p∈qV_ l c→p.2<n:=by
 intro p hp
 have hput: ∀ {l:NmL} {x:List UInt8×Nat},(∀p,p∈l→p.2<n)→x.2<n→p∈putN l x→p.2<n:=by
  intro l x h1 h2 h3
  rcases List.mem_cons.1 ((jS_ x (j7_ l x.1)).mem_iff.1 h3) with rfl|h3
  ·exact h2
  ·exact h1 _ ((List.mem_filter.1 h3).1)
 unfold qV_ at hp
 split at hp
 ·rename_i hk;exact hput hl (hc hk) hp
 ·rename_i hk
  refine hput (fun q hq=>hl q ((List.mem_filter.1 hq).1)) ?_ hp
  cases e:zQ_ l c.a with
  |none=>exact absurd e (hok hk).1
  |some m=>
   have:=hl _ (x0_ e)
   exact this
 ·exact hl _ ((List.mem_filter.1 hp).1)
theorem Qq_ {S:DiskL} (h:DkOk S) {k:Nat} (d:DirL) (h1:SrtN d.seen) (h2:SrtN d.stl) (h3: ∀p,p∈d.seen→p.2<S.files.length) (h4: ∀p,p∈d.stl→p.2<S.files.length) (h5: ∀c,c∈d.pend→c.kind=0→c.n<S.files.length):DkOk (qJ_ S k d):=by
 refine⟨fun j hj=> ?_,fun j hj=> ?_,fun j hj=> ?_,fun j hj=> ?_,fun j hj=> ?_,h.file,h.fuse,h.max⟩<;>unfold qJ_<;>simp only<;>by_cases e:j=k
 ·rw[if_pos e];exact h1
 ·rw[if_neg e];exact h.seen j hj
 ·rw[if_pos e];exact h2
 ·rw[if_neg e];exact h.stl j hj
 ·rw[if_pos e];exact h3
 ·rw[if_neg e];exact h.seenN j hj
 ·rw[if_pos e];exact h4
 ·rw[if_neg e];exact h.stlN j hj
 ·rw[if_pos e];exact h5
 ·rw[if_neg e];exact h.pendN j hj
theorem v1_ {G:DkG} (h: [G.s 0,G.s 1,G.s 2,G.t 0,G.t 1,G.t 2].Nodup) {i j:Nat} (hi:i<3) (hj:j<3): (i≠j→G.s i≠G.s j)∧(i≠j→G.t i≠G.t j)∧G.s i≠G.t j:=by
 simp only[List.nodup_cons,List.mem_cons,List.not_mem_nil,not_or,or_false,List.nodup_nil,and_true,not_false_eq_true] at h
 have a:i=0∨i=1∨i=2:=by omega
 have b:j=0∨j=1∨j=2:=by omega
 rcases a with rfl|rfl|rfl<;>rcases b with rfl|rfl|rfl<;>refine⟨fun hne=> ?_,fun hne=> ?_, ?_⟩<;>first|omega| (exact absurd rfl hne)
theorem aib_ {G:DkG} (h: [G.d 0,G.d 1,G.d 2].Nodup) {i j:Nat} (hi:i<3) (hj:j<3):i≠j→G.d i≠G.d j:=by
 simp only[List.nodup_cons,List.mem_cons,List.not_mem_nil,not_or,or_false,List.nodup_nil,and_true,not_false_eq_true] at h
 have a:i=0∨i=1∨i=2:=by omega
 have b:j=0∨j=1∨j=2:=by omega
 rcases a with rfl|rfl|rfl<;>rcases b with rfl|rfl|rfl<;>intro hne<;>first|omega| (exact absurd rfl hne)
structure DkP.Turn (X L:za_) (G:DkG) (k:Nat):Prop where
 keep: ∀b o,Sx.look X b=some o→b≠G.s k→b≠G.d k→slB (G.p k)≠some b→Sx.look L b=some o
theorem DkP.turn {X L:za_} {G:DkG} {S:DiskL} (h:DkP X G S) {k:Nat} (hk:k<3) {c:CallL} {v v2:Value} {vals:List Value} (hT:DkP.Turn X L G k)
  (hs:NmM L G.fb (G.s k) (qV_ (S.dir k).seen c)) (hd:Sx.look L (G.d k)=some (xb_ (G.s k) (G.t k) v2)) (hv:vals.length=(S.dir k).pend.length)
  (hF: ∀i,i<vals.length→FnP X G.fb (vals.getD i undef) ((S.dir k).pend.getD i ky_)) (hGo:Gr X 176 1 (G.p k) vals.length vals)
  (hGr:Gr L 176 1 v2 (vals.length+1) (vals++ [v])) (hFv:FnP X G.fb v c) (hsl:slB v2=slB (G.p k)∨ ∃b,slB v2=some b∧b∉keys X) (hok:okC (S.dir k).seen c) (hcn:c.kind=0→c.n<S.files.length):
  DkP L (setP G k v2) (qJ_ S k ⟨qV_ (S.dir k).seen c,(S.dir k).stl,(S.dir k).pend++ [c]⟩):=by
 have hpk: ∀b o,Sx.look X b=some o→tyO o≠some 176→slB (G.p k)≠some b:=by
  intro b o hb ht e
  obtain⟨arr,ha⟩:=w4_ hGo e
  rw[hb] at ha;cases ha;exact ht rfl
 obtain⟨osk,msk,hosk,hmsk,-⟩:=h.seen k hk
 have hns: ∀b o,Sx.look X b=some o→tyO o≠none→b≠G.s k:=by
  rintro b o hb ht rfl
  rw[hosk] at hb;cases hb;exact ht (qO_ hmsk)
 have hnd: ∀b o,Sx.look X b=some o→tyO o≠some 175→b≠G.d k:=by
  rintro b o hb ht rfl
  rw[h.dir k hk] at hb;cases hb;exact ht rfl
 have K: ∀b o,Sx.look X b=some o→tyO o≠none→tyO o≠some 175→tyO o≠some 176→Sx.look L b=some o:=fun b o hb h1 h2 h3=>hT.keep b o hb (hns b o hb h1) (hnd b o hb h2) (hpk b o hb h3)
 have KM: ∀b o,Sx.look X b=some o→tyO o=none→b≠G.s k→Sx.look L b=some o:=fun b o hb h1 h2=>hT.keep b o hb h2 (hnd b o hb (by rw[h1];intro e;cases e)) (hpk b o hb (by rw[h1];intro e;cases e))
 have KF: ∀ {w c},FnP X G.fb w c→FnP L G.fb w c:=fun hw=>hw.keep fun b o hb hx=>K b o hb (by rcases hx with⟨s,rfl⟩ | ⟨a,rfl⟩<;>simp[tyO,kj_,Xq_]) (by rcases hx with⟨s,rfl⟩ | ⟨a,rfl⟩<;>simp[tyO,kj_,Xq_]) (by rcases hx with⟨s,rfl⟩ | ⟨a,rfl⟩<;>simp[tyO,kj_,Xq_])
 refine⟨?_, ?_, ?_, ?_, ?_, ?_, ?_,h.len,h.nodf,h.nodm,h.nodd,h.nodb, ?_, ?_⟩
 ·exact K _ _ h.disk (by simp[tyO,jh_]) (by simp[tyO,jh_]) (by simp[tyO,jh_])
 ·obtain⟨o,h1,h2⟩:=h.dirs
  exact⟨o,KM _ _ h1 (qO_ h2) (h.nodb k hk).1,h2⟩
 ·intro j hj
  by_cases e:j=k
  ·subst e
   show Sx.look L (G.d j)=some (xb_ (G.s j) (G.t j) (if j=j then v2 else G.p j))
   rw[if_pos rfl];exact hd
  ·show Sx.look L (G.d j)=some (xb_ (G.s j) (G.t j) (if j=k then v2 else G.p j))
   rw[if_neg e]
   exact hT.keep _ _ (h.dir j hj) (hns _ _ (h.dir j hj) (by simp[tyO,xb_])) (aib_ h.nodd hj hk e) (hpk _ _ (h.dir j hj) (by simp[tyO,xb_]))
 ·intro j hj
  show NmM L G.fb (G.s j) (if j=k then _ else S.dir j).seen
  by_cases e:j=k
  ·subst e;rw[if_pos rfl];exact hs
  ·rw[if_neg e]
   obtain⟨o,m,h1,h2,h3⟩:=h.seen j hj
   exact⟨o,m,KM _ _ h1 (qO_ h2) ((v1_ h.nodm hj hk).1 e),h2,h3⟩
 ·intro j hj
  show NmM L G.fb (G.t j) (if j=k then _ else S.dir j).stl
  have e2: (if j=k then⟨qV_ (S.dir k).seen c,(S.dir k).stl,(S.dir k).pend++ [c]⟩ else S.dir j:DirL).stl=(S.dir j).stl:=by
   by_cases e:j=k
   ·subst e;rw[if_pos rfl]
   ·rw[if_neg e]
  rw[e2]
  obtain⟨o,m,h1,h2,h3⟩:=h.stl j hj
  exact⟨o,m,KM _ _ h1 (qO_ h2) (Ne.symm (v1_ h.nodm hk hj).2.2),h2,h3⟩
 ·intro j hj
  by_cases e:j=k
  ·subst e
   refine⟨vals++ [v], ?_, ?_, ?_⟩
   ·show(vals++ [v]).length=(if j=j then _ else S.dir j:DirL).pend.length
    rw[if_pos rfl,List.length_append,List.length_append,hv];rfl
   ·show Gr L _ 1 (if j=j then v2 else G.p j) (vals++ [v]).length (vals++ [v])
    rw[if_pos rfl,List.length_append];exact hGr
   ·intro i hi
    show FnP L G.fb ((vals++ [v]).getD i undef) ((if j=j then _ else S.dir j:DirL).pend.getD i ky_)
    rw[if_pos rfl]
    rw[List.length_append,List.length_singleton] at hi
    by_cases ei:i=vals.length
    ·subst ei
     rw[ZP_ _ _ rfl,ZP_ _ _ hv.symm]
     exact KF hFv
    ·rw[QE_ _ _ (by omega),QE_ _ _ (by omega)]
     exact KF (hF i (by omega))
  ·obtain⟨vj,h1,h2,h3⟩:=h.pend j hj
   refine⟨vj, ?_, ?_, ?_⟩
   ·show vj.length=(if j=k then _ else S.dir j:DirL).pend.length
    rw[if_neg e];exact h1
   ·show Gr L _ 1 (if j=k then v2 else G.p j) vj.length vj
    rw[if_neg e]
    refine h2.keep fun b o hb ho=> ?_
    obtain⟨arr,ha⟩:=w4_ h2 hb
    rw[ho] at ha;cases ha
    exact hT.keep _ _ ho (hns _ _ ho (by simp[tyO])) (hnd _ _ ho (by simp[tyO])) (h.nodp j k hj hk e b hb)
   ·intro i hi
    show FnP L G.fb (vj.getD i undef) ((if j=k then _ else S.dir j:DirL).pend.getD i ky_)
    rw[if_neg e]
    exact KF (h3 i hi)
 ·intro n hn
  exact K _ _ (h.file n hn) (by simp[tyO,x2_]) (by simp[tyO,x2_]) (by simp[tyO,x2_])
 ·intro i j hi hj hij b hb
  have key: ∀j,j<3→ ∀b,slB (G.p j)=some b→b∈keys X:=fun j hj b hb=>by
   obtain⟨vj,-,h2,-⟩:=h.pend j hj
   obtain⟨arr,ha⟩:=w4_ h2 hb
   exact ze_ ha
  show slB (if j=k then v2 else G.p j)≠some b
  have hb':slB (if i=k then v2 else G.p i)=some b:=hb
  by_cases ei:i=k
  ·subst ei
   rw[if_pos rfl] at hb'
   rw[if_neg (Ne.symm hij)]
   rcases hsl with e| ⟨b',e,hb2⟩
   ·exact h.nodp i j hi hj hij b (by rw[←e];exact hb')
   ·rw[e] at hb';cases hb'
    exact fun h'=>hb2 (key j hj _ h')
  ·rw[if_neg ei] at hb'
   by_cases ej:j=k
   ·subst ej
    rw[if_pos rfl]
    rcases hsl with e| ⟨b',e,hb2⟩
    ·rw[e];exact h.nodp i j hi hj hij b hb'
    ·rw[e]
     intro h';cases h'
     exact hb2 (key i hi _ hb')
   ·rw[if_neg ej];exact h.nodp i j hi hj hij b hb'
 ·exact Qq_ h.ok _ (abw_ c (h.ok.seen k hk)) (h.ok.stl k hk) (abo_ (h.ok.seenN k hk) hok hcn) (h.ok.stlN k hk) (fun d hd h0=>by
   rcases List.mem_append.1 hd with hd|hd
   ·exact h.ok.pendN k hk d hd h0
   ·rw[List.mem_singleton.1 hd] at h0 ⊢;exact hcn h0)
end Go.Proofs
end
section
open Go Go.Proofs Go.Sx Go.StP
namespace Go.Proofs
set_option maxRecDepth 10000
set_option maxHeartbeats 400000
set_option linter.unusedSimpArgs false
def X1_ (S:DiskL) (k:Nat) (c:CallL):DiskL:=qJ_ S k ⟨qV_ (S.dir k).seen c,(S.dir k).stl,(S.dir k).pend++ [c]⟩
theorem wy_ (a b:Nat) (v q:Value) (x:Bool) (hq:Value.oneCell' q=true∧q.cells= #[q]):zz_ (some (x,1)) (some (xb_ a b v)) 2 q=some (xb_ a b q):=qG_ [vm a,vm b] [v] [q] [] x _ 175 rfl rfl hq.2 rfl (by simp[hq.1])
set_option linter.defProp false
def kR_:=And.intro (And.intro (@zw_) (And.intro (@zv_) (@qE_))) (And.intro (And.intro (@xK_) (@q2_)) (And.intro (@qW_) (@qY_)))
theorem vm_ (X:za_) (G:DkG) (S:DiskL) (k:Nat) (c:CallL) (v:Value) (w:World) (hX: ∀p,p∈X→w.heap[p.1]? =some p.2) (hn: (keys X).Nodup) (hP:DkP X G S) (hk:k<3) (hv:FnP X G.fb v c) (hok:okC (S.dir k).seen c) (hcn:c.kind=0→c.n<S.files.length) (hpl: (S.dir k).pend.length<1000000):
  Rets Tryz.prog 279 #[vp G.bd 0,vp (G.d k) 0,v] w (XS w X (fun r D=>r=vi ((zx_ S).2:Nat)∧if(zx_ S).2≠0 then D=setB X G.bd (jh_ G.bm (zx_ S).1) else∃v2,DkP D (setP G k v2) (X1_ (zx_ S).1 k c))):=by
 obtain⟨fk,cap,rfl,-,-⟩:=ZC_ hv (hP.seen k hk) (hP.ok.seen k hk) hok
 refine Rets.enterX Tryz.func279 rfl (rs:= [.tmp 6]) Tryz.results279 Tryz.ntmps279 hX hn ?_
 refine kf ?_
 first|with_reducible refine ks [] @kR_ ?_|refine kp @kR_ ?_
 refine Ow.callM rfl rfl Tryz.call153 (ze_ hP.disk) (fun w' hw'=>xQ_ G.bd G.bm S w' hP.ok.fuse (hw'.has _ _ (zt_ hP.disk))) ?_
 obtain⟨hb1,hb2,hb3⟩:=jC_ S
 have hP1:=hP.setDisk (zx_ S).1 hb1 hb2 (xI_ hP.ok)
 have hE1:=(Ext.refl w X).setB (b:=G.bd) (o:=jh_ G.bm (zx_ S).1)
 have hv1:FnP (setB X G.bd (jh_ G.bm (zx_ S).1)) G.fb (.func (.func fk) #[] cap) c:=hv.keep fun b o ho hx=>z9_ hP.disk ho (by rcases hx with⟨s,rfl⟩ | ⟨a,rfl⟩<;>simp[tyO,jh_,kj_,Xq_])
 generalize hL1:setB X G.bd (jh_ G.bm (zx_ S).1)=L1 at*
 by_cases hbn: (zx_ S).2=0
 ·have e2: (((zx_ S).2:Int) !=0)=false:=by rw[hbn];rfl
  have hsk:SrtN ((zx_ S).1.dir k).seen:=hP1.ok.seen k hk
  have hok1:okC ((zx_ S).1.dir k).seen c:=by rw[hb1];exact hok
  obtain⟨fk',cap',he,hfk,hcall⟩:=ZC_ hv1 (hP1.seen k hk) hsk hok1
  cases he
  have hdr:=zb_ (w0:=w) (hP1.dir k hk)
  obtain⟨os,ms,hos,hms,-⟩:=hP1.seen k hk
  have hds:G.d k≠G.s k:=by
   intro e
   have h1:=hP1.dir k hk
   rw[e,hos] at h1;cases h1
   obtain⟨es,cl,h,-⟩:=hms;cases h
  obtain⟨vals,hvl,hGr,hF⟩:=hP1.pend k hk
  refine ko (And.intro @kR_ @e2) ?_
  first|with_reducible refine ks [] (And.intro @kR_ @hdr) ?_|refine kp (And.intro @kR_ @hdr) ?_
  refine Ow.callFnXC (b:=vm (G.s k)) (cap:=cap) (ars:= #[vm (G.s k)]++cap) rfl (X:=L1) (Y:= []) (List.append_nil _).symm rfl rfl rfl rfl hfk (fun w' hw' hX' hn'=>hcall w' hX' hn') (fun r D hC hS=> ?_)
  rw[List.append_nil]
  obtain⟨rfl,o',hO,hN2⟩:=hS
  have hE2:=hE1.came0 hC
  have hdl:Sx.look D (G.d k)=some (xb_ (G.s k) (G.t k) (G.p k)):=(hO.rest _ hds).trans (hP1.dir k hk)
  have hdr2:=zb_ (w0:=w) hdl
  have hGD:Gr D 176 1 (G.p k) vals.length vals:=hGr.keep fun b o hb ho=>by
   obtain⟨arr,ha⟩:=w4_ hGr hb
   rw[ho] at ha;cases ha
   refine(hO.rest b ?_).trans ho
   rintro rfl
   rw[hos] at ho;cases ho
   obtain⟨es,cl,h,-⟩:=hms;cases h
  refine ko @kR_ ?_
  first|with_reducible refine ks [] (And.intro @kR_ @hdr2) ?_|refine kp (And.intro @kR_ @hdr2) ?_
  refine Ow.buildSlice (e:=176) #[.func (.func fk) #[] cap] rfl rfl (by kernel_rfl) fun ba hba hwa=> ?_
  refine ko @kR_ ?_
  refine Ow.appendG (e:=176) (k:=1) (new:= [.func (.func fk) #[] cap]) (G.p k) rfl rfl rfl Tryz.underlying172 (id (by kernel_rfl):zL_ Tryz.prog 176=some (false,1)) (by kernel_rfl) (id (by kernel_rfl):zY_ Tryz.prog 176=some .nilFunc) rfl Tryz.underlying172 (by intro k h;cases h) hGD.app (fun w' hw'=>AppX.one1 (hw'.has _ _ (List.mem_append_right _ List.mem_cons_self)) rfl rfl) rfl (by rw[hvl,hb1];omega) (fun v2 L2 hB2 _ hg2 hs2=> ?_)
  have hE3:=(hE2.app (o:= .cells #[.func (.func fk) #[] cap] 176 (0,0)) hwa).grew hg2
  have hpd:slB (G.p k)≠some (G.d k):=fun e=>by
   obtain⟨arr,ha⟩:=w4_ hGD e
   rw[hdl] at ha
   simp[xb_] at ha
  have hd2:Sx.look L2 (G.d k)=some (xb_ (G.s k) (G.t k) (G.p k)):=hg2.look _ _ hpd (zq_ hdl)
  have hr2:=zb_ (w0:=w) hd2
  have st:=fun x=>wy_ (G.s k) (G.t k) (G.p k) v2 x hB2.cell
  refine ko @kR_ ?_
  first|with_reducible refine ks [] (And.intro @kR_ (And.intro @hd2 (@st))) ?_|refine kp (And.intro @kR_ (And.intro @hd2 (@st))) ?_
  refine⟨_,(ke @kR_), ?_⟩
  refine⟨hE3.setB,by rw[hbn];rfl, ?_⟩
  rw[if_neg (by rw[hbn];simp)]
  have hAb: ∀b,jr_ (D++ [(ba, .cells #[.func (.func fk) #[] cap] 176 (0,0))]) b→b∉keys L1:=fun b hb hm=>by
   have:=zi_ hb (b:=b) (by rw[zc_,hO.keys];exact List.mem_append_left _ hm)
   omega
  have hkd: ∀b o,Sx.look L1 b=some o→b≠G.s k→b≠G.d k→slB (G.p k)≠some b→Sx.look (setB L2 (G.d k) (xb_ (G.s k) (G.t k) v2)) b=some o:=fun b o hb h1 h2 h3=>by
   rw[zh_ (Ne.symm h2)]
   exact hg2.look _ _ h3 (zq_ ((hO.rest b h1).trans hb))
  obtain⟨oN,mN,hN3,hN4,hN5⟩:=hN2
  have hps:slB (G.p k)≠some (G.s k):=fun e=>by
   obtain⟨arr,ha⟩:=w4_ hGr e
   rw[hos] at ha;cases ha
   obtain⟨es,cl,h,-⟩:=hms;cases h
  have hv2d:slB v2≠some (G.d k):=fun e=>by
   rcases hs2 with h| ⟨b',h,ha⟩
   ·exact hpd (by rw[←h];exact e)
   ·rw[h] at e;cases e
    exact hAb _ ha (ze_ (hP1.dir k hk))
  refine⟨v2,hP1.turn hk (c:=c) (v:= .func (.func fk) #[] cap) (v2:=v2) (vals:=vals) ⟨hkd⟩ ⟨oN,mN, ?_,hN4,hN5⟩ (zW_ hd2) hvl hF hGr (hB2.keep fun b o hb ho=> ?_) hv1 (hs2.imp id fun⟨b',h,ha⟩=>⟨b',h,hAb _ ha⟩) hok1 (by rw[hb2];exact hcn)⟩
  ·rw[zh_ hds]
   exact hg2.look _ _ hps (zq_ hN3)
  ·rw[zh_ (by rintro rfl;exact hv2d hb)];exact ho
 ·have e2:=jL_ hbn
  refine ko (And.intro @kR_ @e2) ?_
  first|with_reducible refine ks [] @kR_ ?_|refine kp @kR_ ?_
  refine⟨_,(ke @kR_), ?_⟩
  refine⟨hE1,rfl, ?_⟩
  rw[if_pos hbn]
end Go.Proofs
end
section
open Go Go.Proofs Go.Sx Go.StP
namespace Go.Proofs
set_option maxRecDepth 10000
set_option maxHeartbeats 400000
set_option linter.unusedSimpArgs false
def addF (G:DkG) (bf:Nat):DkG:={G with fb:=G.fb++ [bf]}
def ZF_ (S:DiskL) (f:FileL):DiskL:={S with files:=S.files++ [f]}
theorem agN_ {S:DiskL} (h:DkOk S) {f:FileL} (hf:f.data.length≤1048576∧f.stl≤f.data.length):DkOk (ZF_ S f):=by
 have e: (ZF_ S f).files.length=S.files.length+1:=by unfold ZF_;simp
 refine⟨h.seen,h.stl,fun k hk p hp=>by rw[e];exact Nat.lt_succ_of_lt (h.seenN k hk p hp),fun k hk p hp=>by rw[e];exact Nat.lt_succ_of_lt (h.stlN k hk p hp),fun k hk c hc h0=>by rw[e];exact Nat.lt_succ_of_lt (h.pendN k hk c hc h0),fun g hg=> ?_,h.fuse,h.max⟩
 rcases List.mem_append.1 hg with hg|hg
 ·exact h.file g hg
 ·rw[List.mem_singleton.1 hg];exact hf
theorem ah3_ {fb:List Nat} {bf n:Nat} (h:n<fb.length): (fb++ [bf]).getD n 0=fb.getD n 0:=QE_ 0 n h
theorem DkP.addFile {X:za_} {G:DkG} {S:DiskL} (h:DkP X G S) {bf:Nat} {f:FileL} (hb:Sx.look X bf=some (x2_ f)) (hn:bf∉G.fb) (hf:f.data.length≤1048576∧f.stl≤f.data.length):DkP X (addF G bf) (ZF_ S f):=by
 have hl:=h.len
 have hNm: ∀ {b:Nat} {l:NmL},(∀p,p∈l→p.2<S.files.length)→NmM X G.fb b l→NmM X (G.fb++ [bf]) b l:=by
  rintro b l hlt ⟨o,m,h1,h2,h3⟩
  exact⟨o,m,h1,h2,h3.mono fun p hp=>ah3_ (by have:=hlt p hp;omega)⟩
 refine⟨h.disk,h.dirs,h.dir,fun k hk=>hNm (h.ok.seenN k hk) (h.seen k hk),fun k hk=>hNm (h.ok.stlN k hk) (h.stl k hk),fun k hk=> ?_,fun n hn'=> ?_, ?_, ?_,h.nodm,h.nodd,h.nodb,h.nodp,agN_ h.ok hf⟩
 ·obtain⟨vals,h1,h2,h3⟩:=h.pend k hk
  refine⟨vals,h1,h2,fun i hi=> ?_⟩
  have hF:=h3 i hi
  have hm: ((S.dir k).pend.getD i ky_)∈ (S.dir k).pend:=by
   rw[List.getD_eq_getElem?_getD,List.getElem?_eq_getElem (by omega)];exact List.getElem_mem _
  have hc:=h.ok.pendN k hk _ hm
  show FnP X (G.fb++ [bf]) (vals.getD i undef) ((S.dir k).pend.getD i ky_)
  generalize (S.dir k).pend.getD i ky_=c at*
  unfold FnP at hF ⊢
  split at hF
  ·rename_i hk0
   rw[ah3_ (by have:=hc hk0;omega)]
   exact hF
  ·exact hF
  ·exact hF
 ·have hn2:n<S.files.length+1:=by
   have: (ZF_ S f).files.length=S.files.length+1:=by unfold ZF_;simp
   omega
  show Sx.look X ((G.fb++ [bf]).getD n 0)=some (x2_ ((S.files++ [f]).getD n x7_))
  by_cases e:n=S.files.length
  ·subst e
   rw[ZP_ _ _ hl,ZP_ _ _ rfl];exact hb
  ·rw[QE_ _ _ (by omega),QE_ _ _ (by omega)]
   exact h.file n (by omega)
 ·show(G.fb++ [bf]).length=(S.files++ [f]).length
  rw[List.length_append,List.length_append,hl];rfl
 ·show(G.fb++ [bf]).Nodup
  refine List.nodup_append.2 ⟨h.nodf,by simp,fun a ha b hb'=> ?_⟩
  rw[List.mem_singleton.1 hb']
  rintro rfl;exact hn ha
theorem aez_:jD_ (Zl_ Tryz.prog 182) (zY_ Tryz.prog 182) []=some (.agg #[vs [],vi 0]):=by
 rw[show Zl_ Tryz.prog 182=some [(0,1),(1,1)] from id (by kernel_rfl),show zY_ Tryz.prog 182=some (.agg #[vs [],vi 0]) from id (by kernel_rfl)];rfl
theorem ame_:zY_ Tryz.prog 178=some (.pointer none):=zrPf
theorem aeQ_ (b:Nat) (a:Bool):zz_ (some (a,1)) (some (.cells (Value.pointer none).cells 178 (0,0))) 0 (vp b 0)=some (Xq_ b):=
 qG_ [] [.pointer none] [vp b 0] [] a _ 178 rfl rfl rfl rfl rfl
set_option linter.defProp false
def kr_:=And.intro (@zw_) (And.intro (@zv_) (@aeQ_))
theorem Jk_ (name:List UInt8) (w:World):Rets Tryz.prog 319 #[vs name] w (XS w [] (fun v D=> ∃bp bn bf,v= .func (.func 324) #[] #[vp bp 0,vp bn 0]∧Sx.look D bp=some (Xq_ bf)∧Sx.look D bn=some (kj_ name)∧Sx.look D bf=some (x2_ x7_))):=by
 refine Rets.enterX Tryz.func319 rfl (rs:= [.tmp 2]) Tryz.results319 Tryz.ntmps319 (fun p hp=>by cases hp) (by simp[keys]) ?_
 refine kf ?_
 first|with_reducible refine ks [] @kr_ ?_|refine kp @kr_ ?_
 refine Ow.box rfl rfl fun bn hbn hwn=> ?_
 simp only[qf_,z5_,qe_,List.nil_append]
 refine ko @kr_ ?_
 first|with_reducible refine ks [] @kr_ ?_|refine kp @kr_ ?_
 refine Ow.build (.agg #[vs [],vi 0]) rfl aez_ ?_
 refine ko @kr_ ?_
 refine Ow.box rfl rfl fun bf hbf hwf=> ?_
 simp only[qf_,z5_,qe_,zg_]
 refine ko @kr_ ?_
 refine Ow.alloc rfl rfl ame_ fun bp hbp hwp=> ?_
 have h1:bn<bf:=zi_ hbf (by simp[keys])
 have h2:bn<bp:=zi_ hbp (by simp[keys])
 have h3:bf<bp:=zi_ hbp (by simp[keys])
 refine Ow.permL (M:= [(bp, .cells (Value.pointer none).cells 178 (0,0)),(bf, .cells #[vs [],vi 0] 182 (0,0)),(bn, .cells (vs name).cells 9 (0,0))]) (by classical exact List.perm_iff_count.2 fun a=>by simp only[List.count_append,List.count_cons,List.count_nil]<;>omega) ?_
 refine ko @kr_ ?_
 first|with_reducible refine ks [] @kr_ ?_|refine kp @kr_ ?_
 refine⟨_,(ke @kr_), ?_⟩
 refine⟨Ext.of_new ⟨hwp,hwf,hwn,trivial⟩,bp,bn,bf, ?_, ?_, ?_, ?_⟩
 ·simp only[xq_,List.map_toArray,List.map_cons,List.map_nil,qf_,z5_,qe_]
 ·simp[Sx.look]
 ·simp[Sx.look,show bp≠bn by omega,show bf≠bn by omega];rfl
 ·simp[Sx.look,show bp≠bf by omega];rfl
theorem Q0_ (name:List UInt8) (w:World):Rets Tryz.prog 280 #[vs name] w (XS w [] (fun v D=> ∃bn,v= .func (.func 309) #[] #[vp bn 0]∧Sx.look D bn=some (kj_ name))):=by
 refine Rets.enterX Tryz.func280 rfl (rs:= [.tmp 2]) Tryz.results280 Tryz.ntmps280 (fun p hp=>by cases hp) (by simp[keys]) ?_
 refine kf ?_
 first|with_reducible refine ks [] @kr_ ?_|refine kp @kr_ ?_
 refine Ow.box rfl rfl fun bn hbn hwn=> ?_
 simp only[qf_,z5_,qe_,List.nil_append]
 refine ko @kr_ ?_
 first|with_reducible refine ks [] @kr_ ?_|refine kp @kr_ ?_
 refine⟨_,(ke @kr_), ?_⟩
 exact⟨Ext.of_new ⟨hwn,trivial⟩,bn,by simp only[xq_,List.map_toArray,List.map_cons,List.map_nil,qf_,z5_,qe_],by simp[Sx.look];rfl⟩
end Go.Proofs
end
section
open Go Go.Proofs Go.Sx Go.StP
namespace Go.Proofs
set_option maxRecDepth 10000
set_option maxHeartbeats 400000
set_option linter.unusedSimpArgs false
def xC_ (S:DiskL) (dir name:List UInt8):DiskL×Nat:=
 if jJ_ S dir [name]≠0 then(S,jJ_ S dir [name]) else match atD S dir name with
  |some _=>(S,7)
  |none=>if(zx_ S).2≠0 then zx_ S else(X1_ (ZF_ (zx_ S).1 x7_) ((qi_ dir).getD 0) ⟨0,name,[],S.files.length⟩,0)
def xz_ (S:DiskL) (dir name:List UInt8):DiskL×Nat:=
 if jJ_ S dir [name]≠0 then(S,jJ_ S dir [name]) else match atD S dir name with
  |none=>(S,6)
  |some _=>if(zx_ S).2≠0 then zx_ S else(X1_ (zx_ S).1 ((qi_ dir).getD 0) ⟨2,name,[],0⟩,0)
def xJ_ (S:DiskL) (dir name to:List UInt8):DiskL×Nat:=
 if jJ_ S dir [name,to]≠0 then(S,jJ_ S dir [name,to]) else match atD S dir name with
  |none=>(S,6)
  |some _=>if name=to then zx_ S else if(zx_ S).2≠0 then zx_ S else(X1_ (zx_ S).1 ((qi_ dir).getD 0) ⟨1,name,to,0⟩,0)
theorem acW_ (S:DiskL) (f:FileL):zx_ (ZF_ S f)=(ZF_ (zx_ S).1 f,(zx_ S).2):=by
 unfold zx_
 by_cases h1:S.fused=true∧S.fuse=0
 ·rw[if_pos h1,if_pos (by exact h1)];rfl
 ·rw[if_neg h1,if_neg (by exact h1)]
  by_cases h2:S.fused=true
  ·rw[if_pos h2,if_pos (by exact h2)];rfl
  ·rw[if_neg h2,if_neg (by exact h2)]
theorem akg_ (b o:Nat):qy_ Tryz.prog .neq 178 (vp b o) (.pointer none)=some (.bool true):=by
 simp[qy_,eqX,qk_,qp_,Tryz.underlying178,vp]
theorem ajM_:qy_ Tryz.prog .neq 178 (.pointer none) (.pointer none)=some (.bool false):=by
 simp[qy_,eqX,qk_,qp_,Tryz.underlying178]
theorem v8_ {L D:za_} {B:Nat} (hA:jr_ L B) (hN:New B D) {b:Nat} {o:Obj} (h:Sx.look D b=some o):Sx.look (L++D) b=some o:=by
 rw[zG_ (fun hm=>by have:=zi_ hA hm;have:=hN.le b (ze_ h);omega)];exact h
theorem DkP.fb_key {X:za_} {G:DkG} {S:DiskL} (h:DkP X G S) {b:Nat} (hb:b∈G.fb):b∈keys X:=by
 obtain⟨n,hn,rfl⟩:=List.getElem_of_mem hb
 have:=h.file n (by rw[←h.len];exact hn)
 rw[List.getD_eq_getElem?_getD,List.getElem?_eq_getElem hn] at this
 exact ze_ this
set_option linter.defProp false
def zC_:=And.intro (And.intro (And.intro (And.intro (@zw_) (@zv_)) (And.intro (@qE_) (@xK_))) (And.intro (And.intro (@q2_) (@qW_)) (And.intro (@qY_) (And.intro (@xY_) (@x1_))))) (And.intro (And.intro (And.intro (@KX_) (@act_)) (And.intro (@J7_) (@afJ_))) (And.intro (And.intro (@VP_) (@akg_)) (And.intro (@ajM_) (And.intro (@Sx.tup2_0) (@Sx.tup2_1)))))
theorem Vb_ (X:za_) (G:DkG) (S:DiskL) (dir name:List UInt8) (w:World) (hX: ∀p,p∈X→w.heap[p.1]? =some p.2) (hn: (keys X).Nodup) (hP:DkP X G S) (hnm:name.length<1099511627776) (hpl: ∀k,k<3→(S.dir k).pend.length<1000000):
  Rets Tryz.prog 306 #[vp G.bd 0,vs dir,vs name] w (XS w X (fun v D=>v=vi ((xC_ S dir name).2:Nat)∧ ∃G',G'.bd=G.bd∧DkP D G' (xC_ S dir name).1)):=by
 refine Rets.enterX Tryz.func306 rfl (rs:= [.tmp 6]) Tryz.results306 Tryz.ntmps306 hX hn ?_
 refine kf ?_
 first|with_reducible refine ks [] @zC_ ?_|refine kp @zC_ ?_
 refine Ow.buildSlice (e:=9) #[vs name] rfl rfl (by kernel_rfl) fun b1 hb1 hw1=> ?_
 have hP1:=hP.mono (X':=X++ [(b1,Obj.cells #[vs name] 9 (0,0))]) fun b o h=>zq_ h
 have hE1:=(Ext.refl w X).app (o:=Obj.cells #[vs name] 9 (0,0)) hw1
 have hm1: (b1,Obj.cells #[vs name] 9 (0,0))∈X++ [(b1,Obj.cells #[vs name] 9 (0,0))]:=by simp
 generalize X++ [(b1,Obj.cells #[vs name] 9 (0,0))]=L1 at*
 refine ko @zC_ ?_
 refine Ow.callC rfl rfl Tryz.call151 (fun w' hw'=>Rets.toX (jp_ w' G S dir (vsl b1 0 1 1) [name] (hP1.world hw') (VQ_ (hw'.has _ _ hm1)) (by simp) (by simpa using hnm))) (fun B2 v2 D2 hA2 hB2 hN2 hS2=> ?_)
 obtain⟨rfl,hS2⟩:=hS2
 rw[List.append_nil]
 clear hm1 hA2 hN2
 unfold xC_ atD
 rcases hS2 with⟨he,rfl⟩ | ⟨he,k,hk,rfl⟩
 ·have e1:=jL_ he
  refine ko @zC_ ?_
  first|with_reducible refine ks [] (And.intro @zC_ @e1) ?_|refine kp (And.intro @zC_ @e1) ?_
  refine⟨_,(ke @zC_), ?_⟩
  rw[if_pos he]
  exact⟨hE1,rfl,G,rfl,hP1⟩
 ·have he': ¬ (jJ_ S dir [name]≠0):=by rw[he];simp
  have hk3:=(xv_ hk).1
  have hdr:=zb_ (w0:=w) (hP1.dir k hk3)
  obtain⟨os,ms,hos,hms,hnp⟩:=hP1.seen k hk3
  have hso:=zb_ (w0:=w) hos
  have e1: ((0:Int) !=0)=false:=rfl
  refine ko @zC_ ?_
  first|with_reducible refine ks [] (And.intro @zC_ (And.intro @e1 (@hdr))) ?_|refine kp (And.intro @zC_ (And.intro @e1 (@hdr))) ?_
  refine Ow.mapGetG (encK:=vs) (encV:=q0_) (k:=name) (z:=none) rfl rfl Tryz.underlying173 jW_ zrPf rfl rfl hso hms ?_
  rw[hnp.get (hP.ok.seen k hk3).nodup]
  show Ow _ _ _ _ _ _ _ _
  have hq: (qi_ dir).bind (fun k=>zQ_ (S.dir k).seen name)=zQ_ (S.dir k).seen name:=by rw[hk];rfl
  cases hf:zQ_ (S.dir k).seen name with
  |some n=>
   have hp: ∀q:Nat,q0_ (some q)=vp q 0:=fun _=>rfl
   refine ko (And.intro @zC_ @hp) ?_
   first|with_reducible refine ks [] @zC_ ?_|refine kp @zC_ ?_
   refine⟨_,(ke @zC_), ?_⟩
   rw[if_neg he',hq,hf]
   exact⟨hE1,rfl,G,rfl,hP1⟩
  |none=>
   have hp0:q0_ none= .pointer none:=rfl
   refine ko (And.intro @zC_ @hp0) ?_
   first|with_reducible refine ks [] @zC_ ?_|refine kp @zC_ ?_
   refine Ow.callC rfl rfl Tryz.call319 (fun w' hw'=>Jk_ name w') (fun B3 v3 D3 hA3 hB3 hN3 hS3=> ?_)
   obtain⟨bp,bn,bf,rfl,hbp,hbn,hbf⟩:=hS3
   have hP2:=hP1.mono (X':=L1++D3) fun b o h=>zq_ h
   have hbp2:=v8_ hA3 hN3 hbp
   have hbn2:=v8_ hA3 hN3 hbn
   have hbf2:=v8_ hA3 hN3 hbf
   have hnf:bf∉G.fb:=fun hm=>by
    have h1:=zi_ hA3 (hP1.fb_key hm)
    have h2:=hN3.le bf (ze_ hbf)
    omega
   have hP3:=hP2.addFile hbf2 hnf (f:=x7_) ⟨by decide,by decide⟩
   have hE2:Ext w X (L1++D3):=⟨fun c hc=>by
    rw[zc_] at hc
    rcases List.mem_append.1 hc with hc|hc
    ·exact hE1.new c hc
    ·exact .inr (Nat.le_trans hB3 (hN3.le c hc)),fun c hc=>by rw[zc_];exact List.mem_append_left _ (hE1.all c hc)⟩
   generalize L1++D3=L3 at*
   refine ko @zC_ ?_
   refine Ow.callX (X:=L3) (Y:= []) (List.append_nil _).symm rfl rfl Tryz.call279 (fun w' hw' hX' hn'=>vm_ L3 (addF G bf) (ZF_ S x7_) k ⟨0,name,[],S.files.length⟩ _ w' hX' hn' hP3 hk3 ⟨bp,bn,rfl,by show Sx.look L3 bp=some (Xq_ ((G.fb++ [bf]).getD S.files.length 0));rw[ZP_ _ _ hP.len];exact hbp2,hbn2⟩ (fun h=>by cases h) (fun _=>by show S.files.length< (S.files++ [x7_]).length;simp) (hpl k hk3)) (fun v4 D4 hC4 hS4=> ?_)
   rw[acW_] at hS4
   obtain⟨rfl,hS4⟩:=hS4
   simp only at hS4
   have hE4:=hE2.came0 hC4
   rw[List.append_nil]
   refine ko @zC_ ?_
   first|with_reducible refine ks [] @zC_ ?_|refine kp @zC_ ?_
   refine⟨_,(ke @zC_), ?_⟩
   rw[if_neg he',hq,hf]
   simp only
   by_cases hbn': (zx_ S).2=0
   ·rw[if_neg (by rw[hbn'];simp)] at hS4
    rw[if_neg (by rw[hbn'];simp)]
    obtain⟨v5,hP5⟩:=hS4
    rw[hk]
    exact⟨hE4,by rw[hbn'];rfl,setP (addF G bf) k v5,rfl,hP5⟩
   ·rw[if_pos hbn'] at hS4
    rw[if_pos hbn']
    subst hS4
    obtain⟨hb1,hb2,hb3⟩:=jC_ S
    exact⟨hE4,rfl,G,rfl,hP2.setDisk (zx_ S).1 hb1 hb2 (xI_ hP.ok)⟩
theorem w0_ (X:za_) (G:DkG) (S:DiskL) (dir name:List UInt8) (w:World) (hX: ∀p,p∈X→w.heap[p.1]? =some p.2) (hn: (keys X).Nodup) (hP:DkP X G S) (hnm:name.length<1099511627776) (hpl: ∀k,k<3→(S.dir k).pend.length<1000000):
  Rets Tryz.prog 240 #[vp G.bd 0,vs dir,vs name] w (XS w X (fun v D=>v=vi ((xz_ S dir name).2:Nat)∧ ∃G',G'.bd=G.bd∧DkP D G' (xz_ S dir name).1)):=by
 refine Rets.enterX Tryz.func240 rfl (rs:= [.tmp 6]) Tryz.results240 Tryz.ntmps240 hX hn ?_
 refine kf ?_
 first|with_reducible refine ks [] @zC_ ?_|refine kp @zC_ ?_
 refine Ow.buildSlice (e:=9) #[vs name] rfl rfl (by kernel_rfl) fun b1 hb1 hw1=> ?_
 have hP1:=hP.mono (X':=X++ [(b1,Obj.cells #[vs name] 9 (0,0))]) fun b o h=>zq_ h
 have hE1:=(Ext.refl w X).app (o:=Obj.cells #[vs name] 9 (0,0)) hw1
 have hm1: (b1,Obj.cells #[vs name] 9 (0,0))∈X++ [(b1,Obj.cells #[vs name] 9 (0,0))]:=by simp
 generalize X++ [(b1,Obj.cells #[vs name] 9 (0,0))]=L1 at*
 refine ko @zC_ ?_
 refine Ow.callC rfl rfl Tryz.call151 (fun w' hw'=>Rets.toX (jp_ w' G S dir (vsl b1 0 1 1) [name] (hP1.world hw') (VQ_ (hw'.has _ _ hm1)) (by simp) (by simpa using hnm))) (fun B2 v2 D2 hA2 hB2 hN2 hS2=> ?_)
 obtain⟨rfl,hS2⟩:=hS2
 rw[List.append_nil]
 clear hm1 hA2 hN2
 unfold xz_ atD
 rcases hS2 with⟨he,rfl⟩ | ⟨he,k,hk,rfl⟩
 ·have e1:=jL_ he
  refine ko @zC_ ?_
  first|with_reducible refine ks [] (And.intro @zC_ @e1) ?_|refine kp (And.intro @zC_ @e1) ?_
  refine⟨_,(ke @zC_), ?_⟩
  rw[if_pos he]
  exact⟨hE1,rfl,G,rfl,hP1⟩
 ·have he': ¬ (jJ_ S dir [name]≠0):=by rw[he];simp
  have hk3:=(xv_ hk).1
  have hdr:=zb_ (w0:=w) (hP1.dir k hk3)
  obtain⟨os,ms,hos,hms,hnp⟩:=hP1.seen k hk3
  have hso:=zb_ (w0:=w) hos
  have e1: ((0:Int) !=0)=false:=rfl
  refine ko @zC_ ?_
  first|with_reducible refine ks [] (And.intro @zC_ (And.intro @e1 (@hdr))) ?_|refine kp (And.intro @zC_ (And.intro @e1 (@hdr))) ?_
  refine Ow.mapGetG (encK:=vs) (encV:=q0_) (k:=name) (z:=none) rfl rfl Tryz.underlying173 jW_ zrPf rfl rfl hso hms ?_
  rw[hnp.get (hP.ok.seen k hk3).nodup]
  show Ow _ _ _ _ _ _ _ _
  have hq: (qi_ dir).bind (fun k=>zQ_ (S.dir k).seen name)=zQ_ (S.dir k).seen name:=by rw[hk];rfl
  cases hf:zQ_ (S.dir k).seen name with
  |none=>
   have hp0:q0_ none= .pointer none:=rfl
   refine ko (And.intro @zC_ @hp0) ?_
   first|with_reducible refine ks [] @zC_ ?_|refine kp @zC_ ?_
   refine⟨_,(ke @zC_), ?_⟩
   rw[if_neg he',hq,hf]
   exact⟨hE1,rfl,G,rfl,hP1⟩
  |some n=>
   have hp: ∀q:Nat,q0_ (some q)=vp q 0:=fun _=>rfl
   refine ko (And.intro @zC_ @hp) ?_
   first|with_reducible refine ks [] @zC_ ?_|refine kp @zC_ ?_
   refine Ow.callC rfl rfl Tryz.call280 (fun w' hw'=>Q0_ name w') (fun B3 v3 D3 hA3 hB3 hN3 hS3=> ?_)
   obtain⟨bn,rfl,hbn⟩:=hS3
   have hP2:=hP1.mono (X':=L1++D3) fun b o h=>zq_ h
   have hbn2:=v8_ hA3 hN3 hbn
   have hE2:Ext w X (L1++D3):=⟨fun c hc=>by
    rw[zc_] at hc
    rcases List.mem_append.1 hc with hc|hc
    ·exact hE1.new c hc
    ·exact .inr (Nat.le_trans hB3 (hN3.le c hc)),fun c hc=>by rw[zc_];exact List.mem_append_left _ (hE1.all c hc)⟩
   generalize L1++D3=L3 at*
   refine ko @zC_ ?_
   refine Ow.callX (X:=L3) (Y:= []) (List.append_nil _).symm rfl rfl Tryz.call279 (fun w' hw' hX' hn'=>vm_ L3 G S k ⟨2,name,[],0⟩ _ w' hX' hn' hP2 hk3 ⟨bn,rfl,hbn2⟩ (fun h=>by cases h) (fun h=>by cases h) (hpl k hk3)) (fun v4 D4 hC4 hS4=> ?_)
   obtain⟨rfl,hS4⟩:=hS4
   have hE4:=hE2.came0 hC4
   rw[List.append_nil]
   refine ko @zC_ ?_
   first|with_reducible refine ks [] @zC_ ?_|refine kp @zC_ ?_
   refine⟨_,(ke @zC_), ?_⟩
   rw[if_neg he',hq,hf]
   simp only
   by_cases hbn': (zx_ S).2=0
   ·rw[if_neg (by rw[hbn'];simp)] at hS4
    rw[if_neg (by rw[hbn'];simp)]
    obtain⟨v5,hP5⟩:=hS4
    rw[hk]
    exact⟨hE4,by rw[hbn'];rfl,setP G k v5,rfl,hP5⟩
   ·rw[if_pos hbn'] at hS4
    rw[if_pos hbn']
    subst hS4
    obtain⟨hb1,hb2,hb3⟩:=jC_ S
    exact⟨hE4,rfl,G,rfl,hP2.setDisk (zx_ S).1 hb1 hb2 (xI_ hP.ok)⟩
theorem VI_ (X:za_) (G:DkG) (S:DiskL) (dir name to:List UInt8) (w:World) (hX: ∀p,p∈X→w.heap[p.1]? =some p.2) (hn: (keys X).Nodup) (hP:DkP X G S) (hnm:name.length<1099511627776) (hto:to.length<1099511627776) (hpl: ∀k,k<3→(S.dir k).pend.length<1000000):
  Rets Tryz.prog 307 #[vp G.bd 0,vs dir,vs name,vs to] w (XS w X (fun v D=>v=vi ((xJ_ S dir name to).2:Nat)∧ ∃G',G'.bd=G.bd∧DkP D G' (xJ_ S dir name to).1)):=by
 refine Rets.enterX Tryz.func307 rfl (rs:= [.tmp 8]) Tryz.results307 Tryz.ntmps307 hX hn ?_
 refine kf ?_
 first|with_reducible refine ks [] @zC_ ?_|refine kp @zC_ ?_
 refine Ow.box rfl rfl fun b6 hb6 hw6=> ?_
 simp only[qf_,z5_,qe_]
 refine ko @zC_ ?_
 refine Ow.box rfl rfl fun b7 hb7 hw7=> ?_
 simp only[qf_,z5_,qe_]
 refine Ow.permL (M:=X++ [(b6,kj_ name)]++ [(b7,kj_ to)]) (List.Perm.refl _) ?_
 have hP0:=hP.mono (X':=X++ [(b6,kj_ name)]++ [(b7,kj_ to)]) fun b o h=>zq_ (zq_ h)
 have hE0:=((Ext.refl w X).app (o:=kj_ name) hw6).app (o:=kj_ to) hw7
 have hl6:Sx.look (X++ [(b6,kj_ name)]++ [(b7,kj_ to)]) b6=some (kj_ name):=zq_ (qs_ hb6)
 have hl7:Sx.look (X++ [(b6,kj_ name)]++ [(b7,kj_ to)]) b7=some (kj_ to):=qs_ hb7
 generalize X++ [(b6,kj_ name)]++ [(b7,kj_ to)]=L0 at*
 have hr6:=zb_ (w0:=w) hl6
 have hr7:=zb_ (w0:=w) hl7
 refine ko @zC_ ?_
 first|with_reducible refine ks [] (And.intro @zC_ (And.intro @hr6 (@hr7))) ?_|refine kp (And.intro @zC_ (And.intro @hr6 (@hr7))) ?_
 refine Ow.buildSlice (e:=9) #[vs name,vs to] rfl rfl (by kernel_rfl) fun b1 hb1 hw1=> ?_
 have hP1:=hP0.mono (X':=L0++ [(b1,Obj.cells #[vs name,vs to] 9 (0,0))]) fun b o h=>zq_ h
 have hE1:=hE0.app (o:=Obj.cells #[vs name,vs to] 9 (0,0)) hw1
 have hm1: (b1,Obj.cells #[vs name,vs to] 9 (0,0))∈L0++ [(b1,Obj.cells #[vs name,vs to] 9 (0,0))]:=by simp
 have hl6:=zq_ (M:= [(b1,Obj.cells #[vs name,vs to] 9 (0,0))]) hl6
 have hl7:=zq_ (M:= [(b1,Obj.cells #[vs name,vs to] 9 (0,0))]) hl7
 generalize L0++ [(b1,Obj.cells #[vs name,vs to] 9 (0,0))]=L1 at*
 have hr6:=zb_ (w0:=w) hl6
 have hr7:=zb_ (w0:=w) hl7
 have hnms: ∀s,s∈ [name,to]→s.length<1099511627776:=by
  intro s hs
  simp only[List.mem_cons,List.not_mem_nil,or_false] at hs
  rcases hs with rfl|rfl
  ·exact hnm
  ·exact hto
 refine ko @zC_ ?_
 refine Ow.callC rfl rfl Tryz.call151 (fun w' hw'=>Rets.toX (jp_ w' G S dir (vsl b1 0 2 2) [name,to] (hP1.world hw') (akM_ (hw'.has _ _ hm1)) (by simp) hnms)) (fun B2 v2 D2 hA2 hB2 hN2 hS2=> ?_)
 obtain⟨rfl,hS2⟩:=hS2
 rw[List.append_nil]
 clear hm1 hA2 hN2 hnms
 unfold xJ_ atD
 rcases hS2 with⟨he,rfl⟩ | ⟨he,k,hk,rfl⟩
 ·have e1:=jL_ he
  refine ko @zC_ ?_
  first|with_reducible refine ks [] (And.intro @zC_ @e1) ?_|refine kp (And.intro @zC_ @e1) ?_
  refine⟨_,(ke @zC_), ?_⟩
  rw[if_pos he]
  exact⟨hE1,rfl,G,rfl,hP1⟩
 ·have he': ¬ (jJ_ S dir [name,to]≠0):=by rw[he];simp
  have hk3:=(xv_ hk).1
  have hdr:=zb_ (w0:=w) (hP1.dir k hk3)
  obtain⟨os,ms,hos,hms,hnp⟩:=hP1.seen k hk3
  have hso:=zb_ (w0:=w) hos
  have e1: ((0:Int) !=0)=false:=rfl
  have hq: (qi_ dir).bind (fun k=>zQ_ (S.dir k).seen name)=zQ_ (S.dir k).seen name:=by rw[hk];rfl
  refine ko @zC_ ?_
  first|with_reducible refine ks [] (And.intro @zC_ @e1) ?_|refine kp (And.intro @zC_ @e1) ?_
  refine Cw.regionS [G.d k,b6] [0,1,2,3,4,5,6,7] [] (by kernel_rfl) (by kernel_rfl) (by kernel_rfl) ?_
  simp only[zI_, ↓zr_, ↓zk_, ↓z0_, ↓zZ_,zl_]
  refine kq (And.intro @zC_ (And.intro @hdr (@hr6))) ?_
  refine Ow.soft rfl rfl rfl ?_
  refine Ow.mapGetG (encK:=vs) (encV:=q0_) (k:=name) (z:=none) rfl rfl Tryz.underlying173 jW_ zrPf rfl rfl hso hms ?_
  with_reducible refine Ow.nil ?_
  refine⟨by intro b hb;simp only[List.mem_cons,List.not_mem_nil,or_false] at hb;(try subst hb);rfl, ?_⟩
  rw[hnp.get (hP.ok.seen k hk3).nodup]
  show Ow _ _ _ _ _ _ _ _
  cases hf:zQ_ (S.dir k).seen name with
  |none=>
   have hp0:q0_ none= .pointer none:=rfl
   refine kq (And.intro @zC_ @hp0) ?_
   try with_reducible refine Ow.nil ?_
   first|with_reducible refine ks [] @zC_ ?_|refine kp @zC_ ?_
   refine⟨_,(ke @zC_), ?_⟩
   rw[if_neg he',hq,hf]
   exact⟨hE1,rfl,G,rfl,hP1⟩
  |some n=>
   have hp: ∀q:Nat,q0_ (some q)=vp q 0:=fun _=>rfl
   have hbk:G.bd∈keys L1:=ze_ hP1.disk
   obtain⟨hb1,hb2,hb3⟩:=jC_ S
   refine kq (And.intro @zC_ @hp) ?_
   try with_reducible refine Ow.nil ?_
   cases hnt: (name==to) with
   |true=>
    have hnt':name=to:=eq_of_beq hnt
    first|with_reducible refine ks [] (And.intro @zC_ (And.intro @hr6 (And.intro @hr7 (@hnt)))) ?_|refine kp (And.intro @zC_ (And.intro @hr6 (And.intro @hr7 (@hnt)))) ?_
    refine Ow.callM rfl rfl Tryz.call153 hbk (fun w' hw'=>xQ_ G.bd G.bm S w' hP.ok.fuse (hw'.has _ _ (zt_ hP1.disk))) ?_
    have hP2:=hP1.setDisk (zx_ S).1 hb1 hb2 (xI_ hP.ok)
    have hE2:=hE1.setB (b:=G.bd) (o:=jh_ G.bm (zx_ S).1)
    generalize setB L1 G.bd (jh_ G.bm (zx_ S).1)=L2 at*
    refine ko @zC_ ?_
    first|with_reducible refine ks [] @zC_ ?_|refine kp @zC_ ?_
    refine⟨_,(ke @zC_), ?_⟩
    rw[if_neg he',hq,hf]
    simp only
    rw[if_pos hnt']
    exact⟨hE2,rfl,G,rfl,hP2⟩
   |false=>
    have hnt':name≠to:=fun e=>by rw[e] at hnt;simp at hnt
    first|with_reducible refine ks [] (And.intro @zC_ (And.intro @hr6 (And.intro @hr7 (@hnt)))) ?_|refine kp (And.intro @zC_ (And.intro @hr6 (And.intro @hr7 (@hnt)))) ?_
    simp only[List.map_toArray,List.map_cons,List.map_nil,qf_,z5_,qe_]
    refine Ow.callX (X:=L1) (Y:= []) (List.append_nil _).symm rfl rfl Tryz.call279 (fun w' hw' hX' hn'=>vm_ L1 G S k ⟨1,name,to,0⟩ (.func (.func 320) #[] #[vp b6 0,vp b7 0]) w' hX' hn' hP1 hk3 ⟨b6,b7,rfl,hl6,hl7⟩ (fun _=>⟨by rw[hf];simp,hnt'⟩) (fun h=>by cases h) (hpl k hk3)) (fun v4 D4 hC4 hS4=> ?_)
    obtain⟨rfl,hS4⟩:=hS4
    have hE4:=hE1.came0 hC4
    rw[List.append_nil]
    refine ko @zC_ ?_
    first|with_reducible refine ks [] @zC_ ?_|refine kp @zC_ ?_
    refine⟨_,(ke @zC_), ?_⟩
    rw[if_neg he',hq,hf]
    simp only
    rw[if_neg hnt']
    by_cases hbn': (zx_ S).2=0
    ·rw[if_neg (by rw[hbn'];simp)] at hS4
     rw[if_neg (by rw[hbn'];simp)]
     obtain⟨v5,hP5⟩:=hS4
     rw[hk]
     exact⟨hE4,by rw[hbn'];rfl,setP G k v5,rfl,hP5⟩
    ·rw[if_pos hbn'] at hS4
     rw[if_pos hbn']
     subst hS4
     exact⟨hE4,rfl,G,rfl,hP1.setDisk (zx_ S).1 hb1 hb2 (xI_ hP.ok)⟩
end Go.Proofs
end
section
open Go Go.Proofs Go.Sx Go.StP
namespace Go.Proofs
set_option maxRecDepth 10000
set_option maxHeartbeats 400000
set_option linter.unusedSimpArgs false
structure CpG where
 L:za_
 it:Obj
 o:Obj
 dn:List (List UInt8×Option Nat)
 lf:List (List UInt8×Option Nat)
theorem ZX_ {α β:Type} [BEq α] [LawfulBEq α] {k:α} {v:β}: ∀ {m:List (α×β)},(∀p,p∈m→p.1≠k)→updG k v m=m++ [(k,v)]
 | [],_=>rfl
 |p::r,h=>by
  have h1: (k==p.1)=false:=beq_eq_false_iff_ne.2 fun e=>h p List.mem_cons_self e.symm
  unfold updG
  rw[if_neg (by rw[h1];simp),ZX_ fun q hq=>h q (List.mem_cons_of_mem _ hq)];rfl
set_option linter.defProp false
def xO_:=And.intro (And.intro (And.intro (@zw_) (@zv_)) (And.intro (@Sx.tup2_0) (@Sx.tup2_1))) (And.intro (And.intro (@J5_) (@Sx.tup3_0)) (And.intro (@Sx.tup3_1) (@Sx.tup3_2)))
theorem ac8_ (X:za_) (bt bs:Nat) (ot os:Obj) (m:List (List UInt8×Option Nat)) (w:World) (hX: ∀p,p∈X→w.heap[p.1]? =some p.2) (hn: (keys X).Nodup)
  (ht:Sx.look X bt=some ot) (hmt:va_ vs q0_ ot ([]:List (List UInt8×Option Nat))) (hs:Sx.look X bs=some os) (hms:va_ vs q0_ os m) (hne:bt≠bs) (hnd: (m.map Prod.fst).Nodup):
  Rets Tryz.prog 172 #[vm bt,vm bs] w (XS w X (fun v D=>v=xq_ []∧(∀b o,b≠bt→Sx.look X b=some o→Sx.look D b=some o)∧ ∃o' m',Sx.look D bt=some o'∧va_ vs q0_ o' m'∧m'.Perm m)):=by
 refine Rets.enterX Tryz.func172 rfl (rs:= []) Tryz.results172 Tryz.ntmps172 hX hn ?_
 refine kf ?_
 first|with_reducible refine ks [] @xO_ ?_|refine kp @xO_ ?_
 refine Ow.rangeMapG (encK:=vs) (encV:=q0_) rfl rfl Tryz.underlying173 rfl (zb_ hs) hms fun bi oi hbi hwi hI=> ?_
 have hbiX: ∀b o,Sx.look X b=some o→b≠bi:=fun b o hb e=>by
  have:=zi_ hbi (ze_ hb)
  omega
 refine ko @xO_ ?_
 first|with_reducible refine ks [] @xO_ ?_|refine kp @xO_ ?_
 refine Cw.loopG (G:=CpG) [8,9,10,11,12,4,5,13,14,15] (fun g=> []) (fun g=>g.L) (fun g=>Sx.look g.L bi=some g.it∧Sx.look g.L bt=some g.o∧va_ vs q0_ g.o g.dn∧(∀b o,b≠bt→Sx.look X b=some o→Sx.look g.L b=some o)∧Ext w X g.L∧ItG vs q0_ g.it bs os m g.dn g.lf) (fun g=>g.lf.length) ⟨X++ [(bi,oi)],oi,ot,[],m⟩ rfl rfl ?_ ?_
 ·exact⟨qs_ hbi,zq_ ht,hmt,fun b o _ hb=>zq_ hb,(Ext.refl w X).app hwi,hI⟩
 intro g j hg
 refine kv ?_
 clear hI
 obtain⟨L,it,o,dn,lf⟩:=g
 simp only at hg ⊢
 obtain⟨hli,hlt,hmo,hkeep,hE,hI⟩:=hg
 have hls:=hkeep bs os (Ne.symm hne) hs
 have hit:bt≠bi:=hbiX _ _ ht
 have hsi:bs≠bi:=hbiX _ _ hs
 first|with_reducible refine ks [] @xO_ ?_|refine kp @xO_ ?_
 refine Ow.nextMapG rfl rfl rfl hli (zb_ hls) hI (fun hlf=> ?_) (fun p it' lf' hl' hI'=> ?_)
 ·subst hlf
  have hp:=kW_ hI
  rw[List.append_nil] at hp
  refine ko @xO_ ?_
  first|with_reducible refine ks [] @xO_ ?_|refine kp @xO_ ?_
  refine⟨_,(ke @xO_), ?_⟩
  exact⟨hE,rfl,hkeep,o,dn,hlt,hmo,hp⟩
 ·have h1:Sx.look (setB L bi it') bi=some it':=zW_ hli
  have h2:Sx.look (setB L bi it') bt=some o:=by rw[zh_ (Ne.symm hit)];exact hlt
  have h3:Sx.look (setB L bi it') bs=some os:=by rw[zh_ (Ne.symm hsi)];exact hls
  have h4: ∀b o,b≠bt→Sx.look X b=some o→Sx.look (setB L bi it') b=some o:=fun b o hb hx=>by rw[zh_ (Ne.symm (hbiX _ _ hx))];exact hkeep b o hb hx
  have hE1:=hE.setB (b:=bi) (o:=it')
  generalize setB L bi it'=L1 at*
  refine ko @xO_ ?_
  first|with_reducible refine ks [] @xO_ ?_|refine kp @xO_ ?_
  refine Ow.entryMapG (encK:=vs) (encV:=q0_) rfl rfl rfl (zb_ h1) (zb_ h3) hI' ?_
  obtain⟨s,q⟩:=p
  have hp:=kW_ hI'
  have hds: ∀p,p∈dn→p.1≠s:=by
   have h5:=((hp.map Prod.fst).nodup_iff).2 hnd
   rw[List.map_append,List.map_append,List.nodup_append] at h5
   have h6:=h5.1
   rw[List.nodup_append] at h6
   intro p hp' e
   exact h6.2.2 p.1 (List.mem_map_of_mem hp') s (by simp) e
  refine ko @xO_ ?_
  first|with_reducible refine ks [] @xO_ ?_|refine kp @xO_ ?_
  refine Ow.mapUpdateG (encK:=vs) (encV:=q0_) (k:=s) (v:=q) rfl rfl Tryz.underlying173 jW_ rfl rfl rfl h2 hmo (fun o2 hm2=> ?_)
  rw[ZX_ hds] at hm2
  refine ko @xO_ ?_
  first|with_reducible refine ks [] @xO_ ?_|refine kp @xO_ ?_
  exact Again.mk ⟨setB L1 bt o2,it',o2,dn++ [(s,q)],lf'⟩ (by show lf'.length<lf.length;omega) ⟨by show Sx.look (setB L1 bt o2) bi=_;rw[zh_ hit];exact h1,zW_ h2,hm2,fun b o hb hx=>by show Sx.look (setB L1 bt o2) b=_;rw[zh_ (Ne.symm hb)];exact h4 b o hb hx,hE1.setB,hI'⟩ rfl rfl
end Go.Proofs
end
section
open Go Go.Proofs Go.Sx Go.StP
namespace Go.Proofs
set_option maxRecDepth 10000
set_option maxHeartbeats 400000
set_option linter.unusedSimpArgs false
def agt_ (G:DkG) (k s':Nat):DkG:={G with s:=fun j=>if j=k then s' else G.s j,p:=fun j=>if j=k then .slice none 0 0 else G.p j}
theorem DkP.calm {X L:za_} {G:DkG} {S:DiskL} (h:DkP X G S) {k:Nat} (hk:k<3) {s':Nat} (d:DirL) (hd0:d.pend= [])
  (keep: ∀b o,Sx.look X b=some o→b≠G.t k→b≠G.d k→Sx.look L b=some o) (hs:NmM L G.fb s' d.seen) (ht:NmM L G.fb (G.t k) d.stl)
  (hd:Sx.look L (G.d k)=some (xb_ s' (G.t k) (.slice none 0 0))) (hsn:s'=G.s k∨s'∉keys X) (h1:SrtN d.seen) (h2:SrtN d.stl) (h3: ∀p,p∈d.seen→p.2<S.files.length) (h4: ∀p,p∈d.stl→p.2<S.files.length):
  DkP L (agt_ G k s') (qJ_ S k d):=by
 obtain⟨otk,mtk,hotk,hmtk,-⟩:=h.stl k hk
 have hnt: ∀b o,Sx.look X b=some o→tyO o≠none→b≠G.t k:=by
  rintro b o hb ht rfl
  rw[hotk] at hb;cases hb;exact ht (qO_ hmtk)
 have hnd: ∀b o,Sx.look X b=some o→tyO o≠some 175→b≠G.d k:=by
  rintro b o hb ht rfl
  rw[h.dir k hk] at hb;cases hb;exact ht rfl
 have K: ∀b o,Sx.look X b=some o→tyO o≠none→tyO o≠some 175→Sx.look L b=some o:=fun b o hb h1 h2=>keep b o hb (hnt b o hb h1) (hnd b o hb h2)
 have KM: ∀b o,Sx.look X b=some o→tyO o=none→b≠G.t k→Sx.look L b=some o:=fun b o hb h1 h2=>keep b o hb h2 (hnd b o hb (by rw[h1];intro e;cases e))
 have KF: ∀ {w c},FnP X G.fb w c→FnP L G.fb w c:=fun hw=>hw.keep fun b o hb hx=>K b o hb (by rcases hx with⟨s,rfl⟩ | ⟨a,rfl⟩<;>simp[tyO,kj_,Xq_]) (by rcases hx with⟨s,rfl⟩ | ⟨a,rfl⟩<;>simp[tyO,kj_,Xq_])
 have hs1: ∀j,j<3→j≠k→s'≠G.s j:=fun j hj hjk=>by
  rcases hsn with e|e
  ·rw[e];exact(v1_ h.nodm hk hj).1 (Ne.symm hjk)
  ·obtain⟨o,m,ho,-⟩:=h.seen j hj
   rintro rfl;exact e (ze_ ho)
 have hs2: ∀j,j<3→s'≠G.t j:=fun j hj=>by
  rcases hsn with e|e
  ·rw[e];exact(v1_ h.nodm hk hj).2.2
  ·obtain⟨o,m,ho,-⟩:=h.stl j hj
   rintro rfl;exact e (ze_ ho)
 have hs3:G.bm≠s':=by
  rcases hsn with e|e
  ·rw[e];exact(h.nodb k hk).1
  ·obtain⟨o,ho,-⟩:=h.dirs
   rintro rfl;exact e (ze_ ho)
 refine⟨?_, ?_, ?_, ?_, ?_, ?_, ?_,h.len,h.nodf, ?_,h.nodd, ?_, ?_, ?_⟩
 ·exact K _ _ h.disk (by simp[tyO,jh_]) (by simp[tyO,jh_])
 ·obtain⟨o,h1,h2⟩:=h.dirs
  exact⟨o,KM _ _ h1 (qO_ h2) (h.nodb k hk).2,h2⟩
 ·intro j hj
  show Sx.look L (G.d j)=some (xb_ (if j=k then s' else G.s j) (G.t j) (if j=k then .slice none 0 0 else G.p j))
  by_cases e:j=k
  ·subst e;rw[if_pos rfl,if_pos rfl];exact hd
  ·rw[if_neg e,if_neg e]
   exact keep _ _ (h.dir j hj) (hnt _ _ (h.dir j hj) (by simp[tyO,xb_])) (aib_ h.nodd hj hk e)
 ·intro j hj
  show NmM L G.fb (if j=k then s' else G.s j) (if j=k then d else S.dir j).seen
  by_cases e:j=k
  ·subst e;rw[if_pos rfl,if_pos rfl];exact hs
  ·rw[if_neg e,if_neg e]
   obtain⟨o,m,h1,h2,h3⟩:=h.seen j hj
   exact⟨o,m,KM _ _ h1 (qO_ h2) (v1_ h.nodm hj hk).2.2,h2,h3⟩
 ·intro j hj
  show NmM L G.fb (G.t j) (if j=k then d else S.dir j).stl
  by_cases e:j=k
  ·subst e;rw[if_pos rfl];exact ht
  ·rw[if_neg e]
   obtain⟨o,m,h1,h2,h3⟩:=h.stl j hj
   exact⟨o,m,KM _ _ h1 (qO_ h2) ((v1_ h.nodm hj hk).2.1 e),h2,h3⟩
 ·intro j hj
  by_cases e:j=k
  ·subst e
   refine⟨[], ?_, ?_,fun i hi=>absurd hi (Nat.not_lt_zero _)⟩
   ·show 0=(if j=j then d else S.dir j:DirL).pend.length
    rw[if_pos rfl,hd0];rfl
   ·show Gr L _ 1 (if j=j then .slice none 0 0 else G.p j) 0 []
    rw[if_pos rfl];exact Gr.nl
  ·obtain⟨vj,h1,h2,h3⟩:=h.pend j hj
   refine⟨vj, ?_, ?_, ?_⟩
   ·show vj.length=(if j=k then _ else S.dir j:DirL).pend.length
    rw[if_neg e];exact h1
   ·show Gr L _ 1 (if j=k then .slice none 0 0 else G.p j) vj.length vj
    rw[if_neg e]
    refine h2.keep fun b o hb ho=> ?_
    obtain⟨arr,ha⟩:=w4_ h2 hb
    rw[ho] at ha;cases ha
    exact K _ _ ho (by simp[tyO]) (by simp[tyO])
   ·intro i hi
    show FnP L G.fb (vj.getD i undef) ((if j=k then _ else S.dir j:DirL).pend.getD i ky_)
    rw[if_neg e]
    exact KF (h3 i hi)
 ·intro n hn
  exact K _ _ (h.file n hn) (by simp[tyO,x2_]) (by simp[tyO,x2_])
 ·have hn:=h.nodm
  have hk':k=0∨k=1∨k=2:=by omega
  rcases hk' with rfl|rfl|rfl
  ·show [s',G.s 1,G.s 2,G.t 0,G.t 1,G.t 2].Nodup
   exact List.nodup_cons.2 ⟨by simp only[List.mem_cons,List.not_mem_nil,or_false,not_or];exact⟨hs1 1 (by omega) (by omega),hs1 2 (by omega) (by omega),hs2 0 (by omega),hs2 1 (by omega),hs2 2 (by omega)⟩,(List.nodup_cons.1 hn).2⟩
  ·show [G.s 0,s',G.s 2,G.t 0,G.t 1,G.t 2].Nodup
   refine(List.Perm.swap (G.s 0) s' _).nodup_iff.1 ?_
   exact List.nodup_cons.2 ⟨by simp only[List.mem_cons,List.not_mem_nil,or_false,not_or];exact⟨hs1 0 (by omega) (by omega),hs1 2 (by omega) (by omega),hs2 0 (by omega),hs2 1 (by omega),hs2 2 (by omega)⟩,(List.nodup_cons.1 ((List.Perm.swap (G.s 0) (G.s 1) _).nodup_iff.2 hn)).2⟩
  ·show [G.s 0,G.s 1,s',G.t 0,G.t 1,G.t 2].Nodup
   have hp: ∀x:Nat,(x:: [G.s 0,G.s 1,G.t 0,G.t 1,G.t 2]).Perm [G.s 0,G.s 1,x,G.t 0,G.t 1,G.t 2]:=fun x=>((List.perm_middle (l₁:= [G.s 0,G.s 1]) (a:=x) (l₂:= [G.t 0,G.t 1,G.t 2]))).symm
   refine(hp s').nodup_iff.1 ?_
   exact List.nodup_cons.2 ⟨by simp only[List.mem_cons,List.not_mem_nil,or_false,not_or];exact⟨hs1 0 (by omega) (by omega),hs1 1 (by omega) (by omega),hs2 0 (by omega),hs2 1 (by omega),hs2 2 (by omega)⟩,(List.nodup_cons.1 ((hp (G.s 2)).nodup_iff.2 hn)).2⟩
 ·intro j hj
  show G.bm≠ (if j=k then s' else G.s j)∧G.bm≠G.t j
  by_cases e:j=k
  ·rw[if_pos e];exact⟨hs3,(h.nodb j hj).2⟩
  ·rw[if_neg e];exact h.nodb j hj
 ·intro i j hi hj hij b hb
  show slB (if j=k then .slice none 0 0 else G.p j)≠some b
  have hb':slB (if i=k then .slice none 0 0 else G.p i)=some b:=hb
  by_cases ei:i=k
  ·rw[if_pos ei] at hb';cases hb'
  ·rw[if_neg ei] at hb'
   by_cases ej:j=k
   ·rw[if_pos ej];intro e;cases e
   ·rw[if_neg ej];exact h.nodp i j hi hj hij b hb'
 ·exact Qq_ h.ok _ h1 h2 h3 h4 (fun c hc=>by rw[hd0] at hc;cases hc)
set_option linter.defProp false
def Kc_:=And.intro (And.intro (And.intro (@zw_) (@zv_)) (And.intro (@qE_) (@q2_))) (And.intro (And.intro (@qW_) (@qY_)) (And.intro (@Sx.tup2_0) (@Sx.tup2_1)))
def WL_ (S:DiskL) (k:Nat):DiskL:=qJ_ S k ⟨(S.dir k).seen,(S.dir k).seen,[]⟩
theorem Wx_ (X:za_) (G:DkG) (S:DiskL) (k:Nat) (w:World) (hX: ∀p,p∈X→w.heap[p.1]? =some p.2) (hn: (keys X).Nodup) (hP:DkP X G S) (hk:k<3):
  Rets Tryz.prog 98 #[vp (G.d k) 0] w (XS w X (fun v D=>v=xq_ []∧DkP D (agt_ G k (G.s k)) (WL_ S k)∧ ∀b o,Sx.look X b=some o→b≠G.t k→b≠G.d k→Sx.look D b=some o)):=by
 obtain⟨ot,mt,hot,hmt,hnt⟩:=hP.stl k hk
 obtain⟨os,ms,hos,hms,hns⟩:=hP.seen k hk
 have hdl:=hP.dir k hk
 have hst:G.s k≠G.t k:=(v1_ hP.nodm hk hk).2.2
 have hnm: ∀ {b:Nat} {o:Obj} {m:List (List UInt8×Option Nat)},Sx.look X b=some o→va_ vs q0_ o m→G.d k≠b:=by
  rintro b o m hb hm rfl
  rw[hdl] at hb;cases hb
  obtain⟨es,cl,h,-⟩:=hm;cases h
 have hdt:=hnm hot hmt
 refine Rets.enterX Tryz.func98 rfl (rs:= []) Tryz.results98 Tryz.ntmps98 hX hn ?_
 refine kf ?_
 ((try with_reducible refine Cw.go [] ?_);(try simp(disch:=(first|assumption|omega| (simp only[qP_,qM_,UInt64.reduceToNat];try omega))) only[↓Sx.S0,Sx.S1,Tryz.fx,Kc_,Nat.reduceAdd,Nat.reducePow,Int.reducePow,Nat.reduceBEq, ↓reduceIte,UInt8.reduceToNat,UInt16.reduceToNat,UInt32.reduceToNat,UInt64.reduceToNat,Int.reduceToNat,(zb_ (w0:=w) hdl)]))
 refine Ow.mapClearG (encK:=vs) (encV:=q0_) rfl rfl Tryz.underlying173 rfl hot hmt (fun o1 hm1=> ?_)
 have hO:Only X (setB X (G.t k) o1) (G.t k) o1:=Only.set hot
 have hE1:=(Ext.refl w X).setB (b:=G.t k) (o:=o1)
 generalize setB X (G.t k) o1=L1 at*
 have hdl1:Sx.look L1 (G.d k)=some (xb_ (G.s k) (G.t k) (G.p k)):=(hO.rest _ hdt).trans hdl
 have hos1:Sx.look L1 (G.s k)=some os:=(hO.rest _ hst).trans hos
 have hr1:=zb_ (w0:=w) hdl1
 refine ko @Kc_ ?_
 first|with_reducible refine ks [] @Kc_ ?_|refine kp @Kc_ ?_
 refine Cw.regionS [G.d k] [0,1,2,4,5,6,3,7,8] [] (by kernel_rfl) (by kernel_rfl) (by kernel_rfl) ?_
 simp only[zI_, ↓zr_, ↓zk_, ↓z0_, ↓zZ_,zl_]
 refine kq (And.intro @Kc_ @hr1) ?_
 refine Ow.soft rfl rfl rfl ?_
 refine Ow.callX (X:=L1) (Y:= []) (List.append_nil _).symm rfl rfl Tryz.call172 (fun w' hw' hX' hn'=>ac8_ L1 (G.t k) (G.s k) o1 os ms w' hX' hn' hO.at_ hm1 hos1 hms (Ne.symm hst) (hns.keys (hP.ok.seen k hk).nodup)) (fun v4 D4 hC4 hS4=> ?_)
 obtain⟨rfl,hkp,o2,m2,hl2,hm2,hp2⟩:=hS4
 have hE2:=hE1.came0 hC4
 rw[List.append_nil]
 have hdl2:=hkp _ _ hdt hdl1
 have hr2:=zb_ (w0:=w) hdl2
 with_reducible refine Ow.nil ?_
 refine⟨fun b hb=>by rw[List.mem_singleton] at hb;subst hb;rw[hr1,hr2], ?_⟩
 refine kq @Kc_ ?_
 try with_reducible refine Ow.nil ?_
 have st:=fun x=>wy_ (G.s k) (G.t k) (G.p k) (.slice none 0 0) x ⟨rfl,rfl⟩
 first|with_reducible refine ks [] (And.intro @Kc_ (And.intro @hdl2 (@st))) ?_|refine kp (And.intro @Kc_ (And.intro @hdl2 (@st))) ?_
 refine⟨_,(ke @Kc_), ?_⟩
 have hkeep: ∀b o,Sx.look X b=some o→b≠G.t k→b≠G.d k→Sx.look (setB D4 (G.d k) (xb_ (G.s k) (G.t k) (.slice none 0 0))) b=some o:=fun b o hb h1 h2=>by
  rw[zh_ (Ne.symm h2)]
  exact hkp _ _ h1 ((hO.rest _ h1).trans hb)
 refine⟨hE2.setB,rfl, ?_,hkeep⟩
 have hos2:=hkp _ _ hst hos1
 refine hP.calm hk ⟨(S.dir k).seen,(S.dir k).seen,[]⟩ rfl hkeep ⟨os,ms, ?_,hms,hns⟩ ⟨o2,m2, ?_,hm2,hp2.trans hns⟩ (zW_ hdl2) (.inl rfl) (hP.ok.seen k hk) (hP.ok.seen k hk) (hP.ok.seenN k hk) (hP.ok.seenN k hk)
 ·rw[zh_ (hnm hos hms)];exact hos2
 ·rw[zh_ hdt];exact hl2
end Go.Proofs
end
section
open Go Go.Proofs Go.Sx Go.StP
namespace Go.Proofs
set_option maxRecDepth 10000
set_option maxHeartbeats 400000
set_option linter.unusedSimpArgs false
def xs_ (S:DiskL) (dir:List UInt8):DiskL×Nat:=
 if jJ_ S dir []≠0 then(S,jJ_ S dir []) else if(zx_ S).2≠0 then zx_ S else(WL_ (zx_ S).1 ((qi_ dir).getD 0),0)
set_option linter.defProp false
def xU_:=And.intro (And.intro (And.intro (@zw_) (@zv_)) (And.intro (@qE_) (@q2_))) (And.intro (And.intro (@qW_) (@qY_)) (And.intro (@Sx.tup2_0) (@Sx.tup2_1)))
theorem XA_ (X:za_) (G:DkG) (S:DiskL) (dir:List UInt8) (w:World) (hX: ∀p,p∈X→w.heap[p.1]? =some p.2) (hn: (keys X).Nodup) (hP:DkP X G S):
  Rets Tryz.prog 308 #[vp G.bd 0,vs dir] w (XS w X (fun v D=>v=vi ((xs_ S dir).2:Nat)∧ ∃G',G'.bd=G.bd∧DkP D G' (xs_ S dir).1)):=by
 refine Rets.enterX Tryz.func308 rfl (rs:= [.tmp 4]) Tryz.results308 Tryz.ntmps308 hX hn ?_
 refine kf ?_
 first|with_reducible refine ks [] @xU_ ?_|refine kp @xU_ ?_
 refine Ow.callC rfl rfl Tryz.call151 (fun w' hw'=>Rets.toX (jp_ w' G S dir (.slice none 0 0) [] (hP.world hw') (SlV.nil w') (by simp) (fun s hs=>by cases hs))) (fun B2 v2 D2 hA2 hB2 hN2 hS2=> ?_)
 obtain⟨rfl,hS2⟩:=hS2
 rw[List.append_nil]
 unfold xs_
 rcases hS2 with⟨he,rfl⟩ | ⟨he,k,hk,rfl⟩
 ·have e1:=jL_ he
  refine ko @xU_ ?_
  first|with_reducible refine ks [] (And.intro @xU_ @e1) ?_|refine kp (And.intro @xU_ @e1) ?_
  refine⟨_,(ke @xU_), ?_⟩
  rw[if_pos he]
  exact⟨Ext.refl w X,rfl,G,rfl,hP⟩
 ·have he': ¬ (jJ_ S dir []≠0):=by rw[he];simp
  have hk3:=(xv_ hk).1
  have e1: ((0:Int) !=0)=false:=rfl
  obtain⟨hb1,hb2,hb3⟩:=jC_ S
  refine ko @xU_ ?_
  first|with_reducible refine ks [] (And.intro @xU_ @e1) ?_|refine kp (And.intro @xU_ @e1) ?_
  refine Ow.callM rfl rfl Tryz.call153 (ze_ hP.disk) (fun w' hw'=>xQ_ G.bd G.bm S w' hP.ok.fuse (hw'.has _ _ (zt_ hP.disk))) ?_
  have hP2:=hP.setDisk (zx_ S).1 hb1 hb2 (xI_ hP.ok)
  have hE2:=(Ext.refl w X).setB (b:=G.bd) (o:=jh_ G.bm (zx_ S).1)
  generalize setB X G.bd (jh_ G.bm (zx_ S).1)=L2 at*
  by_cases hbn: (zx_ S).2=0
  ·have e2: (((zx_ S).2:Int) !=0)=false:=by rw[hbn];rfl
   refine ko (And.intro @xU_ @e2) ?_
   first|with_reducible refine ks [] @xU_ ?_|refine kp @xU_ ?_
   refine Ow.callX (X:=L2) (Y:= []) (List.append_nil _).symm rfl rfl Tryz.call98 (fun w' hw' hX' hn'=>Wx_ L2 G (zx_ S).1 k w' hX' hn' hP2 hk3) (fun v4 D4 hC4 hS4=> ?_)
   obtain⟨rfl,hS4,-⟩:=hS4
   have hE4:=hE2.came0 hC4
   rw[List.append_nil]
   refine ko @xU_ ?_
   first|with_reducible refine ks [] @xU_ ?_|refine kp @xU_ ?_
   refine⟨_,(ke @xU_), ?_⟩
   rw[if_neg he',if_neg (by rw[hbn];simp),hk]
   exact⟨hE4,rfl,agt_ G k (G.s k),rfl,hS4⟩
  ·have e2:=jL_ hbn
   refine ko (And.intro @xU_ @e2) ?_
   first|with_reducible refine ks [] @xU_ ?_|refine kp @xU_ ?_
   refine⟨_,(ke @xU_), ?_⟩
   rw[if_neg he',if_pos hbn]
   exact⟨hE2,rfl,G,rfl,hP2⟩
def Jr_ (w:World):Prop:= ∃e fz,w.heap[0]? =some (.cells #[vs xj_,vs vv_,vs jc_] e fz)
def newD (quota:Int):DiskL:=⟨fun _=>⟨[],[],[]⟩,[],quota,0,false,false⟩
theorem aeF_ (b:Nat) (q:Int):jD_ (Zl_ Tryz.prog 168) (zY_ Tryz.prog 168) [(0,vm b),(1,vi q)]=some (.agg #[vm b,vi q,vi 0, .bool false, .bool false]):=by
 rw[show Zl_ Tryz.prog 168=some [(0,1),(1,1),(2,1),(3,1),(4,1)] from id (by kernel_rfl),show zY_ Tryz.prog 168=some (.agg #[.map none,vi 0,vi 0, .bool false, .bool false]) from id (by kernel_rfl)];rfl
theorem afG_ (a b:Nat):jD_ (Zl_ Tryz.prog 175) (zY_ Tryz.prog 175) [(0,vm a),(1,vm b)]=some (.agg #[vm a,vm b, .slice none 0 0]):=by
 rw[show Zl_ Tryz.prog 175=some [(0,1),(1,1),(2,1)] from id (by kernel_rfl),show zY_ Tryz.prog 175=some (.agg #[.map none, .map none, .slice none 0 0]) from id (by kernel_rfl)];rfl
theorem k9_ (e:TypeId) (fz:Nat×Nat):zD_ (some (true,3)) (some (.cells #[vs xj_,vs vv_,vs jc_] e fz)) 0=some (.agg #[vs xj_,vs vv_,vs jc_]):=k1_ _ e fz 3 rfl
theorem Qh_ {k:Nat} (hk:k<3):kF_ (.arr 3 (false,1)) (.agg #[vs xj_,vs vv_,vs jc_]) (some (k:Int))=some (vs (K5_ k)):=by
 have:k=0∨k=1∨k=2:=by omega
 rcases this with rfl|rfl|rfl<;>rfl
def wM_ (d:Nat→Nat):Nat→List (List UInt8×Option Nat)
 |0=> []
 |k+1=>wM_ d k++ [(K5_ k,some (d k))]
theorem Z9_ {d d':Nat→Nat}: ∀ {k:Nat},(∀j,j<k→d' j=d j)→wM_ d' k=wM_ d k
 |0,_=>rfl
 |k+1,h=>by
  unfold wM_
  rw[Z9_ fun j hj=>h j (by omega),h k (by omega)]
theorem aa4_ {d:Nat→Nat} {j:Nat} (hj:j<3): ∀ {k:Nat},k≤j→ ∀p,p∈wM_ d k→p.1≠K5_ j
 |0,_,_,hp=>by cases hp
 |k+1,hk,p,hp=>by
  rcases List.mem_append.1 hp with hp|hp
  ·exact aa4_ hj (by omega) p hp
  ·rw[List.mem_singleton.1 hp]
   intro e
   have h1:=xR_ (k:=k) (by omega)
   have h2:=xR_ hj
   have e':K5_ k=K5_ j:=e
   rw[e',h2] at h1
   cases h1;omega
structure NwG where
 L:za_
 o:Obj
 k:Nat
 d:Nat→Nat
 s:Nat→Nat
 t:Nat→Nat
def mtM (L:za_) (b:Nat):Prop:= ∃o,Sx.look L b=some o∧va_ vs q0_ o ([]:List (List UInt8×Option Nat))
set_option linter.defProp false
def x9_:=And.intro (And.intro (@zw_) (And.intro (@zv_) (@qE_))) (And.intro (@q2_) (And.intro (@qW_) (@qY_)))
theorem adQ_ (quota:Int) (w:World) (hq: -9223372036854775808≤quota∧quota<9223372036854775808) (hG:Jr_ w):
  Rets Tryz.prog 80 #[vi quota] w (XS w [] (fun v D=> ∃G,v=vp G.bd 0∧DkP D G (newD quota))):=by
 obtain⟨e,fz,hg⟩:=hG
 refine Rets.enterX Tryz.func80 rfl (rs:= [.tmp 2]) Tryz.results80 Tryz.ntmps80 (fun p hp=>by cases hp) (by simp[keys]) ?_
 refine kf ?_
 first|with_reducible refine ks [] @x9_ ?_|refine kp @x9_ ?_
 refine Ow.makeMapG (encK:=vs) (encV:=q0_) rfl rfl (fun bm om hbm hwm hM=> ?_)
 rw[List.nil_append]
 refine ko @x9_ ?_
 refine Ow.build (.agg #[vm bm,vi quota,vi 0, .bool false, .bool false]) rfl (aeF_ bm quota) ?_
 refine ko @x9_ ?_
 refine Ow.box rfl rfl fun bd hbd hwd=> ?_
 simp only[qf_,z5_,qe_,zg_]
 have hmd:bm<bd:=zi_ hbd (by simp[keys])
 refine Ow.permL (M:= [(bm,om)]++ [(bd,jh_ bm (newD quota))]) (List.Perm.refl _) ?_
 have h0:Sx.look ([(bm,om)]++ [(bd,jh_ bm (newD quota))]) bm=some om:=by simp[Sx.look]
 have h1:Sx.look ([(bm,om)]++ [(bd,jh_ bm (newD quota))]) bd=some (jh_ bm (newD quota)):=qs_ hbd
 have hN:New w.heap.size ([(bm,om)]++ [(bd,jh_ bm (newD quota))]):=⟨hwm,hwd,trivial⟩
 generalize [(bm,om)]++ [(bd,jh_ bm (newD quota))]=L0 at*
 have hg0:=(Array.getElem?_eq_some_iff.1 hg).1
 have hrg:zs_ w L0 0=some (.cells #[vs xj_,vs vv_,vs jc_] e fz):=by rw[q3_ (hN.not hg0)];exact hg
 refine ko @x9_ ?_
 first|with_reducible refine ks [] (And.intro @x9_ (And.intro @hrg (@k9_))) ?_|refine kp (And.intro @x9_ (And.intro @hrg (@k9_))) ?_
 refine Cw.loopG (G:=NwG) [12,13,5,14,15,16,17,18,19,20,21,22,23,11] (fun g=> [(11,vi g.k)]) (fun g=>g.L) (fun g=>g.k≤3∧Sx.look g.L bm=some g.o∧va_ vs q0_ g.o (wM_ g.d g.k)∧Sx.look g.L bd=some (jh_ bm (newD quota))∧New w.heap.size g.L∧ ∀j,j<g.k→Sx.look g.L (g.d j)=some (xb_ (g.s j) (g.t j) (.slice none 0 0))∧mtM g.L (g.s j)∧mtM g.L (g.t j)∧g.s j<g.t j∧g.t j<g.d j∧bd<g.s j∧ ∀i,i<j→g.d i<g.s j) (fun g=>3 - g.k) ⟨L0,om,0,fun _=>0,fun _=>0,fun _=>0⟩ rfl rfl ?_ ?_
 ·exact⟨Nat.zero_le _,h0,hM,h1,hN,fun j hj=>absurd hj (Nat.not_lt_zero _)⟩
 intro g j hg
 refine kv ?_
 clear h0 hM h1 hN hrg
 obtain⟨L,o,k,d,s,t⟩:=g
 simp only at hg ⊢
 obtain⟨hk,hlm,hM,hld,hN,hall⟩:=hg
 by_cases hlt:k<3
 ·have d1:decide ((k:Int)<3)=true:=decide_eq_true (by omega)
  have ixk:=Qh_ hlt
  have rdd:=zb_ (w0:=w) hld
  first|with_reducible refine ks [] (And.intro @x9_ (And.intro @d1 (And.intro @ixk (@rdd)))) ?_|refine kp (And.intro @x9_ (And.intro @d1 (And.intro @ixk (@rdd)))) ?_
  refine Ow.makeMapG (encK:=vs) (encV:=q0_) rfl rfl (fun bs os hbs hws hMs=> ?_)
  refine ko @x9_ ?_
  refine Ow.makeMapG (encK:=vs) (encV:=q0_) rfl rfl (fun bt ot hbt hwt hMt=> ?_)
  refine ko @x9_ ?_
  refine Ow.build (.agg #[vm bs,vm bt, .slice none 0 0]) rfl (afG_ bs bt) ?_
  refine ko @x9_ ?_
  refine Ow.box rfl rfl fun br hbr hwr=> ?_
  simp only[qf_,z5_,qe_,zg_]
  refine Ow.permL (M:=L++ [(bs,os)]++ [(bt,ot)]++ [(br,xb_ bs bt (.slice none 0 0))]) (List.Perm.refl _) ?_
  have up: ∀b x,Sx.look L b=some x→Sx.look (L++ [(bs,os)]++ [(bt,ot)]++ [(br,xb_ bs bt (.slice none 0 0))]) b=some x:=fun b x h=>zq_ (zq_ (zq_ h))
  have ls:Sx.look (L++ [(bs,os)]++ [(bt,ot)]++ [(br,xb_ bs bt (.slice none 0 0))]) bs=some os:=zq_ (zq_ (qs_ hbs))
  have lt:Sx.look (L++ [(bs,os)]++ [(bt,ot)]++ [(br,xb_ bs bt (.slice none 0 0))]) bt=some ot:=zq_ (qs_ hbt)
  have lr:Sx.look (L++ [(bs,os)]++ [(bt,ot)]++ [(br,xb_ bs bt (.slice none 0 0))]) br=some (xb_ bs bt (.slice none 0 0)):=qs_ hbr
  have hN1:New w.heap.size (L++ [(bs,os)]++ [(bt,ot)]++ [(br,xb_ bs bt (.slice none 0 0))]):=((hN.app (show New w.heap.size [(bs,os)] from⟨hws,trivial⟩)).app (show New w.heap.size [(bt,ot)] from⟨hwt,trivial⟩)).app (show New w.heap.size [(br,xb_ bs bt (.slice none 0 0))] from⟨hwr,trivial⟩)
  have c1:bs<bt:=zi_ hbt (by rw[zc_];simp[keys])
  have c2:bt<br:=zi_ hbr (by rw[zc_];simp[keys])
  have c3:bd<bs:=zi_ hbs (ze_ hld)
  have c4: ∀j,j<k→d j<bs:=fun j hj=>zi_ hbs (ze_ (hall j hj).1)
  have c5:bm<bs:=zi_ hbs (ze_ hlm)
  generalize L++ [(bs,os)]++ [(bt,ot)]++ [(br,xb_ bs bt (.slice none 0 0))]=L1 at*
  refine ko @x9_ ?_
  refine Ow.mapUpdateG (encK:=vs) (encV:=q0_) (k:=K5_ k) (v:=some br) rfl rfl Tryz.underlying166 jW_ rfl rfl rfl (up _ _ hlm) hM (fun o2 hm2=> ?_)
  rw[ZX_ (aa4_ hlt (Nat.le_refl _))] at hm2
  have ne: ∀b x,b≠bm→Sx.look L1 b=some x→Sx.look (setB L1 bm o2) b=some x:=fun b x h1 h2=>by rw[zh_ (Ne.symm h1)];exact h2
  refine ko @x9_ ?_
  first|with_reducible refine ks [] @x9_ ?_|refine kp @x9_ ?_
  refine Again.mk ⟨setB L1 bm o2,o2,k+1,fun j=>if j=k then br else d j,fun j=>if j=k then bs else s j,fun j=>if j=k then bt else t j⟩ (by show 3 - (k+1)<3 - k;omega) ⟨hlt,zW_ (up _ _ hlm), ?_,ne _ _ (by omega) (up _ _ hld),New.of_le fun q hq=>hN1.le q (by rwa [jz_] at hq),fun j hj=> ?_⟩ rfl rfl
  ·show va_ vs q0_ o2 (wM_ (fun j=>if j=k then br else d j) (k+1))
   unfold wM_
   rw[Z9_ (d:=d) fun j hj=>if_neg (by omega),if_pos rfl]
   exact hm2
  ·show Sx.look (setB L1 bm o2) (if j=k then br else d j)=some (xb_ (if j=k then bs else s j) (if j=k then bt else t j) (.slice none 0 0))∧mtM (setB L1 bm o2) (if j=k then bs else s j)∧mtM (setB L1 bm o2) (if j=k then bt else t j)∧(if j=k then bs else s j)< (if j=k then bt else t j)∧(if j=k then bt else t j)< (if j=k then br else d j)∧bd< (if j=k then bs else s j)∧ ∀i,i<j→(if i=k then br else d i)< (if j=k then bs else s j)
   by_cases e:j=k
   ·subst e
    simp only[if_pos]
    refine⟨ne _ _ (by omega) lr,⟨os,ne _ _ (by omega) ls,hMs⟩,⟨ot,ne _ _ (by omega) lt,hMt⟩,c1,c2,c3,fun i hi=> ?_⟩
    rw[if_neg (by omega)];exact c4 i hi
   ·simp only[if_neg e]
    have hj':j<k:=by have:j<k+1:=hj;omega
    obtain⟨q1,⟨oo,q2,q3⟩,⟨oo2,q4,q5⟩,q6,q7,q8,q9⟩:=hall j hj'
    refine⟨ne _ _ (by omega) (up _ _ q1),⟨oo,ne _ _ (by omega) (up _ _ q2),q3⟩,⟨oo2,ne _ _ (by omega) (up _ _ q4),q5⟩,q6,q7,q8,fun i hi=> ?_⟩
    rw[if_neg (by omega)];exact q9 i hi
 ·obtain rfl:k=3:=by omega
  have d1:decide (((3:Nat):Int)<3)=false:=rfl
  first|with_reducible refine ks [] (And.intro @x9_ @d1) ?_|refine kp (And.intro @x9_ @d1) ?_
  refine⟨_,(ke @x9_), ?_⟩
  obtain⟨a1,a2,a3,a4,a5,a6,a7⟩:=hall 0 (by omega)
  obtain⟨b1,b2,b3,b4,b5,b6,b7⟩:=hall 1 (by omega)
  obtain⟨c1,c2,c3,c4,c5,c6,c7⟩:=hall 2 (by omega)
  have b8:=b7 0 (by omega)
  have c8:=c7 1 (by omega)
  refine⟨Ext.of_new hN,⟨bd,bm,d,s,t,fun _=> .slice none 0 0,[]⟩,rfl,hld,⟨o,hlm,hM⟩,fun k hk=>(hall k hk).1,fun k hk=> ?_,fun k hk=> ?_,fun k hk=>⟨[],rfl,Gr.nl,fun i hi=>absurd hi (Nat.not_lt_zero _)⟩,fun n hn=>absurd hn (Nat.not_lt_zero _),rfl,List.nodup_nil, ?_, ?_,fun k hk=> ?_,fun i j hi hj hij b hb=>(by cases hb), ?_⟩
  ·obtain⟨x,y,z⟩:=(hall k hk).2.1
   exact⟨x,[],y,z,List.Perm.nil⟩
  ·obtain⟨x,y,z⟩:=(hall k hk).2.2.1
   exact⟨x,[],y,z,List.Perm.nil⟩
  ·show [s 0,s 1,s 2,t 0,t 1,t 2].Nodup
   simp only[List.nodup_cons,List.mem_cons,List.not_mem_nil,not_or,or_false,List.nodup_nil,and_true,not_false_eq_true]
   refine⟨⟨?_, ?_, ?_, ?_, ?_⟩,⟨?_, ?_, ?_, ?_⟩,⟨?_, ?_, ?_⟩,⟨?_, ?_⟩, ?_⟩<;>omega
  ·show [d 0,d 1,d 2].Nodup
   simp only[List.nodup_cons,List.mem_cons,List.not_mem_nil,not_or,or_false,List.nodup_nil,and_true,not_false_eq_true]
   refine⟨⟨?_, ?_⟩, ?_⟩<;>omega
  ·have:=(hall k hk).2.2.2
   show bm≠s k∧bm≠t k
   omega
  ·exact⟨fun _ _=>List.Pairwise.nil,fun _ _=>List.Pairwise.nil,fun _ _ p hp=>(by cases hp),fun _ _ p hp=>(by cases hp),fun _ _ c hc=>(by cases hc),fun f hf=>(by cases hf),⟨show(-9223372036854775808:Int)≤0 by decide,show(0:Int)<9223372036854775808 by decide,fun _=>show(0:Int)≤0 by decide⟩,hq⟩
end Go.Proofs
end
section
open Go Go.Proofs Go.Sx Go.StP
namespace Go.Proofs
set_option maxRecDepth 10000
set_option maxHeartbeats 400000
set_option linter.unusedSimpArgs false
structure FiL where
 dir:List UInt8
 name:List UInt8
 data:List UInt8
end Go.Proofs
end
section
open Go Go.Proofs Go.Sx Go.StP
namespace Go.Proofs
set_option maxRecDepth 10000
set_option maxHeartbeats 400000
set_option linter.unusedSimpArgs false
set_option linter.defProp false
end Go.Proofs
end
section
namespace Go.Proofs
open Go Go.Sx Go.StP Go.Shelf
set_option maxRecDepth 100000
def Tryz.keysL_ren:Go.Shelf.Ren:=⟨fun|7=>163|10=>215|n=>n,fun|23=>173|26=>9|3=>178|28=>278|0=>0|27=>277|33=>188|4=>4|n=>n,fun|n=>n⟩
theorem Tryz.keysL:Go.Proofs.SlLaysZ.n7 Tryz.prog Tryz.keysL_ren:={
 mixed:=by kernel_rfl
 f7:=⟨Tryz.f163.name,by decide,Tryz.func163.trans (congrArg some (by kernel_rfl))⟩
 f10:=⟨Tryz.f215.name,by decide,Tryz.func215.trans (congrArg some (by kernel_rfl))⟩
 t0:=Tryz.underlying0
 a0:=Tryz.isAgg0
 z0:=Tryz.sizeOf0
 v0:=Tryz.zeroValue0
 t4:=Tryz.underlying4
 a4:=Tryz.isAgg4
 z4:=Tryz.sizeOf4
 v4:=Tryz.zeroValue4
 t23:=Tryz.underlying173
 a23:=Tryz.isAgg173
 z23:=Tryz.sizeOf173
 v23:=Tryz.zeroValue173
 t26:=Tryz.underlying9
 a26:=Tryz.isAgg9
 z26:=Tryz.sizeOf9
 v26:=Tryz.zeroValue9
 t27:=Tryz.underlying277
 a27:=Tryz.isAgg277
 z27:=Tryz.sizeOf277
 v27:=Tryz.zeroValue277
 t28:=Tryz.underlying278
 a28:=Tryz.isAgg278
 z28:=Tryz.sizeOf278
 v28:=Tryz.zeroValue278
 t33:=Tryz.underlying188
 a33:=Tryz.isAgg188
 z33:=Tryz.sizeOf188
 v33:=Tryz.zeroValue188}
def Tryz.sortedL_ren:Go.Shelf.Ren:=⟨fun|6=>162|8=>213|9=>214|11=>251|13=>212|12=>252|23=>249|24=>250|14=>286|15=>287|16=>288|17=>289|18=>290|19=>291|20=>292|21=>293|22=>294|25=>311|26=>282|27=>283|28=>312|29=>313|30=>190|31=>321|n=>n,fun|26=>9|28=>278|24=>179|0=>0|3=>3|37=>253|48=>250|50=>296|4=>4|40=>352|39=>351|45=>356|5=>5|9=>9|51=>382|55=>386|57=>403|58=>404|33=>188|n=>n,fun|n=>n⟩
theorem Tryz.sortedL:Go.Proofs.SlLaysZ.n6 Tryz.prog Tryz.sortedL_ren:={
 mixed:=by kernel_rfl
 f6:=⟨Tryz.f162.name,by decide,Tryz.func162.trans (congrArg some (by kernel_rfl))⟩
 f8:=⟨Tryz.f213.name,by decide,Tryz.func213.trans (congrArg some (by kernel_rfl))⟩
 f11:=⟨Tryz.f251.name,by decide,Tryz.func251.trans (congrArg some (by kernel_rfl))⟩
 t0:=Tryz.underlying0
 a0:=Tryz.isAgg0
 z0:=Tryz.sizeOf0
 v0:=Tryz.zeroValue0
 t24:=Tryz.underlying179
 a24:=Tryz.isAgg179
 z24:=Tryz.sizeOf179
 v24:=Tryz.zeroValue179
 t26:=Tryz.underlying9
 a26:=Tryz.isAgg9
 z26:=Tryz.sizeOf9
 v26:=Tryz.zeroValue9
 t28:=Tryz.underlying278
 a28:=Tryz.isAgg278
 z28:=Tryz.sizeOf278
 v28:=Tryz.zeroValue278
 i26:=by kernel_rfl}
def Tryz.sortL_ren:Go.Shelf.Ren:=⟨fun|6=>214|8=>212|9=>252|19=>249|20=>250|21=>286|22=>287|23=>288|24=>289|25=>290|26=>291|27=>292|28=>293|29=>294|36=>311|31=>282|32=>283|37=>312|38=>313|39=>190|41=>321|n=>n,fun|27=>179|29=>9|3=>3|32=>253|26=>179|0=>0|44=>250|46=>296|4=>4|36=>352|35=>351|41=>356|5=>5|9=>9|53=>382|57=>386|63=>403|64=>404|n=>n,fun|n=>n⟩
theorem Tryz.sortL:Go.Proofs.SlLaysM.n6 Tryz.prog Tryz.sortL_ren:={
 mixed:=by kernel_rfl
 f6:=⟨Tryz.f214.name,by decide,Tryz.func214.trans (congrArg some (by kernel_rfl))⟩
 f8:=Tryz.func212.trans (congrArg some (by kernel_rfl))
 f9:=⟨Tryz.f252.name,by decide,Tryz.func252.trans (congrArg some (by kernel_rfl))⟩
 f19:=Tryz.func249.trans (congrArg some (by kernel_rfl))
 f20:=Tryz.func250.trans (congrArg some (by kernel_rfl))
 f21:=⟨Tryz.f286.name,by decide,Tryz.func286.trans (congrArg some (by kernel_rfl))⟩
 f22:=⟨Tryz.f287.name,by decide,Tryz.func287.trans (congrArg some (by kernel_rfl))⟩
 f23:=⟨Tryz.f288.name,by decide,Tryz.func288.trans (congrArg some (by kernel_rfl))⟩
 f24:=⟨Tryz.f289.name,by decide,Tryz.func289.trans (congrArg some (by kernel_rfl))⟩
 f25:=⟨Tryz.f290.name,by decide,Tryz.func290.trans (congrArg some (by kernel_rfl))⟩
 f26:=⟨Tryz.f291.name,by decide,Tryz.func291.trans (congrArg some (by kernel_rfl))⟩
 f27:=⟨Tryz.f292.name,by decide,Tryz.func292.trans (congrArg some (by kernel_rfl))⟩
 f28:=⟨Tryz.f293.name,by decide,Tryz.func293.trans (congrArg some (by kernel_rfl))⟩
 f29:=⟨Tryz.f294.name,by decide,Tryz.func294.trans (congrArg some (by kernel_rfl))⟩
 f31:=Tryz.func282.trans (congrArg some (by kernel_rfl))
 f32:=Tryz.func283.trans (congrArg some (by kernel_rfl))
 f36:=⟨Tryz.f311.name,by decide,Tryz.func311.trans (congrArg some (by kernel_rfl))⟩
 f37:=⟨Tryz.f312.name,by decide,Tryz.func312.trans (congrArg some (by kernel_rfl))⟩
 f38:=⟨Tryz.f313.name,by decide,Tryz.func313.trans (congrArg some (by kernel_rfl))⟩
 f39:=⟨Tryz.f190.name,by decide,Tryz.func190.trans (congrArg some (by kernel_rfl))⟩
 f41:=⟨Tryz.f321.name,by decide,Tryz.func321.trans (congrArg some (by kernel_rfl))⟩
 t0:=Tryz.underlying0
 a0:=Tryz.isAgg0
 z0:=Tryz.sizeOf0
 v0:=Tryz.zeroValue0
 t3:=Tryz.underlying3
 a3:=Tryz.isAgg3
 z3:=Tryz.sizeOf3
 v3:=Tryz.zeroValue3
 t4:=Tryz.underlying4
 a4:=Tryz.isAgg4
 z4:=Tryz.sizeOf4
 v4:=Tryz.zeroValue4
 t5:=Tryz.underlying5
 a5:=Tryz.isAgg5
 z5:=Tryz.sizeOf5
 v5:=Tryz.zeroValue5
 t9:=Tryz.underlying9
 a9:=Tryz.isAgg9
 z9:=Tryz.sizeOf9
 v9:=Tryz.zeroValue9
 t26:=Tryz.underlying179
 a26:=Tryz.isAgg179
 z26:=Tryz.sizeOf179
 v26:=Tryz.zeroValue179
 t27:=Tryz.underlying179
 a27:=Tryz.isAgg179
 z27:=Tryz.sizeOf179
 v27:=Tryz.zeroValue179
 t29:=Tryz.underlying9
 a29:=Tryz.isAgg9
 z29:=Tryz.sizeOf9
 v29:=Tryz.zeroValue9
 t32:=Tryz.underlying253
 a32:=Tryz.isAgg253
 z32:=Tryz.sizeOf253
 v32:=Tryz.zeroValue253
 t35:=Tryz.underlying351
 a35:=Tryz.isAgg351
 z35:=Tryz.sizeOf351
 v35:=Tryz.zeroValue351
 t36:=Tryz.underlying352
 a36:=Tryz.isAgg352
 z36:=Tryz.sizeOf352
 v36:=Tryz.zeroValue352
 t41:=Tryz.underlying356
 a41:=Tryz.isAgg356
 z41:=Tryz.sizeOf356
 v41:=Tryz.zeroValue356
 t44:=Tryz.underlying250
 a44:=Tryz.isAgg250
 z44:=Tryz.sizeOf250
 v44:=Tryz.zeroValue250
 t46:=Tryz.underlying296
 a46:=Tryz.isAgg296
 z46:=Tryz.sizeOf296
 v46:=Tryz.zeroValue296
 t53:=Tryz.underlying382
 a53:=Tryz.isAgg382
 z53:=Tryz.sizeOf382
 v53:=Tryz.zeroValue382
 t57:=Tryz.underlying386
 a57:=Tryz.isAgg386
 z57:=Tryz.sizeOf386
 v57:=Tryz.zeroValue386
 t63:=Tryz.underlying403
 a63:=Tryz.isAgg403
 z63:=Tryz.sizeOf403
 v63:=Tryz.zeroValue403
 t64:=Tryz.underlying404
 a64:=Tryz.isAgg404
 z64:=Tryz.sizeOf404
 v64:=Tryz.zeroValue404}
open Go.RowKit Go.Maps Go.Sort
theorem akD_ (m:Nat):AnyZ.SortsIn Tryz.prog Tryz.sortedL_ren Fence.wide m:=
 ⟨fun blk off cap ss W hH hblk hsz=>callsIn_wide.2 (AnyM.slices_Sort_string Tryz.sortL blk off cap ss W hH hblk hsz),
 fun p cap W=>callsIn_wide.2 (AnyM.slices_Sort_string_none Tryz.sortL p cap W)⟩
theorem ac0_ {a b:List UInt8} (h:ltB a b=true):leB a b=true:=by
 rw[J1_,decide_eq_true_eq] at h
 simp only[leB,decide_eq_true_eq]
 exact List.le_of_lt h
theorem aeX_ {l:NmL} (h:SrtN l) {ss:List (List UInt8)} (hp:ss.Perm (l.map Prod.fst)):ss.mergeSort (fun x y=>decide (x≤y))=l.map Prod.fst:=by
 show ss.mergeSort leB=_
 rw[mergeSort_of_perm hp]
 refine List.mergeSort_of_pairwise ?_
 exact List.pairwise_map.2 (h.imp fun h=>ac0_ h)
theorem akS_ {W:World} {base n:Nat} {T:TypeId} {v:Value} {xs:List Value} (h:W.ownsRow base T 1 v n xs): ∃D:za_,(∀p,p∈D→W.heap[p.1]? =some p.2∧base≤p.1)∧(keys D).Nodup∧Gr D T 1 v n xs:=by
 obtain⟨hl,h⟩:=h
 rcases h with⟨rfl,rfl⟩ | ⟨g,cap,cur,rfl,hb,hg,hc,hm,hs,ht⟩
 ·obtain rfl:xs= []:=List.eq_nil_of_length_eq_zero (by simpa using hl)
  exact⟨[],fun p hp=>(by cases hp),List.nodup_nil,Gr.nl⟩
 ·refine⟨[(g, .cells cur T (0,0))], ?_,by simp[keys], ?_⟩
  ·intro p hp
   simp only[List.mem_singleton] at hp
   subst hp
   exact⟨hg,hb⟩
  ·by_cases h0:0<cap
   ·refine .inl (Buf.at_ (rest:=cur.toList.drop (n*1)) ?_ hl ?_ hc h0)
    ·rw[←ht,List.take_append_drop]
     simp[Sx.look]
    ·rw[List.length_drop,Array.length_toList,hs];omega
   ·obtain rfl:cap=0:=by omega
    obtain rfl:n=0:=by omega
    refine .inr ⟨rfl,List.eq_nil_of_length_eq_zero (by simpa using hl),g,rfl, ?_⟩
    have:cur= #[]:=Array.eq_empty_of_size_eq_zero (by simpa using hs)
    simp[Sx.look,this]
def RN (_:Value):Option (DataW Unit×List MemPlace):=some (.nil,[])
theorem aih_ {w:World} {b:Nat} {o:Obj} {m:List (List UInt8×Option Nat)} (ho:w.heap[b]? =some o) (hM:va_ vs q0_ o m) (hn: (m.map Prod.fst).Nodup) (hk: ∀p,p∈m→p.1.length≤1000000) (hs:m.length≤1000000):
  ∃D0:DataW Unit,w.ownsMap Tryz.prog 9 RN b m.length D0∧Maps.size D0≤1000000∧(strKeys D0).Perm (m.map Prod.fst):=by
 obtain⟨es,clock,rfl,he,hb⟩:=hM
 have hlen:es.size=m.length:=by have:=congrArg List.length he;simpa using this
 have hkey:es.toList.map (·.key)=m.map fun p=>vs p.1:=by
  have:=congrArg (List.map Prod.fst) he
  simpa [xm_,Function.comp_def] using this
 have hrd: ∀x,x∈es.toList→ ∃s:List UInt8,x.key=vs s∧s.length≤1000000:=by
  intro x hx
  have:x.key∈m.map fun p=>vs p.1:=by rw[←hkey];exact List.mem_map.2 ⟨x,hx,rfl⟩
  obtain⟨p,hp,e⟩:=List.mem_map.1 this
  exact⟨p.1,e.symm,hk p hp⟩
 have hrd2: ∀x,x∈es.toList→ ∀s:List UInt8,x.key=vs s→s.length≤1000000→WideElems.rd Tryz.prog 9 RN x=some (.string s, .nil):=by
  intro x hx s hs hl
  have hL:s.length≤maxLen:=Nat.le_trans hl (by decide)
  have hL2: (ByteArray.mk s.toArray).size≤maxLen:=hL
  simp[WideElems.rd,keyOf,Tryz.underlying9,mapKey,hs,RN,vs,hL2]
 have hbo:=List.pairwise_append.1 hb
 refine⟨_,⟨es,clock,ho,⟨?_,⟨?_, ?_, ?_⟩, ?_⟩,by omega,rfl⟩, ?_, ?_⟩
 ·rw[hlen];exact Nat.le_trans hs (by decide)
 ·intro x hx
  exact hbo.2.2 x.born (List.mem_map.2 ⟨x,hx,rfl⟩) clock (by simp)
 ·exact hbo.1.imp fun h=>Nat.ne_of_lt h
 ·rw[hkey]
  have: (m.map Prod.fst).map vs=m.map fun p=>vs p.1:=by simp[Function.comp_def]
  rw[←this]
  refine List.pairwise_map.2 (hn.imp fun h e=>h ?_)
  simpa [vs] using e
 ·intro x hx
  obtain⟨s,e,hl⟩:=hrd x hx
  exact⟨_,hrd2 x hx s e hl⟩
 ·rw[Maps.size_eq,(WideShapes.sorted_perm _).length_eq,List.length_map,Array.length_toList,hlen];exact hs
 ·show(List.map (fun p:Lit×DataW Unit=>strOf p.1) _).Perm _
  refine((WideShapes.sorted_perm _).map _).trans (List.Perm.of_eq ?_)
  rw[List.map_map]
  refine List.map_congr_left ?_|>.trans (?_:es.toList.map (fun x=>match x.key with| .string s=>s.data.toList|_=> [])=_)
  ·intro x hx
   obtain⟨s,e,hl⟩:=hrd x hx
   simp only[Function.comp]
   rw[WideElems.rg_of (hrd2 x hx s e hl),e]
   rfl
  ·have:es.toList.map (fun x=>match x.key with| .string s=>s.data.toList|_=> [])=(es.toList.map (·.key)).map (fun k=>match k with| .string s=>s.data.toList|_=> []):=by rw[List.map_map];rfl
   rw[this,hkey,List.map_map]
   rfl
theorem K3_ (X:za_) (G:DkG) (S:DiskL) (k c:Nat) (w:World) (hP:DkP X G S) (hX: ∀b o,Sx.look X b=some o→w.heap[b]? =some o) (hk:k<3) (hs: (S.dir k).seen.length≤1000000) (hl: ∀p,p∈ (S.dir k).seen→p.1.length≤1000000)
  (hc:w.heap[c]? =some (.cells #[vm (G.s k)] 173 (0,0))):
  Rets Tryz.prog 162 #[.func (.func 215) #[] #[vp c 0]] w (XS w [] (fun v D=>GrI D 9 1 v (S.dir k).seen.length ((S.dir k).seen.map fun p=>vs p.1))):=by
 obtain⟨o,m,h1,h2,h3⟩:=hP.seen k hk
 have ho:=hX _ _ h1
 have hlen:m.length=(S.dir k).seen.length:=by have:=h3.length_eq;simpa using this
 have hmk: ∀p,p∈m→p.1.length≤1000000:=by
  intro p hp
  have:=h3.mem_iff.1 hp
  obtain⟨q,hq,e⟩:=List.mem_map.1 this
  rw[←e];exact hl q hq
 obtain⟨D0,hown,hsz,hperm⟩:=aih_ ho h2 (h3.keys (hP.ok.seen k hk).nodup) hmk (by omega)
 have hcl:=(Array.getElem?_eq_some_iff.1 hc).1
 have hseq:SeqGives Fence.wide 2 Tryz.prog 215 #[.pointer (some ⟨c,0,none⟩)] encStr (fun ss=>ss.Perm (strKeys D0)) (Maps.size D0) w:=
  AnyZ.keys_gives (ρ:=Tryz.keysL_ren) {Tryz.keysL with} Fence.wide _ trivial rfl (by omega) c (G.s k) m.length D0 _ hcl (by simp[World.cell?,hc,vm]) hown
 have h:=AnyZ.sorted_in Tryz.sortedL Fence.wide 5 trivial trivial trivial trivial rfl (by omega) (akD_ _) (enters_of Tryz.func214 (by kernel_rfl) rfl) 215 #[.pointer (some ⟨c,0,none⟩)] trivial (enters_of Tryz.func215 (by kernel_rfl) rfl) _ (Maps.size D0) (Nat.le_trans hsz (by decide)) (by omega) w hseq
 refine Calls.mono (callsIn_wide.1 h) ?_
 rintro e w' ⟨v,ss,rfl,hS,hrow,-,hb⟩
 obtain⟨D,hD,hDn,hG⟩:=akS_ hrow
 have hss:ss.mergeSort (fun x y=>decide (x≤y))=(S.dir k).seen.map Prod.fst:=by
  refine aeX_ (hP.ok.seen k hk) ((hS.trans hperm).trans ?_)
  have:=h3.map Prod.fst
  refine this.trans (List.Perm.of_eq ?_)
  rw[List.map_map];rfl
 have hsl:ss.length=(S.dir k).seen.length:=by
  have:=congrArg List.length hss
  simpa using this
 refine⟨v,D,rfl,⟨fun b o hm=>(hD _ hm).1,hDn,fun b hb' _=>hb.block b hb',hb.size,hb.tape,hb.os,hb.output⟩,⟨fun b hb'=> ?_,fun b hb'=>(by cases hb')⟩,⟨D,fun _ h=>h, ?_⟩⟩
 ·obtain⟨p,hp,rfl⟩:=List.mem_map.1 hb'
  exact .inr (hD p hp).2
 rw[hss,hsl] at hG
 have: ((S.dir k).seen.map Prod.fst).map encStr=(S.dir k).seen.map fun p=>vs p.1:=by rw[List.map_map];rfl
 rw[this] at hG
 exact hG
end Go.Proofs
end
section
open Go Go.Proofs Go.Sx Go.StP
namespace Go.Proofs
set_option maxRecDepth 10000
set_option maxHeartbeats 400000
set_option linter.unusedSimpArgs false
theorem acc_ (b:Nat) (w:World):
  Rets Tryz.prog 163 #[vm b] w (XS w [] (fun v' D=> ∃b1,v'= .func (.func 215) #[] #[vp b1 0]∧D= [(b1, .cells #[vm b] 173 (0,0))])):=by
 refine Rets.enter Tryz.func163 rfl (rs:= [.tmp 2]) Tryz.results163 Tryz.ntmps163 ?_
 refine kf ?_
 first|with_reducible refine ks [] @Nat.add_zero ?_|refine kp @Nat.add_zero ?_
 refine Ow.box rfl rfl fun b1 hb1 hw1=> ?_
 simp only[qf_,z5_,vm,List.nil_append]
 refine ko @Nat.add_zero ?_
 refine⟨_,(ke @Nat.add_zero), ?_⟩
 exact⟨⟨fun c hc=>(by simp only[keys,List.map_cons,List.map_nil,List.mem_singleton] at hc;exact .inr (hc▸hw1)),fun c hc=>(by cases hc)⟩,b1,by simp[xq_,ev,ve_],rfl⟩
def DkB (S:DiskL):Prop:= ∀k,k<3→(S.dir k).seen.length≤1000000∧ ∀p,p∈ (S.dir k).seen→p.1.length≤1000000
def ael_ (S:DiskL) (dir:List UInt8):List (List UInt8):=if jJ_ S dir []≠0 then [] else(S.dir ((qi_ dir).getD 0)).seen.map Prod.fst
set_option linter.defProp false
def w5_:=And.intro (And.intro (And.intro (@zw_) (@zv_)) (And.intro (@qE_) (@q2_))) (And.intro (And.intro (@qW_) (@qY_)) (And.intro (@Sx.tup2_0) (And.intro (@Sx.tup2_1) (@J5_))))
theorem acI_ (w:World) (G:DkG) (S:DiskL) (dir:List UInt8) (hD:DkW w G S) (hB:DkB S):
  Rets Tryz.prog 93 #[vp G.bd 0,vs dir] w (XS w [] (fun v D=>GrI D 9 1 v (ael_ S dir).length ((ael_ S dir).map vs))):=by
 have hD':=hD
 obtain⟨X,hX,hP⟩:=hD
 refine Rets.enter Tryz.func93 rfl (rs:= [.tmp 4]) Tryz.results93 Tryz.ntmps93 ?_
 refine kf ?_
 first|with_reducible refine ks [] @w5_ ?_|refine kp @w5_ ?_
 have hN1:New w.heap.size ([]:za_):=trivial
 refine Ow.callC rfl rfl Tryz.call151 (fun w' hw'=>Rets.toX (jp_ w' G S dir (.slice none 0 0) [] (hD'.old hw' hN1) (SlV.nil w') (by simp) (fun s hs=>by cases hs))) (fun B2 v2 D2 hA2 hB2 hN2 hS2=> ?_)
 obtain⟨rfl,hS2⟩:=hS2
 rw[List.append_nil]
 unfold ael_
 rcases hS2 with⟨he,rfl⟩ | ⟨he,k,hk,rfl⟩
 ·rw[if_pos he]
  have e1:=jL_ he
  refine ko @w5_ ?_
  first|with_reducible refine ks [] (And.intro @w5_ @e1) ?_|refine kp (And.intro @w5_ @e1) ?_
  refine⟨_,(ke @w5_), ?_⟩
  exact⟨Ext.refl w [],Gr.nl.i fun _ h=>h⟩
 ·rw[if_neg (by rw[he];simp),hk]
  have hk3:=(xv_ hk).1
  have hdr:=hX _ _ (hP.dir k hk3)
  have e1: ((0:Int) !=0)=false:=rfl
  refine ko @w5_ ?_
  first|with_reducible refine ks [] (And.intro @w5_ (And.intro @e1 (@hdr))) ?_|refine kp (And.intro @w5_ (And.intro @e1 (@hdr))) ?_
  refine Ow.callC rfl rfl Tryz.call163 (fun w' hw'=>acc_ (G.s k) w') (fun B3 v3 D3 hA3 hB3 hN3 hS3=> ?_)
  obtain⟨b1,rfl,rfl⟩:=hS3
  rw[List.nil_append]
  have hN3':=hN3.mono hB3
  refine ko @w5_ ?_
  refine Ow.callC rfl rfl Tryz.call162 (fun w' hw'=>K3_ X G S k b1 w' hP (fun b o h=>(hw'.old b (Array.getElem?_eq_some_iff.1 (hX b o h)).1 (hN3'.not (Array.getElem?_eq_some_iff.1 (hX b o h)).1)).trans (hX b o h)) hk3 (hB k hk3).1 (hB k hk3).2 (hw'.has _ _ List.mem_cons_self)) (fun B4 v4 D4 hA4 hB4 hN4 hS4=> ?_)
  refine ko @w5_ ?_
  refine⟨_,(ke @w5_), ?_⟩
  refine⟨Ext.of_new (hN3'.app (hN4.mono hB4)), ?_⟩
  rw[List.length_map,List.map_map]
  exact hS4.mono fun p hp=>List.mem_cons_of_mem _ hp
end Go.Proofs
end
section
open Go Go.Proofs Go.Sx Go.StP
namespace Go.Proofs
set_option maxRecDepth 10000
set_option maxHeartbeats 400000
set_option linter.unusedSimpArgs false
theorem ad3_ {S:DiskL} {k:Nat} (hk:k<3):ael_ S (K5_ k)=(if S.off=true then [] else(S.dir k).seen).map Prod.fst:=by
 unfold ael_ jJ_
 rw[xR_ hk]
 cases S.off<;>simp
theorem adR_ (l:List (List UInt8)): (l.map strC).flatten=l.map vs:=by
 induction l with
 |nil=>rfl
 |cons x l ih=>simp[strC,ih]
set_option linter.defProp false
end Go.Proofs
end
section
open Go Go.Proofs Go.Sx Go.StP
namespace Go.Proofs
set_option maxRecDepth 10000
set_option maxHeartbeats 400000
set_option linter.unusedSimpArgs false
theorem amc_ (b:Nat):qy_ Tryz.prog .eql 173 (vm b) (.map none)=some (.bool false):=by
 simp[qy_,eqX,qk_,qp_,Tryz.underlying173,vm]
theorem aaD_ (b:Nat) (o:Obj) (m:List (List UInt8×Option Nat)) (w:World) (ho:w.heap[b]? =some o) (hm:va_ vs q0_ o m):
  Rets Tryz.prog 92 #[vm b] w (XS w [] (fun v D=> ∃c o',v=vm c∧D= [(c,o')]∧va_ vs q0_ o' m)):=by
 refine Rets.enterX Tryz.func92 rfl (rs:= [.tmp 2]) Tryz.results92 Tryz.ntmps92 (fun p hp=>by cases hp) (by simp[keys]) ?_
 refine kf ?_
 have e1:=amc_ b
 first|with_reducible refine ks [] @e1 ?_|refine kp @e1 ?_
 refine Ow.ifaceMap rfl Tryz.underlying173 rfl ?_
 refine Ow.cloneMap (encK:=vs) (encV:=q0_) rfl rfl (fun a w=>run_callFunc_extern Tryz.func161 (by kernel_rfl) (by kernel_rfl) (by kernel_rfl) (e:=Extern.MapsClone.clone) (by kernel_rfl) #[a] w) rfl (by rw[q3_ (by simp[keys])];exact ho) hm fun c o' hc hwc hm'=> ?_
 refine Ow.assertMap rfl Tryz.underlying173 rfl ?_
 refine ko @Nat.add_zero ?_
 refine⟨_,(ke @Nat.add_zero), ?_⟩
 exact⟨(Ext.refl w []).app hwc,c,o',rfl,rfl,hm'⟩
def u16C (x:UInt16):List Value:= [v16 x]
theorem ag8_ (x:UInt16): (u16C x).length=1:=rfl
abbrev ajx_ (w:World) (v:Value) (l:List UInt16):Prop:=SlV 1 u16C 0 w v l
def PkS (w:World) (v:Value) (l:List UInt16):Prop:=ajx_ w v l∨(l= []∧ ∃a c,v= .slice (some a) 0 c)
theorem PkS.len {w:World} {v:Value} {l:List UInt16} (h:PkS w v l) (x:Bool×Nat):XU_ (.sl x) v=some (vi l.length):=by
 rcases h with h| ⟨rfl,a,c,rfl⟩
 ·exact SlV.len h x
 ·rfl
theorem PkS.cell {w:World} {v:Value} {l:List UInt16} (h:PkS w v l):Value.oneCell' v=true∧v.cells= #[v]:=by
 rcases h with⟨b,off,c,arr,E,fz,hr,hc,⟨rfl,-,-⟩ | ⟨rfl,-,-⟩⟩ | ⟨rfl,a,c,rfl⟩
 ·exact⟨rfl,rfl⟩
 ·exact⟨rfl,rfl⟩
 ·exact⟨rfl,rfl⟩
theorem PkS.old {w w':World} {L:za_} {v:Value} {l:List UInt16} (h:PkS w v l) (hw:Hp w L w') (hb:l≠ []→ ∀b,slB v=some b→b∉keys L):PkS w' v l:=by
 by_cases hl:l= []
 ·subst hl
  rcases h with⟨b,off,c,arr,E,fz,hr,hc,⟨rfl,-,-⟩ | ⟨rfl,-,-⟩⟩ |h
  ·exact .inl (SlV.nil w')
  ·exact .inr ⟨rfl,_,_,rfl⟩
  ·exact .inr h
 ·exact .inl ((h.resolve_right fun e=>hl e.1).old hw fun b h1 _=>hb hl b h1)
def PkB (w:World) (X:za_) (l:List UInt16) (v:Value):Prop:=l≠ []→ ∀b,slB v=some b→b<w.heap.size∧b∉keys X
theorem aiS_ {w:World} {v:Value} {l:List UInt16} {b off:Nat} {arr:Array Value} {E:TypeId} {fz:Nat×Nat} (h:RowS 1 u16C 0 w v l b off arr E fz) {k:Nat} (hk:k<l.length) (n:Nat):
  zD_ (some (false,n)) (some (.cells arr E fz)) (off+k)=some (v16 (l.getD k 0)):=by
 have:=h.cell (j:=0) (n:=n) hk (by omega)
 rwa [Nat.mul_one,Nat.add_zero] at this
def kn_ (l:List UInt16) (n:Nat):Nat:=match l with
 | []=>0
 |x::_=>x.toNat% (n+1)
def xt_ (v:Value):Obj:= .cells #[v] 65 (0,0)
theorem abr_ (v:Value) (n:Nat):zD_ (some (false,n)) (some (xt_ v)) 0=some v:=(rfl)
theorem afH_ (v x:Value) (a:Bool) (hx:Value.oneCell' x=true∧x.cells= #[x]):zz_ (some (a,1)) (some (xt_ v)) 0 x=some (xt_ x):=
 qG_ [] [v] [x] [] a _ 65 rfl rfl hx.2 rfl (by simp[hx.1])
theorem ajo_ {m:Nat} {α:Type} {enc:α→List Value} {z:α} {w:World} {v:Value} {l:List α} (h:SlV m enc z w v l):Value.oneCell' v=true∧v.cells= #[v]:=by
 obtain⟨b,off,c,arr,E,fz,hr,hc,⟨rfl,-,-⟩ | ⟨rfl,-,-⟩⟩:=h
 ·exact⟨rfl,rfl⟩
 ·exact⟨rfl,rfl⟩
set_option linter.defProp false
def acK_:=And.intro (@zw_) (And.intro (@zv_) (@abr_))
theorem Xd_ (n:Nat) (b:Nat) (v:Value) (l:List UInt16) (w:World) (hn:n<4611686018427387904) (hv:PkS w v l) (hl:l.length<1000000) (hnb:l≠ []→slB v≠some b) (ho:w.heap[b]? =some (xt_ v)):
  Rets Tryz.prog 91 #[vi n,vp b 0] w (fun r D=> ∃o,D= [(b,o)]∧r=vi (kn_ l n:Nat)∧ ∃v',o=xt_ v'∧(l= []→v'=v)∧(l≠ []→q9_ (.sl (false,1)) v (some (some 1)) none=some v')):=by
 refine Rets.enterM Tryz.func91 rfl (rs:= [.tmp 3]) Tryz.results91 Tryz.ntmps91 ho ?_
 refine kf ?_
 have ln:=hv.len
 cases l with
 |nil=>
  first|with_reducible refine ks [] (And.intro @acK_ @ln) ?_|refine kp (And.intro @acK_ @ln) ?_
  refine⟨_,_,_,(ke @acK_),rfl,trivial, ?_⟩
  exact⟨rfl,v,rfl,fun _=>rfl,fun h=>absurd rfl h⟩
 |cons x l=>
  have hv:ajx_ w v (x::l):=hv.resolve_right fun e=>by cases e.1
  obtain⟨v1,h1,h2,-⟩:=hv.dropE (k:=1) (by simp) false
  have hc1:=ajo_ h2
  have st:=fun a=>afH_ v v1 a hc1
  obtain⟨rb,off,c,arr,E,fz,hr,hc,⟨q1,q2,q3⟩ | ⟨rfl,hb,-⟩⟩:=hv
  ·exact absurd q2 (by simp)
  have hne:rb≠b:=fun e=>hnb (by simp) (by rw[e];rfl)
  have ix:=hr.idx false 0 (by simp)
  have ld:=fun n=>aiS_ hr (k:=0) (by simp) n
  have e0: ((((x::l).length:Nat):Int)==0)=false:=beq_eq_false_iff_ne.2 (by simp;omega)
  have rd:zs_ w [(b,xt_ (vsl rb off (x::l).length c))] rb=some (.cells arr E fz):=by rw[q3_ (by simpa [keys] using hne)];exact hb
  rw[Nat.zero_mul,Nat.add_zero] at ix
  rw[show((1:Nat):Int)=1 from rfl] at h1
  simp only[Nat.add_zero] at ld
  first|with_reducible refine ks [] (And.intro @acK_ (And.intro @ln (And.intro @e0 (And.intro @ix (And.intro @ld (And.intro @rd (And.intro @h1 (@st)))))))) ?_|refine kp (And.intro @acK_ (And.intro @ln (And.intro @e0 (And.intro @ix (And.intro @ld (And.intro @rd (And.intro @h1 (@st)))))))) ?_
  refine⟨_,_,_,(ke @acK_),rfl,trivial, ?_⟩
  refine⟨?_,v1,rfl,fun h=>absurd h (by simp),fun _=>h1⟩
  show vi _=vi _
  congr 1
end Go.Proofs
end
section
open Go Go.Proofs Go.Sx Go.StP
namespace Go.Proofs
set_option maxRecDepth 10000
set_option maxHeartbeats 400000
set_option linter.unusedSimpArgs false
theorem DkP.stl1 {X L:za_} {G:DkG} {S:DiskL} (h:DkP X G S) {k:Nat} (hk:k<3) {l':NmL} (keep: ∀b o,Sx.look X b=some o→b≠G.t k→Sx.look L b=some o) (hs:NmM L G.fb (G.t k) l') (h1:SrtN l') (h3: ∀p,p∈l'→p.2<S.files.length):
  DkP L G (qJ_ S k ⟨(S.dir k).seen,l',(S.dir k).pend⟩):=by
 obtain⟨osk,msk,hosk,hmsk,-⟩:=h.stl k hk
 have hns: ∀b o,Sx.look X b=some o→tyO o≠none→b≠G.t k:=by
  rintro b o hb ht rfl
  rw[hosk] at hb;cases hb;exact ht (qO_ hmsk)
 have K: ∀b o,Sx.look X b=some o→tyO o≠none→Sx.look L b=some o:=fun b o hb h1=>keep b o hb (hns b o hb h1)
 have es: ∀j,(qJ_ S k ⟨(S.dir k).seen,l',(S.dir k).pend⟩).dir j=if j=k then⟨(S.dir k).seen,l',(S.dir k).pend⟩ else S.dir j:=fun _=>rfl
 have e2: ∀j,((qJ_ S k ⟨(S.dir k).seen,l',(S.dir k).pend⟩).dir j).seen=(S.dir j).seen:=fun j=>by
  rw[es];by_cases e:j=k
  ·subst e;rw[if_pos rfl]
  ·rw[if_neg e]
 have e3: ∀j,((qJ_ S k ⟨(S.dir k).seen,l',(S.dir k).pend⟩).dir j).pend=(S.dir j).pend:=fun j=>by
  rw[es];by_cases e:j=k
  ·subst e;rw[if_pos rfl]
  ·rw[if_neg e]
 refine⟨K _ _ h.disk (by simp[tyO,jh_]), ?_,fun j hj=>K _ _ (h.dir j hj) (by simp[tyO,xb_]),fun j hj=> ?_,fun j hj=> ?_,fun j hj=> ?_,fun n hn=>K _ _ (h.file n hn) (by simp[tyO,x2_]),h.len,h.nodf,h.nodm,h.nodd,h.nodb,h.nodp,Qq_ h.ok _ (h.ok.seen k hk) h1 (h.ok.seenN k hk) h3 (h.ok.pendN k hk)⟩
 ·obtain⟨o,h1,h2⟩:=h.dirs
  exact⟨o,keep _ _ h1 (h.nodb k hk).2,h2⟩
 ·rw[e2]
  obtain⟨o,m,h1,h2,h3⟩:=h.seen j hj
  exact⟨o,m,keep _ _ h1 (v1_ h.nodm hj hk).2.2,h2,h3⟩
 ·rw[es]
  by_cases e:j=k
  ·subst e;rw[if_pos rfl];exact hs
  ·rw[if_neg e]
   obtain⟨o,m,h1,h2,h3⟩:=h.stl j hj
   exact⟨o,m,keep _ _ h1 ((v1_ h.nodm hj hk).2.1 e),h2,h3⟩
 ·rw[e3]
  obtain⟨vals,h1,h2,h3⟩:=h.pend j hj
  refine⟨vals,h1,h2.keep fun b o hb ho=> ?_,fun i hi=>(h3 i hi).keep fun b o ho hx=>K b o ho ?_⟩
  ·obtain⟨arr,ha⟩:=w4_ h2 hb
   rw[ho] at ha;cases ha
   exact K _ _ ho (by simp[tyO])
  ·rcases hx with⟨s,rfl⟩ | ⟨a,rfl⟩<;>simp[tyO,kj_,Xq_]
theorem xT_ (S:DiskL) (k:Nat) (d:DirL): (qJ_ S k d).dir k=d:=by
 unfold qJ_;simp
theorem QT_ (S:DiskL) {k j:Nat} (d:DirL) (h:j≠k): (qJ_ S k d).dir j=S.dir j:=by
 unfold qJ_;simp[h]
theorem Xl_ (S:DiskL) (k:Nat) (d d':DirL):qJ_ (qJ_ S k d) k d'=qJ_ S k d':=by
 unfold qJ_
 simp only
 congr 1
 funext j
 by_cases e:j=k
 ·rw[if_pos e,if_pos e]
 ·rw[if_neg e,if_neg e,if_neg e]
def ak0_ (d:DirL):Prop:= ∀i,i<d.pend.length→okC ((d.pend.take i).foldl qV_ d.stl) (d.pend.getD i ky_)
def vc_ (S:DiskL) (k i:Nat):NmL:=((S.dir k).pend.take i).foldl qV_ (S.dir k).stl
def abQ_ (q:DiskL×List UInt16) (k:Nat):DiskL×List UInt16:=
 (qJ_ q.1 k ⟨vc_ q.1 k (kn_ q.2 (q.1.dir k).pend.length),vc_ q.1 k (kn_ q.2 (q.1.dir k).pend.length),[]⟩,q.2.drop 1)
def qq_ (q:DiskL×List UInt16):Nat→DiskL×List UInt16
 |0=>q
 |k+1=>abQ_ (qq_ q k) k
theorem abp_ (l:List UInt16) (n:Nat):kn_ l n≤n:=by
 unfold kn_
 split
 ·exact Nat.zero_le _
 ·have:=Nat.mod_lt ‹UInt16›.toNat (show 0<n+1 by omega)
  omega
theorem acn_ {S:DiskL} {k i:Nat} (h:i< (S.dir k).pend.length):vc_ S k (i+1)=qV_ (vc_ S k i) ((S.dir k).pend.getD i ky_):=by
 unfold vc_
 rw[StP.take_snoc (z:=ky_) h,List.foldl_append];rfl
end Go.Proofs
end
section
open Go Go.Proofs Go.Sx Go.StP
namespace Go.Proofs
set_option maxRecDepth 10000
set_option maxHeartbeats 400000
set_option linter.unusedSimpArgs false
theorem DkP.away {X:za_} {G:DkG} {S:DiskL} (h:DkP X G S) {b:Nat} {v:Value} (hb:Sx.look X b=some (xt_ v)) (x:Obj):DkP (setB X b x) G S where
 disk:=z9_ hb h.disk (by simp[tyO,jh_,xt_])
 dirs:=by obtain⟨o,h1,h2⟩:=h.dirs;exact⟨o,z9_ hb h1 (by rw[qO_ h2];intro e;cases e),h2⟩
 dir k hk':=z9_ hb (h.dir k hk') (by simp[tyO,xb_,xt_])
 seen k hk':=by
  obtain⟨o,m,h1,h2,h3⟩:=h.seen k hk'
  exact⟨o,m,z9_ hb h1 (by rw[qO_ h2];intro e;cases e),h2,h3⟩
 stl k hk':=by
  obtain⟨o,m,h1,h2,h3⟩:=h.stl k hk'
  exact⟨o,m,z9_ hb h1 (by rw[qO_ h2];intro e;cases e),h2,h3⟩
 pend k hk':=by
  obtain⟨vals,h1,h2,h3⟩:=h.pend k hk'
  refine⟨vals,h1,h2.keep fun b o hb' ho=> ?_,fun i hi=>(h3 i hi).keep fun b o ho hx=>z9_ hb ho ?_⟩
  ·obtain⟨arr,ha⟩:=w4_ h2 hb'
   rw[ho] at ha;cases ha
   exact z9_ hb ho (by simp[tyO,xt_])
  ·rcases hx with⟨s,rfl⟩ | ⟨a,rfl⟩<;>simp[tyO,xt_,kj_,Xq_]
 file n hn:=z9_ hb (h.file n hn) (by simp[tyO,x2_,xt_])
 len:=h.len
 nodf:=h.nodf
 nodm:=h.nodm
 nodd:=h.nodd
 nodb:=h.nodb
 nodp:=h.nodp
 ok:=h.ok
theorem VU_ {w:World} {v v':Value} {q:List UInt16} (hv:PkS w v q) (h1:q= []→v'=v) (h2:q≠ []→q9_ (.sl (false,1)) v (some (some 1)) none=some v'):PkS w v' (q.drop 1)∧ ∀ {X:za_},PkB w X q v→PkB w X (q.drop 1) v':=by
 cases q with
 |nil=>rw[h1 rfl];exact⟨hv,fun h=>h⟩
 |cons x l=>
  have hv:ajx_ w v (x::l):=hv.resolve_right fun e=>by cases e.1
  obtain⟨v2,e1,e2,e3⟩:=hv.dropE (k:=1) (by simp) false
  have:=h2 (by simp)
  rw[show((1:Nat):Int)=1 from rfl,this] at e1
  cases e1
  exact⟨.inl e2,fun h _ b hb=>h (by simp) b (e3 b hb)⟩
theorem ai1_ {w w1:World} {L:za_} {T:TypeId} {v:Value} {vals:List Value} (h:Gr L T 1 v vals.length vals) (hw:Hp w L w1) {n:Nat} (hn:n≤vals.length):
  ∃vc rb off arr E fz,q9_ (.sl (false,1)) v none (some (some (n:Int)))=some vc∧RowS 1 (fun v:Value=> [v]) undef w1 vc (vals.take n) rb off arr E fz∧(0<n→Sx.look L rb=some (.cells arr E fz)):=by
 have hfl:vals=(vals.map fun v:Value=> [v]).flatten:=by
  clear h hn
  induction vals with
  |nil=>rfl
  |cons x l ih=>simp[←ih]
 have hsl:SlV 1 (fun v:Value=> [v]) undef w1 v vals:=h.slV hw rfl hfl (fun _=>rfl)
 obtain⟨vc,h1,h2,h3⟩:=hsl.take hn false
 obtain⟨b,off,c,arr,E,fz,hr,hc,⟨q1,q2,q3⟩ | ⟨q1,hb,hs⟩⟩:=h2
 ·refine⟨vc,b,off,arr,E,fz,h1,hr,fun h0=> ?_⟩
  have:=congrArg List.length q2
  rw[List.length_take,List.length_nil,Nat.min_eq_left hn] at this
  omega
 ·refine⟨vc,b,off,arr,E,fz,h1,hr,fun h0=> ?_⟩
  have hk:=h.key (h3 b (by rw[q1];rfl))
  obtain⟨o,ho⟩:=Zr_ hk
  have:=hw.has _ _ (zt_ ho)
  rw[hb] at this
  rw[ho,this]
theorem aiT_ {w:World} {v:Value} {l:List Value} {b off:Nat} {arr:Array Value} {E:TypeId} {fz:Nat×Nat} (h:RowS 1 (fun v:Value=> [v]) undef w v l b off arr E fz) {k:Nat} (hk:k<l.length) (n:Nat):
  zD_ (some (false,n)) (some (.cells arr E fz)) (off+k)=some (l.getD k undef):=by
 have:=h.cell (j:=0) (n:=n) hk (by omega)
 rwa [Nat.mul_one,Nat.add_zero] at this
theorem ade_ (a b y:Nat) (v:Value) (x:Bool):zz_ (some (x,1)) (some (xb_ a b v)) 0 (vm y)=some (xb_ y b v):=qG_ [] [vm a] [vm y] [vm b,v] x _ 175 rfl rfl rfl rfl rfl
theorem WZ_ (S:DiskL) (k:Nat):qJ_ S k (S.dir k)=S:=by
 unfold qJ_
 cases S
 simp only
 congr 1
 funext j
 by_cases e:j=k
 ·subst e;simp
 ·simp[e]
def j2_ (q:DiskL×List UInt16) (p:List UInt8×Nat):DiskL×List UInt16:=
 (WN_ q.1 p.2 ⟨(qo_ q.1 p.2).data.take ((qo_ q.1 p.2).stl+kn_ q.2 ((qo_ q.1 p.2).data.length - (qo_ q.1 p.2).stl)),((qo_ q.1 p.2).data.take ((qo_ q.1 p.2).stl+kn_ q.2 ((qo_ q.1 p.2).data.length - (qo_ q.1 p.2).stl))).length⟩,q.2.drop 1)
def qU_ (q:DiskL×List UInt16):Nat→DiskL×List UInt16
 |0=>q
 |k+1=>(q.1.dir k).seen.foldl j2_ (qU_ q k)
def QD_ (S:DiskL):DiskL:={S with off:=false,fused:=false}
def Z2_ (S:DiskL) (pl:List UInt16):DiskL:=(qU_ (QD_ (qq_ (S,pl) 3).1,(qq_ (S,pl) 3).2) 3).1
theorem JW_ (q:DiskL×List UInt16) (l:NmL): (l.foldl j2_ q).1.dir=q.1.dir:=by
 induction l generalizing q with
 |nil=>rfl
 |cons p l ih=>rw[List.foldl_cons,ih];rfl
theorem xV_ (q:DiskL×List UInt16): ∀k,(qU_ q k).1.dir=q.1.dir
 |0=>rfl
 |k+1=>by
  show(List.foldl j2_ (qU_ q k) _).1.dir=_
  rw[JW_,xV_ q k]
theorem acL_ (q:DiskL×List UInt16) (l:NmL): (l.foldl j2_ q).1.off=q.1.off:=by
 induction l generalizing q with
 |nil=>rfl
 |cons p l ih=>rw[List.foldl_cons,ih];rfl
theorem JR_ (q:DiskL×List UInt16): ∀k,(qU_ q k).1.off=q.1.off
 |0=>rfl
 |k+1=>by
  show(List.foldl j2_ (qU_ q k) _).1.off=_
  rw[acL_,JR_ q k]
structure C3G where
 k:Nat
 L:za_
 v:Value
structure C4G where
 j:Nat
 L:za_
 v:Value
structure C1G where
 k:Nat
 G:DkG
 L:za_
 v:Value
structure C2G where
 j:Nat
 L:za_
theorem JO_ (q:DiskL×List UInt16): ∀ {k j:Nat},k≤j→(qq_ q k).1.dir j=q.1.dir j
 |0,_,_=>rfl
 |k+1,j,h=>by
  show(qJ_ _ k _).dir j=_
  rw[QT_ _ _ (by omega)]
  exact JO_ q (by omega)
set_option linter.defProp false
def qm_:=And.intro (And.intro (And.intro (@zw_) (@zv_)) (And.intro (@qE_) (And.intro (@q2_) (@qW_)))) (And.intro (And.intro (@qY_) (@xY_)) (And.intro (@x1_) (And.intro (@abr_) (@ahB_))))
theorem Wq_ (X:za_) (G0:DkG) (S:DiskL) (v0:Value) (pl:List UInt16) (w:World) (hX: ∀p,p∈X→w.heap[p.1]? =some p.2) (hn: (keys X).Nodup) (hP0:DkP X G0 S) (hGl:Jr_ w) (hgx:0∉keys X) (hB:DkB (qq_ (S,pl) 3).1)
  (hv0:PkS w v0 pl) (hpx:PkB w X pl v0) (hpl:pl.length<1000000) (hpn: ∀k,k<3→ak0_ (S.dir k)∧(S.dir k).pend.length<1000000):
  Rets Tryz.prog 49 #[vp G0.bd 0,v0] w (XS w X (fun _v D=> ∃G',G'.bd=G0.bd∧DkP D G' (Z2_ S pl))):=by
 obtain⟨eg,fzg,hgl⟩:=hGl
 refine Rets.enterX Tryz.func49 rfl (rs:= []) Tryz.results49 Tryz.ntmps49 hX hn ?_
 refine kf ?_
 first|with_reducible refine ks [3] @qm_ ?_|refine kp @qm_ ?_
 refine Ow.box rfl rfl fun bk hbk hwk=> ?_
 simp only[qf_,z5_,qe_,hv0.cell.2]
 refine Ow.permL (M:=X++ [(bk,xt_ v0)]) (List.Perm.refl _) ?_
 refine ko @qm_ ?_
 first|with_reducible refine ks [3] @qm_ ?_|refine kp @qm_ ?_
 simp only[List.map_toArray,List.map_cons,List.map_nil,qf_,z5_,qe_]
 have rdg: ∀L,Ext w X L→zs_ w L 0=some (.cells #[vs xj_,vs vv_,vs jc_] eg fzg):=fun L hE=>hE.old hgl hgx
 have hE0:Ext w X (X++ [(bk,xt_ v0)]):=(Ext.refl w X).app hwk
 have hr0:=rdg _ hE0
 have hl0:Sx.look (X++ [(bk,xt_ v0)]) bk=some (xt_ v0):=qs_ hbk
 have hP1:DkP (X++ [(bk,xt_ v0)]) G0 S:=hP0.mono fun b o h=>zq_ h
 generalize X++ [(bk,xt_ v0)]=L0 at*
 first|with_reducible refine ks [5,8,12,16] (And.intro @qm_ (And.intro @hr0 (@k9_))) ?_|refine kp (And.intro @qm_ (And.intro @hr0 (@k9_))) ?_
 refine Cw.loopG (G:=C1G) [20,21,6,22,23,24,25,26,27,7,28,29,30,31,32,33,34,35,36,37,38,39,40,41,42,43,44,9,45,46,47,48,49,50,51,52,53,54,55,56,57,58,59,60,61,62,63,19] (fun g=> [(19,vi g.k)]) (fun g=>g.L) (fun g=>g.k≤3∧DkP g.L g.G (qq_ (S,pl) g.k).1∧g.G.bd=G0.bd∧Sx.look g.L bk=some (xt_ g.v)∧PkS w g.v (qq_ (S,pl) g.k).2∧PkB w X (qq_ (S,pl) g.k).2 g.v∧Ext w X g.L∧(qq_ (S,pl) g.k).2.length<1000000) (fun g=>3 - g.k) ⟨0,G0,L0,v0⟩ rfl rfl ?_ ?_
 ·exact⟨Nat.zero_le _,hP1,rfl,hl0,hv0,hpx,hE0,hpl⟩
 intro g j hg
 refine kv ?_
 clear hr0 hl0 hP1 hE0
 obtain⟨k,G,L,v⟩:=g
 simp only at hg ⊢
 obtain⟨hk,hP,hbd,hlk,hv,hvb,hE,hpl1⟩:=hg
 rw[←hbd]
 by_cases hlt:k<3
 ·have d1:decide ((k:Int)<3)=true:=decide_eq_true (by omega)
  have ixk:=Qh_ hlt
  obtain⟨om,hom,hM⟩:=hP.dirs
  have hrd:=zb_ (w0:=w) hP.disk
  have hrr:=zb_ (w0:=w) (hP.dir k hlt)
  have hpd:q0_ (some (G.d k))=vp (G.d k) 0:=rfl
  have hdk:=JO_ (S,pl) (Nat.le_refl k)
  simp only at hdk
  obtain⟨vals,hvl,hGr,hF⟩:=hP.pend k hlt
  rw[hdk] at hvl hF
  have hpn1:=(hpn k hlt).2
  have lnp:=hGr.len (false,1)
  first|with_reducible refine ks [] (And.intro @qm_ (And.intro @d1 (And.intro @ixk (@hrd)))) ?_|refine kp (And.intro @qm_ (And.intro @d1 (And.intro @ixk (@hrd)))) ?_
  refine Ow.mapGetG (encK:=vs) (encV:=q0_) (k:=K5_ k) (z:=none) rfl rfl Tryz.underlying166 jW_ zrPd rfl rfl (zb_ hom) hM ?_
  rw[XE_,xR_ hlt]
  show Ow _ _ _ _ _ _ _ _
  refine ko (And.intro @qm_ @hpd) ?_
  first|with_reducible refine ks [] @qm_ ?_|refine kp @qm_ ?_
  refine Cw.regionS [G.d k] [0,1,2,4,5,6,7,13,3,8,9,10,11,12] [] (by kernel_rfl) (by kernel_rfl) (by kernel_rfl) ?_
  simp only[zI_, ↓zr_, ↓zk_, ↓z0_, ↓zZ_,zl_]
  refine kq (And.intro @qm_ (And.intro @hrr (@lnp))) ?_
  refine Ow.soft rfl rfl rfl ?_
  refine Ow.callFnXC (b:=vi vals.length) (ars:= #[vi vals.length,vp bk 0]) rfl (X:=L) (Y:= []) (List.append_nil _).symm rfl rfl rfl rfl Tryz.call91 (fun w' hw' hX' hn'=>Rets.chunk hX' hn' (ze_ hlk) (Xd_ vals.length bk v (qq_ (S,pl) k).2 w' (by omega) (hv.old hw' fun hq b hb=>hE.not (hvb hq b hb).1 (hvb hq b hb).2) hpl1 (fun hq e=>by have:=(hvb hq bk e).1;omega) (hX' _ (zt_ hlk)))) (fun r D hC hS=> ?_)
  obtain⟨o,rfl,rfl,v',rfl,hv1,hv2⟩:=hS
  rw[List.append_nil]
  obtain⟨hvn,hvn2⟩:=VU_ hv hv1 hv2
  have hP1:=hP.away hlk (xt_ v')
  have hE1:=hE.came0 hC
  have hk1: ∀b o,Sx.look L b=some o→tyO o≠some 65→Sx.look (setB L bk (xt_ v')) b=some o:=fun b o hb ht=>z9_ hlk hb ht
  have hlk1:Sx.look (setB L bk (xt_ v')) bk=some (xt_ v'):=zW_ hlk
  have hrr1:=zb_ (w0:=w) (hP1.dir k hlt)
  have hGr1:Gr (setB L bk (xt_ v')) 176 1 (G.p k) vals.length vals:=hGr.keep fun b o hb ho=>by
   obtain⟨arr,ha⟩:=w4_ hGr hb
   rw[ho] at ha;cases ha
   exact hk1 _ _ ho (by simp[tyO])
  have hF1: ∀i,i<vals.length→FnP (setB L bk (xt_ v')) G.fb (vals.getD i undef) ((S.dir k).pend.getD i ky_):=fun i hi=>(hF i hi).keep fun b o ho hx=>hk1 _ _ ho (by rcases hx with⟨s,rfl⟩ | ⟨a,rfl⟩<;>simp[tyO,kj_,Xq_])
  have hple:=abp_ (qq_ (S,pl) k).2 vals.length
  have hcr:qq_ (S,pl) (k+1)=abQ_ (qq_ (S,pl) k) k:=rfl
  unfold abQ_ at hcr
  rw[hdk,←hvl] at hcr
  generalize kn_ (qq_ (S,pl) k).2 vals.length=n at*
  have hbkd:bk≠G.d k:=fun e=>by
   have hdd:=hP1.dir k hlt
   rw[←e,hlk1] at hdd
   simp[xb_,xt_] at hdd
  generalize setB L bk (xt_ v')=L1 at*
  refine Ow.world fun w1 hw1=> ?_
  obtain⟨vc,rb,off,arr,E,fz,hsl,hrw,hlr⟩:=ai1_ hGr1 hw1 hple
  clear hw1
  have lnc:=hrw.len (false,1)
  rw[List.length_take,Nat.min_eq_left hple] at lnc
  with_reducible refine Ow.nil ?_
  refine⟨fun b hb=>by rw[List.mem_singleton] at hb;subst hb;rw[hrr,hrr1], ?_⟩
  refine kq (And.intro @qm_ (And.intro @hsl (@lnc))) ?_
  have hself:qJ_ (qq_ (S,pl) k).1 k ⟨((qq_ (S,pl) k).1.dir k).seen,vc_ (qq_ (S,pl) k).1 k 0,((qq_ (S,pl) k).1.dir k).pend⟩=(qq_ (S,pl) k).1:=WZ_ _ _
  have hfe: ∀j,vc_ (qq_ (S,pl) k).1 k j=vc_ S k j:=fun j=>by unfold vc_;rw[hdk]
  have hq2: (qq_ (S,pl) (k+1)).2=(qq_ (S,pl) k).2.drop 1:=rfl
  generalize qq_ (S,pl) k=q at*
  obtain⟨Sk,pk⟩:=q
  simp only at*
  refine Cw.loopG (G:=C2G) [42,43,44,9,45,46,47,48,49,50,51,41] (fun g=> [(41,vi g.j)]) (fun g=>g.L) (fun g=>g.j≤n∧DkP g.L G (qJ_ Sk k ⟨(Sk.dir k).seen,vc_ Sk k g.j,(Sk.dir k).pend⟩)∧Sx.look g.L bk=some (xt_ v')∧Ext w X g.L∧(∀b o,Sx.look L1 b=some o→b≠G.t k→Sx.look g.L b=some o)) (fun g=>n - g.j) ⟨0,L1⟩ rfl rfl ?_ ?_
  ·exact⟨Nat.zero_le _,by rw[hself];exact hP1,hlk1,hE1,fun _ _ h _=>h⟩
  intro g j hg
  refine kv ?_
  obtain⟨j,L2⟩:=g
  simp only at hg ⊢
  obtain⟨hj,hP2,hlk2,hE2,hkp⟩:=hg
  by_cases hjt:j<n
  ·have d2:decide ((j:Int)< (n:Int))=true:=decide_eq_true (by omega)
   have hjm:j< (vals.take n).length:=by rw[List.length_take,Nat.min_eq_left hple];exact hjt
   have ix3:=hrw.idx false j hjm
   rw[Nat.mul_one] at ix3
   have ld3:=fun n=>aiT_ hrw hjm n
   have hvj: (vals.take n).getD j undef=vals.getD j undef:=by
    rw[List.getD_eq_getElem?_getD,List.getD_eq_getElem?_getD,List.getElem?_take_of_lt hjt]
   rw[hvj] at ld3
   have hpj:j< (S.dir k).pend.length:=by omega
   have htm: ∀ {b:Nat} {o:Obj},Sx.look L1 b=some o→tyO o≠none→b≠G.t k:=by
    intro b o hb ht e
    obtain⟨ot,mt,hot,hmt,-⟩:=hP1.stl k hlt
    rw[e,hot] at hb;cases hb
    exact ht (qO_ hmt)
   have hFj:FnP L2 G.fb (vals.getD j undef) ((S.dir k).pend.getD j ky_):=(hF1 j (by omega)).keep fun b o ho hx=>hkp b o ho (htm ho (by rcases hx with⟨s,rfl⟩ | ⟨a,rfl⟩<;>simp[tyO,kj_,Xq_]))
   have hN2:=hP2.stl k hlt
   have hs2:=hP2.ok.stl k hlt
   have hl2:=hP2.ok.stlN k hlt
   have hp2:=hP2.ok.pendN k hlt
   rw[xT_] at hN2 hs2 hl2 hp2
   have hok:okC (vc_ Sk k j) ((S.dir k).pend.getD j ky_):=by rw[hfe];exact(hpn k hlt).1 j hpj
   obtain⟨fk,cap,hvf,hfk,hcall⟩:=ZC_ hFj hN2 hs2 hok
   rw[hvf] at ld3
   have hlr2:=hkp rb _ (hlr (by omega)) (htm (hlr (by omega)) (by simp[tyO]))
   have rd3:=zb_ (w0:=w) hlr2
   have hrr2:=zb_ (w0:=w) (hP2.dir k hlt)
   have hbk2:=htm hlk1 (by simp[tyO,xt_])
   first|with_reducible refine ks [] (And.intro @qm_ (And.intro @d2 (And.intro @ix3 (And.intro @ld3 (And.intro @rd3 (@hrr2)))))) ?_|refine kp (And.intro @qm_ (And.intro @d2 (And.intro @ix3 (And.intro @ld3 (And.intro @rd3 (@hrr2)))))) ?_
   refine Ow.callFnXC (b:=vm (G.t k)) (cap:=cap) (ars:= #[vm (G.t k)]++cap) rfl (X:=L2) (Y:= []) (List.append_nil _).symm rfl rfl rfl rfl hfk (fun w' hw' hX' hn'=>hcall w' hX' hn') (fun r D hC hS=> ?_)
   rw[List.append_nil]
   obtain⟨rfl,o',hO,hN3⟩:=hS
   have hE3:=hE2.came0 hC
   have hP3:=hP2.stl1 hlt (l':=qV_ (vc_ Sk k j) ((S.dir k).pend.getD j ky_)) (fun b o hb hne=>(hO.rest b hne).trans hb) hN3 (abw_ _ hs2) (abo_ hl2 hok fun h0=>hp2 _ (by show _∈ (Sk.dir k).pend;rw[hdk,List.getD_eq_getElem?_getD,List.getElem?_eq_getElem hpj];exact List.getElem_mem _) h0)
   rw[xT_,Xl_] at hP3
   have hnx:vc_ Sk k (j+1)=qV_ (vc_ Sk k j) ((S.dir k).pend.getD j ky_):=by rw[acn_ (by rw[hdk];exact hpj),hdk]
   refine ko @qm_ ?_
   first|with_reducible refine ks [] @qm_ ?_|refine kp @qm_ ?_
   exact Again.mk ⟨j+1,D⟩ (by show n - (j+1)<n - j;omega) ⟨hjt,by rw[hnx];exact hP3,(hO.rest bk hbk2).trans hlk2,hE3,fun b o hb hne=>(hO.rest b hne).trans (hkp b o hb hne)⟩ rfl rfl
  ·obtain rfl:j=n:=by omega
   have d2:decide ((j:Int)< (j:Int))=false:=decide_eq_false (by omega)
   have hN2:=hP2.stl k hlt
   have hs2:=hP2.ok.stl k hlt
   have hl2:=hP2.ok.stlN k hlt
   rw[xT_] at hN2 hs2 hl2
   obtain⟨ot,mt,hot,hmt,hnp⟩:=hN2
   have hdl2:=hP2.dir k hlt
   have hrr2:=zb_ (w0:=w) hdl2
   first|with_reducible refine ks [13] (And.intro @qm_ (And.intro @d2 (@hrr2))) ?_|refine kp (And.intro @qm_ (And.intro @d2 (@hrr2))) ?_
   refine Ow.callC rfl rfl Tryz.call92 (fun w' hw'=>aaD_ (G.t k) ot mt w' (hw'.has _ _ (zt_ hot)) hmt) (fun B4 v4 D4 hA4 hB4 hN4 hS4=> ?_)
   obtain⟨c,o4,rfl,rfl,hm4⟩:=hS4
   have hbc:jr_ L2 c:=z2_ fun b hb=>by
    have h1:=zi_ hA4 hb
    have h2:=hN4.le c (by simp[keys])
    omega
   have hcn:c∉keys L2:=fun hm=>by have:=zi_ hbc hm;omega
   have hl3:Sx.look (L2++ [(c,o4)]) (G.d k)=some (xb_ (G.s k) (G.t k) (G.p k)):=zq_ hdl2
   have hlc3:Sx.look (L2++ [(c,o4)]) c=some o4:=qs_ hbc
   have hkp3: ∀b o,Sx.look L2 b=some o→Sx.look (L2++ [(c,o4)]) b=some o:=fun b o h=>zq_ h
   have hE3:=hE2.app (o:=o4) (b:=c) (by have:=hN4.le c (by simp[keys]);omega)
   generalize L2++ [(c,o4)]=L3 at*
   have hr3:=zb_ (w0:=w) hl3
   have st0:=fun x=>ade_ (G.s k) (G.t k) c (G.p k) x
   have hcd:c≠G.d k:=fun e=>hcn (by rw[e];exact ze_ hdl2)
   have hl4:Sx.look (setB L3 (G.d k) (xb_ c (G.t k) (G.p k))) (G.d k)=some (xb_ c (G.t k) (G.p k)):=zW_ hl3
   have hlc4:Sx.look (setB L3 (G.d k) (xb_ c (G.t k) (G.p k))) c=some o4:=by rw[zh_ (Ne.symm hcd)];exact hlc3
   have hkp4: ∀b o,Sx.look L2 b=some o→b≠G.d k→Sx.look (setB L3 (G.d k) (xb_ c (G.t k) (G.p k))) b=some o:=fun b o h hne=>by rw[zh_ (Ne.symm hne)];exact hkp3 b o h
   have hE4:=hE3.setB (b:=G.d k) (o:=xb_ c (G.t k) (G.p k))
   refine ko (And.intro @qm_ (And.intro @hl3 (And.intro @st0 (@xp_)))) ?_
   generalize setB L3 (G.d k) (xb_ c (G.t k) (G.p k))=L4 at*
   have hr4:=zb_ (w0:=w) hl4
   have st2:=fun x=>wy_ c (G.t k) (G.p k) (.slice none 0 0) x ⟨rfl,rfl⟩
   first|with_reducible refine ks [] (And.intro @qm_ (And.intro @hl4 (And.intro @hr4 (And.intro @st2 (@xp_))))) ?_|refine kp (And.intro @qm_ (And.intro @hl4 (And.intro @hr4 (And.intro @st2 (@xp_))))) ?_
   have hkp5: ∀b o,Sx.look L2 b=some o→b≠G.t k→b≠G.d k→Sx.look (setB L4 (G.d k) (xb_ c (G.t k) (.slice none 0 0))) b=some o:=fun b o h _ hne=>by rw[zh_ (Ne.symm hne)];exact hkp4 b o h hne
   have hmd: ∀ {b:Nat} {o:Obj} {m:List (List UInt8×Option Nat)},Sx.look L2 b=some o→va_ vs q0_ o m→b≠G.d k:=by
    intro b o m hb hm e
    rw[e,hdl2] at hb;cases hb
    obtain⟨es,cl,h,-⟩:=hm;cases h
   have hP5:=hP2.calm hlt (s':=c) ⟨vc_ Sk k j,vc_ Sk k j,[]⟩ rfl hkp5 ⟨o4,mt,by rw[zh_ (Ne.symm hcd)];exact hlc4,hm4,hnp⟩ ⟨ot,mt,by rw[zh_ (Ne.symm (hmd hot hmt))];exact hkp4 _ _ hot (hmd hot hmt),hmt,hnp⟩ (zW_ hl4) (.inr hcn) hs2 hs2 hl2 hl2
   rw[Xl_] at hP5
   have hbkd2:bk≠G.d k:=fun e=>hbkd e
   exact Again.mk ⟨k+1,agt_ G k c,setB L4 (G.d k) (xb_ c (G.t k) (.slice none 0 0)),v'⟩ (by show 3 - (k+1)<3 - k;omega) ⟨hlt,by rw[hcr];exact hP5,rfl,by rw[zh_ (Ne.symm hbkd)];exact hkp4 _ _ hlk2 hbkd,by rw[hcr];exact hvn,by rw[hcr];exact hvn2 hvb,hE4.setB,by rw[hcr];show(pk.drop 1).length<1000000;rw[List.length_drop];omega⟩ rfl rfl
 ·obtain rfl:k=3:=by omega
  have d1:decide (((3:Nat):Int)<3)=false:=rfl
  unfold Z2_
  generalize qq_ (S,pl) 3=q at*
  obtain⟨S3,p3⟩:=q
  simp only at*
  have hok1:DkOk {S3 with off:=false}:=⟨hP.ok.seen,hP.ok.stl,hP.ok.seenN,hP.ok.stlN,hP.ok.pendN,hP.ok.file,hP.ok.fuse,hP.ok.max⟩
  have hP1:=hP.setDisk {S3 with off:=false} rfl rfl hok1
  have hok2:DkOk (QD_ S3):=⟨hP.ok.seen,hP.ok.stl,hP.ok.seenN,hP.ok.stlN,hP.ok.pendN,hP.ok.file,⟨hP.ok.fuse.1,hP.ok.fuse.2.1,fun h=>by cases h⟩,hP.ok.max⟩
  have hP2:=hP1.setDisk (QD_ S3) rfl rfl hok2
  have hr0:=zb_ (w0:=w) hP.disk
  have hl1:=hP.disk
  have hl2:=hP1.disk
  have st4:=fun x=>Xe_ G.bm S3 false x
  have st3:=fun x=>J8_ G.bm {S3 with off:=false} false x
  have hrg:=rdg
  have hbkb:bk≠G.bd:=fun e=>by
   have hdd:=hP.disk
   rw[←e,hlk] at hdd
   simp[jh_,xt_] at hdd
  have hlk2:Sx.look (setB (setB L G.bd (jh_ G.bm {S3 with off:=false})) G.bd (jh_ G.bm (QD_ S3))) bk=some (xt_ v):=by
   rw[zh_ (Ne.symm hbkb),zh_ (Ne.symm hbkb)];exact hlk
  have hE2:=(hE.setB (b:=G.bd) (o:=jh_ G.bm {S3 with off:=false})).setB (b:=G.bd) (o:=jh_ G.bm (QD_ S3))
  have hr2:=rdg _ hE2
  have hr5:zs_ w (setB (setB L G.bd (jh_ G.bm {S3 with off:=false})) G.bd (jh_ G.bm {S3 with off:=false,fused:=false})) 0=_:=hr2
  have hlk5:Sx.look (setB (setB L G.bd (jh_ G.bm {S3 with off:=false})) G.bd (jh_ G.bm {S3 with off:=false,fused:=false})) bk=some (xt_ v):=hlk2
  have hE5:Ext w X (setB (setB L G.bd (jh_ G.bm {S3 with off:=false})) G.bd (jh_ G.bm {S3 with off:=false,fused:=false})):=hE2
  have hP5:DkP (setB (setB L G.bd (jh_ G.bm {S3 with off:=false})) G.bd (jh_ G.bm {S3 with off:=false,fused:=false})) G (QD_ S3):=hP2
  clear hr2 hlk2 hE2 hP2
  first|with_reducible refine ks [17] (And.intro @qm_ (And.intro @d1 (And.intro @hl1 (And.intro @hl2 (And.intro @st4 (And.intro @st3 (And.intro @xp_ (And.intro @hr5 (@k9_))))))))) ?_|refine kp (And.intro @qm_ (And.intro @d1 (And.intro @hl1 (And.intro @hl2 (And.intro @st4 (And.intro @st3 (And.intro @xp_ (And.intro @hr5 (@k9_))))))))) ?_
  generalize hL5:setB (setB L G.bd (jh_ G.bm {S3 with off:=false})) G.bd (jh_ G.bm {S3 with off:=false,fused:=false})=L5 at*
  have hdw: (QD_ S3).dir=S3.dir:=rfl
  have how: (QD_ S3).off=false:=rfl
  generalize QD_ S3=S5 at*
  refine Cw.loopG (G:=C3G) [72,73,11,74,75,76,77,78,79,80,81,13,82,83,84,85,86,87,88,89,90,91,92,14,93,94,95,96,97,98,99,100,101,102,103,104,105,106,107,108,109,110,111,112,113,114,115,116,117,118,119,120,121,122,123,124,125,126,127,71] (fun g=> [(71,vi g.k)]) (fun g=>g.L) (fun g=>g.k≤3∧DkP g.L G (qU_ (S5,p3) g.k).1∧Sx.look g.L bk=some (xt_ g.v)∧PkS w g.v (qU_ (S5,p3) g.k).2∧PkB w X (qU_ (S5,p3) g.k).2 g.v∧Ext w X g.L∧(qU_ (S5,p3) g.k).2.length<1000000) (fun g=>3 - g.k) ⟨0,L5,v⟩ rfl rfl ?_ ?_
  ·exact⟨Nat.zero_le _,hP5,hlk5,hv,hvb,hE5,hpl1⟩
  intro g j hg
  refine kv ?_
  obtain⟨k,L6,v6⟩:=g
  simp only at hg ⊢
  obtain⟨hk6,hP6,hlk6,hv6,hvb6,hE6,hpl6⟩:=hg
  by_cases hlt6:k<3
  ·have d6:decide ((k:Int)<3)=true:=decide_eq_true (by omega)
   have ixk:=Qh_ hlt6
   have hd6:=xV_ (S5,p3) k
   have ho6:=JR_ (S5,p3) k
   simp only at hd6 ho6
   have hB6:DkB (qU_ (S5,p3) k).1:=by
    intro i hi
    rw[hd6,hdw];exact hB i hi
   have hcm:qU_ (S5,p3) (k+1)=((S5.dir k).seen).foldl j2_ (qU_ (S5,p3) k):=rfl
   first|with_reducible refine ks [26] (And.intro @qm_ (And.intro @d6 (@ixk))) ?_|refine kp (And.intro @qm_ (And.intro @d6 (@ixk))) ?_
   refine Ow.callC rfl rfl Tryz.call93 (fun w' hw'=>acI_ w' G (qU_ (S5,p3) k).1 (K5_ k) (hP6.world hw') hB6) (fun B7 v7 D7 hA7 hB7 hN7 hS7=> ?_)
   rw[ad3_ hlt6,hd6,ho6,how,if_neg (by simp),←adR_] at hS7
   obtain⟨sn,hsn⟩: ∃sn,(S5.dir k).seen=sn:=⟨_,rfl⟩
   rw[hsn] at hcm hS7
   have ln7:=ajJ_ hS7
   rw[List.length_map] at ln7
   refine ko (And.intro @qm_ @ln7) ?_
   refine Cw.world fun w1 hw1=> ?_
   obtain⟨rb,off,arr,E,fz,hr7,hlk7⟩:=hS7.rowL (z:= []) (by rw[List.length_map]) ((hw1.perm (M:=D7++L6) List.perm_append_comm).part) ahb_
   clear hw1
   have hq6:=hP6.ok.seen k hlt6
   have hsl6:=(hB6 k hlt6).1
   rw[hd6,hsn] at hq6 hsl6
   have hrn: ∀c,c∈keys L6→0<sn.length→rb≠c:=fun c hc h0 e=>by
    have h1:=zi_ hA7 hc
    have h2:=hN7.le rb (ze_ (hlk7 (by rw[List.length_map];exact h0)))
    omega
   have hlr7:0<sn.length→Sx.look (L6++D7) rb=some (.cells arr E fz):=fun h0=>by
    rw[zG_ (fun hm=>hrn rb hm h0 rfl)]
    exact hlk7 (by rw[List.length_map];exact h0)
   have hP7:DkP (L6++D7) G (qU_ (S5,p3) k).1:=hP6.mono fun b o h=>zq_ h
   have hlk8:Sx.look (L6++D7) bk=some (xt_ v6):=zq_ hlk6
   have hE7:Ext w X (L6++D7):=⟨fun c hc=>by
    rw[zc_] at hc
    rcases List.mem_append.1 hc with h|h
    ·exact hE6.new c h
    ·exact .inr (Nat.le_trans hB7 (hN7.le c h)),fun c hc=>by rw[zc_];exact List.mem_append_left _ (hE6.all c hc)⟩
   have hfk: ∀n,n< (qU_ (S5,p3) k).1.files.length→G.fb.getD n 0∈keys L6:=fun n hn=>ze_ (hP6.file n hn)
   have hbk6:=ze_ hlk6
   clear hlk7 hS7
   generalize L6++D7=L7 at*
   refine Cw.loopG (G:=C4G) [79,80,81,13,82,83,84,85,86,87,88,89,90,91,92,14,93,94,95,96,97,98,99,100,101,102,103,104,105,106,107,108,109,110,111,112,113,114,115,116,117,118,119,120,121,122,123,124,125,126,78] (fun g=> [(78,vi g.j)]) (fun g=>g.L) (fun g=>g.j≤sn.length∧DkP g.L G ((sn.take g.j).foldl j2_ (qU_ (S5,p3) k)).1∧Sx.look g.L bk=some (xt_ g.v)∧PkS w g.v ((sn.take g.j).foldl j2_ (qU_ (S5,p3) k)).2∧PkB w X ((sn.take g.j).foldl j2_ (qU_ (S5,p3) k)).2 g.v∧Ext w X g.L∧((sn.take g.j).foldl j2_ (qU_ (S5,p3) k)).2.length<1000000∧(0<sn.length→Sx.look g.L rb=some (.cells arr E fz))) (fun g=>sn.length - g.j) ⟨0,L7,v6⟩ rfl rfl ?_ ?_
   ·exact⟨Nat.zero_le _,hP7,hlk8,hv6,hvb6,hE7,hpl6,hlr7⟩
   intro g j hg
   refine kv ?_
   obtain⟨j,L8,v8⟩:=g
   simp only at hg ⊢
   obtain⟨hj,hP8,hlk9,hv8,hvb8,hE8,hpl8,hlr8⟩:=hg
   by_cases hjt:j<sn.length
   ·have d2:decide ((j:Int)< (sn.length:Int))=true:=decide_eq_true (by omega)
    have hjm:j< (sn.map Prod.fst).length:=by rw[List.length_map];exact hjt
    have ix3:=hr7.idx false j hjm
    rw[Nat.mul_one] at ix3
    have ld3:=fun n=>adU_ hr7 hjm n
    have hlrb:=hlr8 (by omega)
    have rd3:=zb_ (w0:=w) hlrb
    have hp:sn[j]'hjt∈sn:=List.getElem_mem _
    have hse: (sn.map Prod.fst).getD j []=(sn[j]'hjt).1:=by simp[List.getD_eq_getElem?_getD,hjt]
    have hts:sn.take (j+1)=sn.take j++ [sn[j]'hjt]:=by
     rw[List.take_add_one];simp[hjt]
    rw[hse] at ld3
    generalize sn[j]'hjt=p at*
    obtain⟨x,n⟩:=p
    have hd8: ((sn.take j).foldl j2_ (qU_ (S5,p3) k)).1.dir=S5.dir:=by rw[JW_,xV_]
    have hfl8: ((sn.take (j+1)).foldl j2_ (qU_ (S5,p3) k))=j2_ ((sn.take j).foldl j2_ (qU_ (S5,p3) k)) (x,n):=by rw[hts,List.foldl_append];rfl
    generalize (sn.take j).foldl j2_ (qU_ (S5,p3) k)=q8 at*
    obtain⟨S8,p8⟩:=q8
    simp only at hP8 hv8 hpl8 hd8 ld3
    have hsk: (S8.dir k).seen=sn:=by rw[hd8];exact hsn
    obtain⟨om,hom,hM⟩:=hP8.dirs
    obtain⟨os,ms,hos,hms,hnp⟩:=hP8.seen k hlt6
    rw[hsk] at hnp
    have hfn:zQ_ sn x=some n:=Kp_ hq6.nodup hp
    have hnl:n<S8.files.length:=hP8.ok.seenN k hlt6 _ (by rw[hsk];exact hp)
    have rdd:=zb_ (w0:=w) hP8.disk
    have rdr:=zb_ (w0:=w) (hP8.dir k hlt6)
    have hlf:=hP8.file n hnl
    have rdf:=zb_ (w0:=w) hlf
    have hpd:q0_ (some (G.d k))=vp (G.d k) 0:=rfl
    have hpf:q0_ (some (G.fb.getD n 0))=vp (G.fb.getD n 0) 0:=rfl
    first|with_reducible refine ks [] (And.intro @qm_ (And.intro @d2 (And.intro @ix3 (And.intro @ld3 (And.intro @rd3 (@rdd)))))) ?_|refine kp (And.intro @qm_ (And.intro @d2 (And.intro @ix3 (And.intro @ld3 (And.intro @rd3 (@rdd)))))) ?_
    refine kq (And.intro @qm_ @rdd) ?_
    refine Ow.mapGetG (encK:=vs) (encV:=q0_) (k:=K5_ k) (z:=none) rfl rfl Tryz.underlying166 jW_ zrPd rfl rfl (zb_ hom) hM ?_
    rw[XE_,xR_ hlt6]
    show Ow _ _ _ _ _ _ _ _
    refine ko (And.intro @qm_ (And.intro @hpd (@rdr))) ?_
    refine Ow.mapGetG (encK:=vs) (encV:=q0_) (k:=x) (z:=none) rfl rfl Tryz.underlying173 jW_ zrPf rfl rfl (zb_ hos) hms ?_
    rw[hnp.get hq6.nodup,hfn]
    show Ow _ _ _ _ _ _ _ _
    refine ko (And.intro @qm_ @hpf) ?_
    have hfo:=X4_ hP8.ok hnl
    have hrf2:zs_ w L8 (G.fb.getD n 0)=some (x2_ (qo_ S8 n)):=rdf
    have hfd:S8.files.getD n x7_=qo_ S8 n:=rfl
    rw[hfd] at hlf
    clear rdf
    have hcf:j2_ (S8,p8) (x,n)=(WN_ S8 n ⟨(qo_ S8 n).data.take ((qo_ S8 n).stl+kn_ p8 ((qo_ S8 n).data.length - (qo_ S8 n).stl)),((qo_ S8 n).data.take ((qo_ S8 n).stl+kn_ p8 ((qo_ S8 n).data.length - (qo_ S8 n).stl))).length⟩,p8.drop 1):=rfl
    rw[hcf] at hfl8
    have hple8:=abp_ p8 ((qo_ S8 n).data.length - (qo_ S8 n).stl)
    generalize qo_ S8 n=f at*
    have hsub: (f.data.length:Int) - (f.stl:Int)=((f.data.length - f.stl:Nat):Int):=by omega
    refine Cw.regionG [G.fb.getD n 0] [25] 26 (by kernel_rfl) rfl ?_
    simp only[List.replicate_succ,List.replicate_zero]
    refine OwG.run [0,1,2,3,4,5,6,7,8,9,10,11,12,13,14,15,16,17,18,19] [true,true,true,true,true,true,true,true,true,true,true,true,true,true,true,true,true,true,true,true,false,false,false,false,false,false] 6 rfl (by kernel_rfl) (by kernel_rfl) fun k hk=> ?_
    simp only[zI_, ↓zr_, ↓zk_, ↓z0_, ↓zZ_,zl_]
    simp(disch:=(first|assumption|omega| (simp only[qP_,qM_,UInt64.reduceToNat];try omega))) only[↓Sx.S0,Sx.S1,Tryz.fx,qm_,Nat.reduceAdd,Nat.reducePow,Int.reducePow,Nat.reduceBEq, ↓reduceIte,UInt8.reduceToNat,UInt16.reduceToNat,UInt32.reduceToNat,UInt64.reduceToNat,Int.reduceToNat,Md.next_sofnil,hrf2,hsub]
    (with_reducible refine hk _ _ _ ?_);clear hk k
    refine OwG.one 20 _ (by kernel_rfl) rfl ?_
    refine Ow.callFnXC (b:=vi ((f.data.length - f.stl:Nat):Int)) (ars:= #[vi ((f.data.length - f.stl:Nat):Int),vp bk 0]) rfl (X:=L8) (Y:= []) (List.append_nil _).symm rfl rfl rfl rfl Tryz.call91 (fun w' hw' hX' hn'=>Rets.chunk hX' hn' (ze_ hlk9) (Xd_ (f.data.length - f.stl) bk v8 p8 w' (by omega) (hv8.old hw' fun hq b hb=>hE8.not (hvb8 hq b hb).1 (hvb8 hq b hb).2) hpl8 (fun hq e=>by have:=(hvb8 hq bk e).1;omega) (hX' _ (zt_ hlk9)))) (fun r D hC hS=> ?_)
    rw[List.append_nil]
    obtain⟨o,rfl,rfl,v9,rfl,hv1,hv2⟩:=hS
    obtain⟨hvn,hvn2⟩:=VU_ hv8 hv1 hv2
    have hE9:=hE8.came0 hC
    have hP9:=hP8.away hlk9 (xt_ v9)
    have hk9: ∀b o,Sx.look L8 b=some o→tyO o≠some 65→Sx.look (setB L8 bk (xt_ v9)) b=some o:=fun b o hb ht=>z9_ hlk9 hb ht
    have hlf9:Sx.look (setB L8 bk (xt_ v9)) (G.fb.getD n 0)=some (x2_ f):=hk9 _ _ hlf (by simp[tyO,x2_])
    have hlkA:Sx.look (setB L8 bk (xt_ v9)) bk=some (xt_ v9):=zW_ hlk9
    have hrbA:Sx.look (setB L8 bk (xt_ v9)) rb=some (.cells arr E fz):=by rw[zh_ (fun e=>hrn bk hbk6 (by omega) e.symm)];exact hlrb
    have hrf9:=zb_ (w0:=w) hlf9
    generalize kn_ p8 (f.data.length - f.stl)=m at*
    have hadd: (f.stl:Int)+ (m:Int)=((f.stl+m:Nat):Int):=by omega
    have hbkf:bk≠G.fb.getD n 0:=fun e=>by
     rw[←e,hlkA] at hlf9
     simp[x2_,xt_] at hlf9
    generalize setB L8 bk (xt_ v9)=L9 at*
    have st0:=fun x=>wG_ f (f.data.take (f.stl+m)) x
    with_reducible refine Ow.nil ?_
    refine⟨(fun b hb=>by rw[List.mem_singleton] at hb;subst hb;rw[hrf2,hrf9]), ?_⟩
    simp only[List.set_cons_zero,List.set_cons_succ,qc_,jF_,jG_]
    refine OwG.rest [21,22,23,24,25] rfl (by kernel_rfl) (by kernel_rfl) ?_
    simp only[zI_, ↓zr_, ↓zk_, ↓z0_, ↓zZ_,zl_]
    refine kq (And.intro @qm_ @hadd) ?_
    refine Ow.store rfl rfl rfl (ke (And.intro @qm_ (And.intro @hlf9 (@st0)))) ?_
    have htl: (f.data.take (f.stl+m)).length≤f.data.length:=by rw[List.length_take];omega
    have htl2:f.stl≤ (f.data.take (f.stl+m)).length:=by rw[List.length_take];omega
    have hlB:Sx.look (setB L9 (G.fb.getD n 0) (x2_ ⟨f.data.take (f.stl+m),f.stl⟩)) (G.fb.getD n 0)=some (x2_ ⟨f.data.take (f.stl+m),f.stl⟩):=zW_ hlf9
    have hrB:=zb_ (w0:=w) hlB
    have st1:=fun x=>wB_ ⟨f.data.take (f.stl+m),f.stl⟩ (f.data.take (f.stl+m)).length x
    have hokA:=Zk_ (n:=n) (f:=⟨f.data.take (f.stl+m),f.stl⟩) hP8.ok ⟨Nat.le_trans htl hfo.1,htl2⟩
    have hPA:=hP9.setFile hnl ⟨f.data.take (f.stl+m),f.stl⟩ hokA
    have hokB:=Zk_ (n:=n) (f:=⟨f.data.take (f.stl+m),(f.data.take (f.stl+m)).length⟩) hokA ⟨Nat.le_trans htl hfo.1,Nat.le_refl _⟩
    have hPB:=hPA.setFile (by rw[List.length_set];exact hnl) ⟨f.data.take (f.stl+m),(f.data.take (f.stl+m)).length⟩ hokB
    simp only[List.set_set] at hPB
    have hEB:=(hE9.setB (b:=G.fb.getD n 0) (o:=x2_ ⟨f.data.take (f.stl+m),f.stl⟩)).setB (b:=G.fb.getD n 0) (o:=x2_ ⟨f.data.take (f.stl+m),(f.data.take (f.stl+m)).length⟩)
    have hrf:rb≠G.fb.getD n 0:=hrn _ (hfk n (by have:=hP6.len;have:=hP8.len;omega)) (by omega)
    have hlkB:Sx.look (setB (setB L9 (G.fb.getD n 0) (x2_ ⟨f.data.take (f.stl+m),f.stl⟩)) (G.fb.getD n 0) (x2_ ⟨f.data.take (f.stl+m),(f.data.take (f.stl+m)).length⟩)) bk=some (xt_ v9):=by
     rw[zh_ (Ne.symm hbkf),zh_ (Ne.symm hbkf)];exact hlkA
    have hrbB:Sx.look (setB (setB L9 (G.fb.getD n 0) (x2_ ⟨f.data.take (f.stl+m),f.stl⟩)) (G.fb.getD n 0) (x2_ ⟨f.data.take (f.stl+m),(f.data.take (f.stl+m)).length⟩)) rb=some (.cells arr E fz):=by
     rw[zh_ (Ne.symm hrf),zh_ (Ne.symm hrf)];exact hrbA
    refine ko (And.intro @qm_ (And.intro @xp_ (And.intro @hrB (And.intro @hlB (@st1))))) ?_
    first|with_reducible refine ks [] @qm_ ?_|refine kp @qm_ ?_
    exact Again.mk ⟨j+1,setB (setB L9 (G.fb.getD n 0) (x2_ ⟨f.data.take (f.stl+m),f.stl⟩)) (G.fb.getD n 0) (x2_ ⟨f.data.take (f.stl+m),(f.data.take (f.stl+m)).length⟩),v9⟩ (by show sn.length - (j+1)<sn.length - j;omega) ⟨hjt,by rw[hfl8];exact hPB,hlkB,by rw[hfl8];exact hvn,by rw[hfl8];exact hvn2 hvb8,hEB,by rw[hfl8];show(p8.drop 1).length<1000000;rw[List.length_drop];omega,fun _=>hrbB⟩ rfl rfl
   ·obtain rfl:j=sn.length:=by omega
    have d2:decide ((sn.length:Int)< (sn.length:Int))=false:=decide_eq_false (by omega)
    rw[List.take_length] at hP8 hv8 hvb8 hpl8
    first|with_reducible refine ks [] (And.intro @qm_ @d2) ?_|refine kp (And.intro @qm_ @d2) ?_
    first|with_reducible refine ks [] @qm_ ?_|refine kp @qm_ ?_
    exact Again.mk ⟨k+1,L8,v8⟩ (by show 3 - (k+1)<3 - k;omega) ⟨hlt6,by rw[hcm];exact hP8,hlk9,by rw[hcm];exact hv8,by rw[hcm];exact hvb8,hE8,by rw[hcm];exact hpl8⟩ rfl rfl
  ·obtain rfl:k=3:=by omega
   have d6:decide (((3:Nat):Int)<3)=false:=rfl
   first|with_reducible refine ks [] (And.intro @qm_ @d6) ?_|refine kp (And.intro @qm_ @d6) ?_
   refine⟨_,(ke @qm_), ?_⟩
   exact⟨hE6,G,rfl,hP6⟩
end Go.Proofs
end
section
open Go Go.Proofs Go.Sx Go.StP
namespace Go.Proofs
set_option maxRecDepth 10000
set_option maxHeartbeats 400000
set_option linter.unusedSimpArgs false
def adB_ (d:DirL):Prop:=d.pend.foldl qV_ d.stl=d.seen∧ak0_ d
def xA_ (S:DiskL):Prop:= ∀k,adB_ (S.dir k)
theorem ZR_ (l:NmL):adB_ ⟨l,l,[]⟩:=⟨rfl,fun i hi=>absurd hi (Nat.not_lt_zero i)⟩
theorem ady_ {d:DirL} {c:CallL} (h:adB_ d) (hok:okC d.seen c):adB_ ⟨qV_ d.seen c,d.stl,d.pend++ [c]⟩:=by
 refine⟨by show(d.pend++ [c]).foldl qV_ d.stl=_;rw[List.foldl_append,h.1];rfl,fun i hi=> ?_⟩
 have hi':i< (d.pend++ [c]).length:=hi
 show okC (((d.pend++ [c]).take i).foldl qV_ d.stl) ((d.pend++ [c]).getD i ky_)
 by_cases e:i<d.pend.length
 ·rw[List.take_append_of_le_length (by omega),List.getD_eq_getElem?_getD,List.getElem?_append_left e,←List.getD_eq_getElem?_getD]
  exact h.2 i e
 ·rw[List.length_append,List.length_singleton] at hi'
  obtain rfl:i=d.pend.length:=by omega
  rw[List.take_append_of_le_length (Nat.le_refl _),List.take_length,h.1,List.getD_eq_getElem?_getD,List.getElem?_append_right (Nat.le_refl _),Nat.sub_self]
  exact hok
theorem xx_ {S S':DiskL} (h:xA_ S) (e:S'.dir=S.dir):xA_ S':=fun k=>by rw[e];exact h k
theorem vB_ {S:DiskL} (h:xA_ S) {k:Nat} {d:DirL} (hd:adB_ d):xA_ (qJ_ S k d):=fun j=>by
 by_cases e:j=k
 ·subst e;rw[xT_];exact hd
 ·rw[QT_ _ _ e];exact h j
theorem wt_ {S:DiskL} (h:xA_ S) {k:Nat} {c:CallL} (hok:okC (S.dir k).seen c):xA_ (X1_ S k c):=vB_ h (ady_ (h k) hok)
theorem kt_ {S:DiskL} (h:xA_ S):xA_ (zx_ S).1:=xx_ h (jC_ S).1
theorem agR_ (q:Int):xA_ (newD q):=fun _=>ZR_ []
theorem WE_ {S:DiskL} (h:xA_ S) (dir name s:List UInt8):xA_ (qD_ S dir name s).1:=by
 unfold qD_
 split
 ·exact h
 ·split
  ·exact h
  ·split
   ·exact h
   ·split
    ·exact kt_ h
    ·exact xx_ (kt_ h) rfl
theorem aeu_ {S:DiskL} (h:xA_ S) (dir name:List UInt8):xA_ (je_ S dir name).1:=by
 unfold je_
 split
 ·exact h
 ·split
  ·exact h
  ·split
   ·exact kt_ h
   ·exact xx_ (kt_ h) rfl
theorem Qn_ {q:DiskL×List UInt16} (h:xA_ q.1): ∀k,xA_ (qq_ q k).1
 |0=>h
 |k+1=>vB_ (Qn_ h k) (ZR_ _)
theorem acl_ {S:DiskL} (h:xA_ S) (pl:List UInt16):xA_ (Z2_ S pl):=by
 unfold Z2_
 refine xx_ (S:=QD_ (qq_ (S,pl) 3).1) ?_ (xV_ _ 3)
 exact xx_ (Qn_ (q:=(S,pl)) h 3) rfl
end Go.Proofs
end
section
open Go Go.Proofs Go.Sx Go.StP
namespace Go.Proofs
set_option maxRecDepth 10000
set_option maxHeartbeats 400000
set_option linter.unusedSimpArgs false
def NmB (l:NmL):Prop:= ∀p,p∈l→p.1.length≤1000000
def afC_ (c:CallL):Prop:=c.a.length≤1000000∧c.b.length≤1000000
structure DirB (N:Nat) (d:DirL):Prop where
 seen:d.seen.length≤N
 stl:d.stl.length+d.pend.length≤N
 seenB:NmB d.seen
 stlB:NmB d.stl
 pendB: ∀c,c∈d.pend→afC_ c
def DkN (N:Nat) (S:DiskL):Prop:= ∀k,DirB N (S.dir k)
theorem DkN.b {N:Nat} {S:DiskL} (h:DkN N S) (hN:N≤1000000):DkB S:=fun k _=>⟨Nat.le_trans (h k).seen hN,(h k).seenB⟩
theorem DirB.mono {N M:Nat} {d:DirL} (h:DirB N d) (hm:N≤M):DirB M d:=⟨Nat.le_trans h.seen hm,Nat.le_trans h.stl hm,h.seenB,h.stlB,h.pendB⟩
theorem DkN.mono {N M:Nat} {S:DiskL} (h:DkN N S) (hm:N≤M):DkN M S:=fun k=>(h k).mono hm
theorem Qz_ (l:NmL) (s:List UInt8): (j7_ l s).length≤l.length:=List.length_filter_le _ _
theorem abZ_ (l:NmL) (x:List UInt8×Nat): (putN l x).length≤l.length+1:=by
 have h1:=(jS_ x (j7_ l x.1)).length_eq
 have h2:=Qz_ l x.1
 rw[List.length_cons] at h1
 show(insN (j7_ l x.1) x).length≤_
 omega
theorem Vx_ (l:NmL) (c:CallL): (qV_ l c).length≤l.length+1:=by
 unfold qV_
 split
 ·exact abZ_ l _
 ·have h1:=abZ_ (j7_ l c.a) (c.b,(zQ_ l c.a).getD 0)
  have h2:=Qz_ l c.a
  omega
 ·exact Nat.le_succ_of_le (Qz_ l _)
theorem W3_ {l:NmL} (h:NmB l) (s:List UInt8):NmB (j7_ l s):=fun p hp=>h p (List.mem_filter.1 hp).1
theorem aic_ {l:NmL} (h:NmB l) {x:List UInt8×Nat} (hx:x.1.length≤1000000):NmB (putN l x):=fun p hp=>by
 have:=(jS_ x (j7_ l x.1)).mem_iff.1 hp
 rcases List.mem_cons.1 this with rfl|h1
 ·exact hx
 ·exact W3_ h _ p h1
theorem afo_ {l:NmL} (h:NmB l) {c:CallL} (hc:afC_ c):NmB (qV_ l c):=by
 unfold qV_
 split
 ·exact aic_ h hc.1
 ·exact aic_ (W3_ h _) hc.2
 ·exact W3_ h _
theorem afe_: ∀ (cs:List CallL) {l:NmL},NmB l→(∀c,c∈cs→afC_ c)→NmB (cs.foldl qV_ l)∧(cs.foldl qV_ l).length≤l.length+cs.length
 | [],l,h,_=>⟨h,Nat.le_refl _⟩
 |c::cs,l,h,hc=>by
  have h1:=afe_ cs (afo_ h (hc c List.mem_cons_self)) (fun c' h'=>hc c' (List.mem_cons_of_mem _ h'))
  have h2:=Vx_ l c
  refine⟨h1.1, ?_⟩
  have h3:=h1.2
  rw[List.length_cons]
  show(List.foldl qV_ (qV_ l c) cs).length≤_
  omega
theorem afL_ {N:Nat} {d:DirL} {c:CallL} (h:DirB N d) (hc:afC_ c):DirB (N+1) ⟨qV_ d.seen c,d.stl,d.pend++ [c]⟩ where
 seen:=by have:=Vx_ d.seen c;have:=h.seen;show(qV_ d.seen c).length≤_;omega
 stl:=by have:=h.stl;show d.stl.length+ (d.pend++ [c]).length≤_;rw[List.length_append,List.length_singleton];omega
 seenB:=afo_ h.seenB hc
 stlB:=h.stlB
 pendB:=fun c' h'=>by
  rcases List.mem_append.1 h' with h'|h'
  ·exact h.pendB c' h'
  ·rw[List.mem_singleton.1 h'];exact hc
theorem Qs_ {N:Nat} {l:NmL} (h:l.length≤N) (hb:NmB l):DirB N ⟨l,l,[]⟩:=⟨h,h,hb,hb,fun c hc=>by cases hc⟩
theorem wA_ {N:Nat} {S:DiskL} (h:DkN N S) {k:Nat} {d:DirL} (hd:DirB N d):DkN N (qJ_ S k d):=fun j=>by
 by_cases e:j=k
 ·subst e;rw[xT_];exact hd
 ·rw[QT_ _ _ e];exact h j
theorem kN_ {N:Nat} {S S':DiskL} (h:DkN N S) (e:S'.dir=S.dir):DkN N S':=fun k=>by rw[e];exact h k
theorem QH_ {N:Nat} {S:DiskL} (h:DkN N S) {k:Nat} {c:CallL} (hc:afC_ c):DkN (N+1) (X1_ S k c):=wA_ (h.mono (Nat.le_succ N)) (afL_ (h k) hc)
theorem wp_ {N:Nat} {q:DiskL×List UInt16} (h:DkN N q.1): ∀k,DkN N (qq_ q k).1
 |0=>h
 |k+1=>by
  have h1:=wp_ h k
  have hd:=h1 k
  show DkN N (abQ_ (qq_ q k) k).1
  generalize qq_ q k=r at*
  refine wA_ h1 ?_
  have h2:=afe_ ((r.1.dir k).pend.take (kn_ r.2 (r.1.dir k).pend.length)) hd.stlB (fun c hc=>hd.pendB c (List.mem_of_mem_take hc))
  refine Qs_ ?_ h2.1
  have h3:=h2.2
  rw[List.length_take] at h3
  have h4:=hd.stl
  show(List.foldl qV_ _ _).length≤N
  omega
theorem adI_ {N:Nat} {S:DiskL} (h:DkN N S) (pl:List UInt16):DkN N (Z2_ S pl):=by
 unfold Z2_
 refine kN_ (S:=QD_ (qq_ (S,pl) 3).1) ?_ (xV_ _ 3)
 exact kN_ (wp_ (q:=(S,pl)) h 3) rfl
theorem aiO_ (q:Int):DkN 0 (newD q):=fun _=>Qs_ (Nat.le_refl 0) fun _ h=>by cases h
end Go.Proofs
end
section
open Go Go.Proofs Go.Sx Go.StP
namespace Go.Proofs
set_option maxRecDepth 10000
set_option maxHeartbeats 400000
set_option linter.unusedSimpArgs false
end Go.Proofs
end
section
open Go Go.Proofs Go.Sx Go.StP
namespace Go.Proofs
set_option maxRecDepth 10000
set_option maxHeartbeats 400000
set_option linter.unusedSimpArgs false
end Go.Proofs
end
section
open Go Go.Proofs Go.Sx Go.StP
namespace Go.Proofs
set_option maxRecDepth 10000
set_option maxHeartbeats 400000
set_option linter.unusedSimpArgs false
theorem vN_ {N:Nat} {S:DiskL} (h:DkN N S):DkN N (zx_ S).1:=kN_ h (jC_ S).1
theorem KC_ {N:Nat} {S:DiskL} (h:DkN N S):DkN (N+1) S:=h.mono (Nat.le_succ N)
theorem acp_ {N:Nat} {S:DiskL} (h:DkN N S) (dir name s:List UInt8):DkN N (qD_ S dir name s).1:=by
 unfold qD_
 split
 ·exact h
 ·split
  ·exact h
  ·split
   ·exact h
   ·split
    ·exact vN_ h
    ·exact kN_ (vN_ h) rfl
theorem ago_ {N:Nat} {S:DiskL} (h:DkN N S) (dir name:List UInt8):DkN N (je_ S dir name).1:=by
 unfold je_
 split
 ·exact h
 ·split
  ·exact h
  ·split
   ·exact vN_ h
   ·exact kN_ (vN_ h) rfl
theorem Zd_ {S:DiskL} (ok:DkOk S): ∀ (l:NmL),(∀p,p∈l→p.2<S.files.length)→wx_ S l≤l.length*1048576
 | [],_=>Nat.zero_le _
 |p::l,h=>by
  have h1:=Zd_ ok l fun q hq=>h q (List.mem_cons_of_mem _ hq)
  have h2:=(X4_ ok (h p List.mem_cons_self)).1
  unfold wx_ qo_ at*
  rw[List.map_cons,List.sum_cons,List.length_cons]
  omega
theorem ahK_ {N:Nat} {S:DiskL} (ok:DkOk S) (h:DkN N S):w8_ S≤3* (N*1048576):=by
 have h0:=Zd_ ok _ (ok.seenN 0 (by omega))
 have h1:=Zd_ ok _ (ok.seenN 1 (by omega))
 have h2:=Zd_ ok _ (ok.seenN 2 (by omega))
 have g0:=Nat.mul_le_mul_right 1048576 (h 0).seen
 have g1:=Nat.mul_le_mul_right 1048576 (h 1).seen
 have g2:=Nat.mul_le_mul_right 1048576 (h 2).seen
 unfold w8_
 omega
end Go.Proofs
end
section
open Go Go.Proofs Go.Sx Go.StP
namespace Go.Proofs
set_option maxRecDepth 10000
set_option maxHeartbeats 400000
set_option linter.unusedSimpArgs false
def akZ_ (S:DiskL):Prop:= ∀j k,j<3→k<3→ ∀p,p∈ (S.dir j).seen→ ∀q,q∈ (S.dir k).seen→p.2=q.2→j=k∧p=q
def LtS (S:DiskL):Prop:= ∀k,k<3→ ∀p,p∈ (S.dir k).seen→p.2<S.files.length
end Go.Proofs
end
section
open Go Go.Proofs Go.Sx Go.StP
namespace Go.Proofs
set_option maxRecDepth 10000
set_option maxHeartbeats 400000
set_option linter.unusedSimpArgs false
inductive StepD (S:DiskL) (kind:Int) (dir name s:List UInt8):DiskL→Nat→Prop
 |same (e:Nat) (h:e≠0∨(kind≠2∧kind≠3)):StepD S kind dir name s S e
 |burn (h:kind≠2∧kind≠3∨(zx_ S).2≠0):StepD S kind dir name s (zx_ S).1 (zx_ S).2
 |create (k:Nat) (hk:qi_ dir=some k) (hf:km_ name=true) (hn:zQ_ (S.dir k).seen name=none) (hb: (zx_ S).2=0):StepD S kind dir name s (X1_ (ZF_ (zx_ S).1 x7_) k ⟨0,name,[],S.files.length⟩) 0
 |append (k m:Nat) (hk:qi_ dir=some k) (hm:zQ_ (S.dir k).seen name=some m) (hf:Je_ S m s=false) (hb: (zx_ S).2=0):StepD S kind dir name s (WN_ (zx_ S).1 m ⟨(qo_ S m).data++s,(qo_ S m).stl⟩) 0
 |sync (k m:Nat) (hk:qi_ dir=some k) (hm:zQ_ (S.dir k).seen name=some m) (hb: (zx_ S).2=0):StepD S kind dir name s (WN_ (zx_ S).1 m ⟨(qo_ S m).data,(qo_ S m).data.length⟩) 0
 |syncDir (k:Nat) (hk:qi_ dir=some k) (hb: (zx_ S).2=0):StepD S kind dir name s (WL_ (zx_ S).1 k) 0
 |rename (k m:Nat) (h4:kind=4) (hk:qi_ dir=some k) (hm:zQ_ (S.dir k).seen name=some m) (hf:km_ s=true) (hne:name≠s) (hb: (zx_ S).2=0):StepD S kind dir name s (X1_ (zx_ S).1 k ⟨1,name,s,0⟩) 0
 |remove (k m:Nat) (hk:qi_ dir=some k) (hm:zQ_ (S.dir k).seen name=some m) (hb: (zx_ S).2=0):StepD S kind dir name s (X1_ (zx_ S).1 k ⟨2,name,[],0⟩) 0
theorem XB_ {S:DiskL} {dir name:List UInt8} {m:Nat} (h:atD S dir name=some m): ∃k,qi_ dir=some k∧zQ_ (S.dir k).seen name=some m:=by
 unfold atD at h
 cases hk:qi_ dir with
 |none=>rw[hk] at h;cases h
 |some k=>rw[hk] at h;exact⟨k,rfl,h⟩
theorem aig_ {S:DiskL} {dir name:List UInt8} {k:Nat} (hk:qi_ dir=some k) (h:atD S dir name=none):zQ_ (S.dir k).seen name=none:=by
 unfold atD at h
 rw[hk] at h;exact h
theorem Qe_ {S:DiskL} {dir:List UInt8} {names:List (List UInt8)} (h:jJ_ S dir names=0): ∃k,qi_ dir=some k∧names.all km_=true:=by
 obtain⟨h1,h2,-⟩:=aco_ h
 cases hk:qi_ dir with
 |none=>exact absurd hk h1
 |some k=>exact⟨k,rfl,h2⟩
theorem W1_ (S:DiskL) (dir name s:List UInt8):StepD S 0 dir name s (xC_ S dir name).1 (xC_ S dir name).2:=by
 unfold xC_
 split
 ·exact .same _ (.inr ⟨by decide,by decide⟩)
 ·rename_i hf
  split
  ·exact .same _ (.inr ⟨by decide,by decide⟩)
  ·rename_i ha
   split
   ·exact .burn (.inl ⟨by decide,by decide⟩)
   ·rename_i hb
    obtain⟨k,hk,hn⟩:=Qe_ (S:=S) (dir:=dir) (names:= [name]) (by simpa using hf)
    rw[hk]
    exact .create k hk (by simpa using hn) (aig_ hk ha) (by simpa using hb)
theorem ZV_ (S:DiskL) (dir name s:List UInt8):StepD S 5 dir name s (xz_ S dir name).1 (xz_ S dir name).2:=by
 unfold xz_
 split
 ·exact .same _ (.inr ⟨by decide,by decide⟩)
 ·split
  ·exact .same _ (.inr ⟨by decide,by decide⟩)
  ·rename_i m ha
   split
   ·exact .burn (.inl ⟨by decide,by decide⟩)
   ·rename_i hb
    obtain⟨k,hk,hm⟩:=XB_ ha
    rw[hk]
    exact .remove k m hk hm (by simpa using hb)
theorem V7_ (S:DiskL) (dir name s:List UInt8):StepD S 4 dir name s (xJ_ S dir name s).1 (xJ_ S dir name s).2:=by
 unfold xJ_
 split
 ·exact .same _ (.inr ⟨by decide,by decide⟩)
 ·rename_i hf
  split
  ·exact .same _ (.inr ⟨by decide,by decide⟩)
  ·rename_i m ha
   split
   ·exact .burn (.inl ⟨by decide,by decide⟩)
   ·rename_i hne
    split
    ·exact .burn (.inl ⟨by decide,by decide⟩)
    ·rename_i hb
     obtain⟨k,hk,hm⟩:=XB_ ha
     obtain⟨-,-,hn⟩:=Qe_ (S:=S) (dir:=dir) (names:= [name,s]) (by simpa using hf)
     simp only[List.all_cons,List.all_nil,Bool.and_true,Bool.and_eq_true] at hn
     rw[hk]
     exact .rename k m rfl hk hm hn.2 hne (by simpa using hb)
theorem Wt_ (S:DiskL) (dir name s:List UInt8):StepD S 1 dir name s (qD_ S dir name s).1 (qD_ S dir name s).2:=by
 unfold qD_
 split
 ·exact .same _ (.inr ⟨by decide,by decide⟩)
 ·split
  ·exact .same _ (.inr ⟨by decide,by decide⟩)
  ·rename_i m ha
   split
   ·exact .same _ (.inr ⟨by decide,by decide⟩)
   ·rename_i hfl
    split
    ·exact .burn (.inl ⟨by decide,by decide⟩)
    ·rename_i hb
     obtain⟨k,hk,hm⟩:=XB_ ha
     exact .append k m hk hm (by simpa using hfl) (by simpa using hb)
theorem aeY_ (S:DiskL) (dir name s:List UInt8):StepD S 2 dir name s (je_ S dir name).1 (je_ S dir name).2:=by
 unfold je_
 split
 ·rename_i hf
  exact .same _ (.inl hf)
 ·split
  ·exact .same _ (.inl (Nat.succ_ne_zero 5))
  ·rename_i m ha
   split
   ·rename_i hb
    exact .burn (.inr hb)
   ·rename_i hb
    obtain⟨k,hk,hm⟩:=XB_ ha
    exact .sync k m hk hm (by simpa using hb)
theorem KG_ (S:DiskL) (dir name s:List UInt8):StepD S 3 dir name s (xs_ S dir).1 (xs_ S dir).2:=by
 unfold xs_
 split
 ·rename_i hf
  exact .same _ (.inl hf)
 ·rename_i hf
  split
  ·rename_i hb
   exact .burn (.inr hb)
  ·rename_i hb
   obtain⟨k,hk,-⟩:=Qe_ (S:=S) (dir:=dir) (names:= []) (by simpa using hf)
   rw[hk]
   exact .syncDir k hk (by simpa using hb)
theorem ajA_ {l:NmL} {a b:List UInt8} {m:Nat} (h:zQ_ l a=some m) (hne:a≠b):okC l ⟨1,a,b,0⟩:=fun _=>⟨by rw[h];simp,hne⟩
section
variable {S S':DiskL} {kind:Int} {dir name s:List UInt8} {e:Nat}
theorem aff_ (hu:xA_ S) (h:StepD S kind dir name s S' e):xA_ S':=by
 obtain⟨hb1,hb2,-⟩:=jC_ S
 have hbu:=kt_ hu
 cases h with
 |same=>exact hu
 |burn=>exact hbu
 |create k hk hf hn hb=>exact wt_ (xx_ hbu rfl) (fun e=>by cases e)
 |append k m hk hm hf hb=>exact xx_ hbu rfl
 |sync k m hk hm hb=>exact xx_ hbu rfl
 |syncDir k hk hb=>exact vB_ hbu (ZR_ _)
 |rename k m h4 hk hm hf hne hb=>exact wt_ hbu (by rw[hb1];exact ajA_ hm hne)
 |remove k m hk hm hb=>exact wt_ hbu (fun e=>by cases e)
theorem agd_ {N:Nat} (hu:DkN N S) (hn:name.length≤1000000) (hs:s.length≤1000000) (h:StepD S kind dir name s S' e):DkN (N+1) S':=by
 have hbu:=vN_ hu
 cases h with
 |same=>exact KC_ hu
 |burn=>exact KC_ hbu
 |create k hk hf hn' hb=>exact QH_ (kN_ hbu rfl) ⟨hn,Nat.zero_le _⟩
 |append k m hk hm hf hb=>exact KC_ (kN_ hbu rfl)
 |sync k m hk hm hb=>exact KC_ (kN_ hbu rfl)
 |syncDir k hk hb=>exact KC_ (wA_ hbu (Qs_ (hbu k).seen (hbu k).seenB))
 |rename k m h4 hk hm hf hne hb=>exact QH_ hbu ⟨hn,hs⟩
 |remove k m hk hm hb=>exact QH_ hbu ⟨hn,Nat.zero_le _⟩
end
end Go.Proofs
end
section
open Go Go.Proofs Go.Sx Go.StP
namespace Go.Proofs
set_option maxRecDepth 10000
set_option maxHeartbeats 400000
set_option linter.unusedSimpArgs false
section
variable {S S':DiskL} {kind:Int} {dir name s:List UInt8} {e:Nat}
end
end Go.Proofs
end
section
open Go Go.Proofs Go.Sx Go.StP
namespace Go.Proofs
set_option maxRecDepth 10000
set_option maxHeartbeats 400000
set_option linter.unusedSimpArgs false
def BegF (f g:FileL):Prop:=(∃t,g.data=f.data.take t)∧(f.stl=f.data.length→g.data=f.data∧g.stl=g.data.length)
theorem BegF.refl (f:FileL):BegF f f:=⟨⟨f.data.length,(List.take_length).symm⟩,fun h=>⟨rfl,h⟩⟩
theorem BegF.trans {f g h:FileL} (h1:BegF f g) (h2:BegF g h):BegF f h:=by
 obtain⟨⟨t,ht⟩,a⟩:=h1
 obtain⟨⟨u,hu⟩,b⟩:=h2
 refine⟨⟨min u t,by rw[hu,ht,List.take_take]⟩,fun e=> ?_⟩
 obtain⟨a1,a2⟩:=a e
 obtain⟨b1,b2⟩:=b a2
 exact⟨b1.trans a1,b2⟩
section
variable {S S':DiskL} {kind:Int} {dir name s:List UInt8} {e:Nat}
end
end Go.Proofs
end
section
open Go Go.Proofs Go.Sx Go.StP
namespace Go.Proofs
set_option maxRecDepth 10000
set_option maxHeartbeats 400000
set_option linter.unusedSimpArgs false
structure KeepS (S:DiskL) (k:Nat) (nm:List UInt8) (n:Nat) (data:List UInt8):Prop where
 lt:n<S.files.length
 data: (qo_ S n).data=data
 stl: (qo_ S n).stl=(qo_ S n).data.length
 at_:zQ_ (S.dir k).stl nm=some n
 pend: ∀c,c∈ (S.dir k).pend→c.a≠nm∧(c.kind=1→c.b≠nm)
theorem KB_ {x:List UInt8×Nat} {s:List UInt8} (hx:x.1≠s): ∀l:NmL,zQ_ (insN l x) s=zQ_ l s
 | []=>by
  have: (s==x.1)=false:=beq_eq_false_iff_ne.2 (Ne.symm hx)
  unfold insN zQ_
  rw[List.find?_cons,this]
 |p::l=>by
  have e: (s==x.1)=false:=beq_eq_false_iff_ne.2 (Ne.symm hx)
  have ih:=KB_ hx l
  unfold insN
  split
  ·unfold zQ_
   rw[List.find?_cons,e]
  ·unfold zQ_ at ih ⊢
   rw[List.find?_cons,List.find?_cons]
   split
   ·rfl
   ·exact ih
theorem vE_ {a s:List UInt8} (ha:a≠s): ∀l:NmL,zQ_ (j7_ l a) s=zQ_ l s
 | []=>rfl
 |p::l=>by
  have ih:=vE_ ha l
  unfold j7_ at ih ⊢
  rw[List.filter_cons]
  by_cases e:a=p.1
  ·have e1: (s==p.1)=false:=beq_eq_false_iff_ne.2 (fun h=>ha (by rw[e,h]))
   rw[if_neg (by rw[e];simp),ih]
   unfold zQ_
   rw[List.find?_cons,e1]
  ·rw[if_pos (by simpa using e)]
   unfold zQ_ at ih ⊢
   rw[List.find?_cons,List.find?_cons]
   split
   ·rfl
   ·exact ih
theorem abK_ {x:List UInt8×Nat} {s:List UInt8} (hx:x.1≠s) (l:NmL):zQ_ (putN l x) s=zQ_ l s:=by
 unfold putN
 rw[KB_ hx,vE_ hx]
theorem adu_ {l:NmL} {c:CallL} {s:List UInt8} (h:c.a≠s∧(c.kind=1→c.b≠s)):zQ_ (qV_ l c) s=zQ_ l s:=by
 unfold qV_
 split
 ·exact abK_ h.1 l
 ·rename_i hk
  rw[abK_ (h.2 hk),vE_ h.1]
 ·exact vE_ h.1 l
theorem KJ_ {s:List UInt8}: ∀ (cs:List CallL) (l:NmL),(∀c,c∈cs→c.a≠s∧(c.kind=1→c.b≠s))→zQ_ (cs.foldl qV_ l) s=zQ_ l s
 | [],_,_=>rfl
 |c::cs,l,h=>by
  rw[List.foldl_cons,KJ_ cs _ fun d hd=>h d (List.mem_cons_of_mem _ hd),adu_ (h c List.mem_cons_self)]
section
variable {S S':DiskL} {kind:Int} {dir name s:List UInt8} {e k n:Nat} {nm data:List UInt8}
theorem KeepS.seen (h:KeepS S k nm n data) (hh:xA_ S):zQ_ (S.dir k).seen nm=some n:=by
 rw[← (hh k).1,KJ_ _ _ h.pend,h.at_]
end
end Go.Proofs
end
section
open Go Go.Proofs Go.Sx Go.StP
namespace Go.Proofs
set_option maxRecDepth 10000
set_option maxHeartbeats 400000
set_option linter.unusedSimpArgs false
structure PkL where
 v:Value
 l:List UInt16
 h:Value.oneCell' v=true∧v.cells= #[v]
def pk0:PkL:=⟨.slice none 0 0,[],rfl,rfl⟩
structure ActL where
 kind:Int
 n:Int
 dir:List UInt8
 name:List UInt8
 s:List UInt8
 picks:PkL
structure ActOk (w:World) (a:ActL):Prop where
 pk:PkS w a.picks.v a.picks.l
 n: -9223372036854775808≤a.n∧a.n<9223372036854775808
theorem PkS.blk {w:World} {v:Value} {l:List UInt16} (h:PkS w v l) (hl:l≠ []) {b:Nat} (hb:slB v=some b):b<w.heap.size:=by
 obtain⟨b',off,c,arr,E,fz,hr,hc,⟨rfl,rfl,rfl⟩ | ⟨rfl,hh,-⟩⟩:=h.resolve_right fun e=>hl e.1
 ·exact absurd rfl hl
 ·cases hb
  exact(Array.getElem?_eq_some_iff.1 hh).1
set_option linter.defProp false
structure DkA (X:za_) (G:DkG) (S:DiskL) (N:Nat):Prop where
 P:DkP X G S
 H:xA_ S
 B:DkN N S
theorem DkA.pend {X:za_} {G:DkG} {S:DiskL} {N:Nat} (h:DkA X G S N) (hN:N<1000000): ∀k,k<3→(S.dir k).pend.length<1000000:=fun k _=>by
 have:=(h.B k).stl
 omega
theorem DkA.used {X:za_} {G:DkG} {S:DiskL} {N:Nat} (h:DkA X G S N) (hN:N<1000000):w8_ S<4611686018427387904:=by
 have:=ahK_ h.P.ok h.B
 omega
theorem DkA.mono {X X':za_} {G:DkG} {S:DiskL} {N:Nat} (h:DkA X G S N) (hk: ∀b o,Sx.look X b=some o→Sx.look X' b=some o):DkA X' G S N:=⟨h.P.mono hk,h.H,h.B⟩
theorem DkA.b {X:za_} {G:DkG} {S:DiskL} {N:Nat} (h:DkA X G S N) (hN:N<1000000):DkB S:=h.B.b (by omega)
end Go.Proofs
end
section
open Go Go.Proofs Go.Sx Go.StP
namespace Go.Proofs
set_option maxRecDepth 10000
set_option maxHeartbeats 400000
set_option linter.unusedSimpArgs false
set_option linter.defProp false
end Go.Proofs
end
section
open Go Go.Proofs Go.Sx Go.StP
namespace Go.Proofs
set_option maxRecDepth 10000
set_option maxHeartbeats 400000
set_option linter.unusedSimpArgs false
theorem abF_ {w:World} {L:za_} (hg:Jr_ w) (hn:New w.heap.size L):0∉keys L:=by
 obtain⟨e,fz,hgl⟩:=hg
 exact hn.not (Array.getElem?_eq_some_iff.1 hgl).1
theorem kx_ {w w':World} {L:za_} (hg:Jr_ w) (h:Hp w L w') (hn:New w.heap.size L):Jr_ w':=by
 have hno:=abF_ hg hn
 obtain⟨e,fz,hgl⟩:=hg
 exact⟨e,fz,(h.old _ (Array.getElem?_eq_some_iff.1 hgl).1 hno).trans hgl⟩
set_option linter.defProp false
end Go.Proofs
end
section
open Go Go.Proofs Go.Sx Go.StP
namespace Go.Proofs
set_option maxRecDepth 10000
set_option maxHeartbeats 400000
set_option linter.unusedSimpArgs false
structure GoodS (S:DiskL):Prop where
 srt: ∀k,k<3→SrtN (S.dir k).seen
 lt:LtS S
 uniq:akZ_ S
theorem DkOk.good {S:DiskL} (ok:DkOk S) (hu:akZ_ S):GoodS S:=⟨ok.seen,ok.seenN,hu⟩
def vu_ (s:List UInt8):List UInt8:=s++ [46,116,109,112]
section
variable {S S':DiskL} {kind:Int} {dir name s:List UInt8} {e:Nat}
end
end Go.Proofs
end
section
open Go Go.Proofs Go.Sx Go.StP
namespace Go.Proofs
set_option maxRecDepth 10000
set_option maxHeartbeats 400000
set_option linter.unusedSimpArgs false
structure TkL where
 dir:List UInt8
 name:List UInt8
 data:List UInt8
 light:Bool
 next:Nat
 made:Bool
 ended:Bool
structure PhR where
 did:Bool
 e:Nat
 t:TkL
 S:DiskL
def abE_ (t:TkL) (S:DiskL):PhR:=if(kb_ S t.dir (vu_ t.name)).2≠0 then⟨false,0,t,S⟩ else⟨true,(xz_ S t.dir (vu_ t.name)).2,t,(xz_ S t.dir (vu_ t.name)).1⟩
def WR_ (t:TkL) (S:DiskL):PhR:=⟨true,(xC_ S t.dir (vu_ t.name)).2,{t with made:=(xC_ S t.dir (vu_ t.name)).2==0},(xC_ S t.dir (vu_ t.name)).1⟩
def aaB_ (t:TkL) (S:DiskL):PhR:=⟨true,(qD_ S t.dir (vu_ t.name) t.data).2,t,(qD_ S t.dir (vu_ t.name) t.data).1⟩
def ahr_ (t:TkL) (S:DiskL):PhR:=if t.light=true then⟨false,0,t,S⟩ else⟨true,(je_ S t.dir (vu_ t.name)).2,t,(je_ S t.dir (vu_ t.name)).1⟩
def WQ_ (t:TkL) (S:DiskL):PhR:=⟨true,(xJ_ S t.dir (vu_ t.name) t.name).2,{t with made:=t.made&& (xJ_ S t.dir (vu_ t.name) t.name).2 !=0},(xJ_ S t.dir (vu_ t.name) t.name).1⟩
def Kb_ (t:TkL) (S:DiskL):PhR:=if t.light=true then⟨false,0,t,S⟩ else⟨true,(xs_ S t.dir).2,t,(xs_ S t.dir).1⟩
def phT (k:Nat) (t:TkL) (S:DiskL):PhR:=match k with
 |0=>abE_ t S
 |1=>WR_ t S
 |2=>aaB_ t S
 |3=>ahr_ t S
 |4=>WQ_ t S
 |_=>Kb_ t S
structure StR where
 done:Bool
 e:Nat
 t:TkL
 S:DiskL
def nxT (r:PhR):TkL:={r.t with next:=r.t.next+1}
def VB_ (t:TkL):Bool:=t.next==6|| (t.light&&t.next==5)
def jV_ (r:PhR):StR:=if(nxT r).made=true∧r.e≠9 then⟨false,r.e,{nxT r with ended:=true},(xz_ r.S r.t.dir (vu_ r.t.name)).1⟩ else⟨false,r.e,{nxT r with ended:=true},r.S⟩
def xn_ (r:PhR):TkL:={nxT r with ended:=VB_ (nxT r)}
def jy_:Nat→TkL→DiskL→StR
 |0,t,S=>⟨false,0,t,S⟩
 |f+1,t,S=>
  if(phT t.next t S).e≠0 then jV_ (phT t.next t S)
  else if(phT t.next t S).did=false∧VB_ (nxT (phT t.next t S))=false then jy_ f (xn_ (phT t.next t S)) (phT t.next t S).S
  else⟨VB_ (nxT (phT t.next t S)),0,xn_ (phT t.next t S),(phT t.next t S).S⟩
def jH_ (t:TkL) (S:DiskL):StR:=if t.ended=true then⟨false,15,t,S⟩ else jy_ (6 - t.next) t S
def runG:Nat→TkL→DiskL→Nat×TkL×DiskL
 |0,t,S=>(0,t,S)
 |f+1,t,S=>if(jH_ t S).done=true∨(jH_ t S).e≠0 then((jH_ t S).e,(jH_ t S).t,(jH_ t S).S) else runG f (jH_ t S).t (jH_ t S).S
def phG:Nat→TkL→DiskL→Nat×DiskL
 |0,_,S=>(0,S)
 |f+1,t,S=>
  if(phT t.next t S).e≠0 then((jV_ (phT t.next t S)).e,(jV_ (phT t.next t S)).S)
  else if VB_ (nxT (phT t.next t S))=true then(0,(phT t.next t S).S)
  else phG f (xn_ (phT t.next t S)) (phT t.next t S).S
theorem alP_ (f:Nat) (t:TkL) (S:DiskL):phG (f+1) t S=(if(phT t.next t S).e≠0 then((jV_ (phT t.next t S)).e,(jV_ (phT t.next t S)).S)
  else if VB_ (nxT (phT t.next t S))=true then(0,(phT t.next t S).S)
  else phG f (xn_ (phT t.next t S)) (phT t.next t S).S):=rfl
theorem agJ_ (k:Nat) (t:TkL) (S:DiskL): (phT k t S).t.dir=t.dir∧(phT k t S).t.name=t.name∧(phT k t S).t.data=t.data∧(phT k t S).t.light=t.light∧(phT k t S).t.next=t.next∧(phT k t S).t.ended=t.ended:=by
 unfold phT
 split
 ·unfold abE_;split<;>exact⟨rfl,rfl,rfl,rfl,rfl,rfl⟩
 ·exact⟨rfl,rfl,rfl,rfl,rfl,rfl⟩
 ·exact⟨rfl,rfl,rfl,rfl,rfl,rfl⟩
 ·unfold ahr_;split<;>exact⟨rfl,rfl,rfl,rfl,rfl,rfl⟩
 ·exact⟨rfl,rfl,rfl,rfl,rfl,rfl⟩
 ·unfold Kb_;split<;>exact⟨rfl,rfl,rfl,rfl,rfl,rfl⟩
theorem adN_ (k:Nat) (t:TkL) (S:DiskL): (xn_ (phT k t S)).dir=t.dir∧(xn_ (phT k t S)).name=t.name∧(xn_ (phT k t S)).data=t.data∧(xn_ (phT k t S)).light=t.light∧(xn_ (phT k t S)).next=t.next+1:=by
 obtain⟨h1,h2,h3,h4,h5,-⟩:=agJ_ k t S
 exact⟨h1,h2,h3,h4,congrArg (· +1) h5⟩
theorem agi_ (r:PhR): (jV_ r).e=r.e∧(jV_ r).done=false:=by
 unfold jV_
 split<;>exact⟨rfl,rfl⟩
theorem aag_: ∀ (f:Nat) (t:TkL) (S:DiskL),f+t.next=6→0<f→
  ((jy_ f t S).e≠0∧phG f t S=((jy_ f t S).e,(jy_ f t S).S))∨
  ((jy_ f t S).e=0∧(jy_ f t S).done=true∧phG f t S=(0,(jy_ f t S).S))∨
  ((jy_ f t S).e=0∧(jy_ f t S).done=false∧(jy_ f t S).t.ended=false∧t.next< (jy_ f t S).t.next∧(jy_ f t S).t.next<6∧phG f t S=phG (6 - (jy_ f t S).t.next) (jy_ f t S).t (jy_ f t S).S)
 |0,_,_,_,h=>absurd h (Nat.lt_irrefl 0)
 |f+1,t,S,hf,_=>by
  obtain⟨-,-,-,-,hn,-⟩:=agJ_ t.next t S
  have hfn: (xn_ (phT t.next t S)).next=t.next+1:=(adN_ t.next t S).2.2.2.2
  have hfe: (xn_ (phT t.next t S)).ended=VB_ (nxT (phT t.next t S)):=rfl
  unfold jy_
  rw[alP_]
  by_cases he: (phT t.next t S).e≠0
  ·rw[if_pos he,if_pos he]
   exact .inl ⟨by rw[(agi_ _).1];exact he,rfl⟩
  ·rw[if_neg he,if_neg he]
   cases hen:VB_ (nxT (phT t.next t S)) with
   |true=>
    rw[if_neg (fun h=>by cases h.2),if_pos rfl]
    exact .inr (.inl ⟨rfl,rfl,rfl⟩)
   |false=>
    have hlt:t.next+1<6:=by
     have h1: (nxT (phT t.next t S)).next=t.next+1:=congrArg (· +1) hn
     unfold VB_ at hen
     rw[h1] at hen
     simp only[Bool.or_eq_false_iff,beq_eq_false_iff_ne] at hen
     have:=hen.1
     omega
    rw[if_neg (show¬ (false=true) by simp)]
    by_cases hd: (phT t.next t S).did=false
    ·rw[if_pos ⟨hd,rfl⟩]
     have ih:=aag_ f (xn_ (phT t.next t S)) (phT t.next t S).S (by rw[hfn];omega) (by omega)
     rw[hfn] at ih
     rcases ih with h|h| ⟨h1,h2,h3,h4,h5⟩
     ·exact .inl h
     ·exact .inr (.inl h)
     ·exact .inr (.inr ⟨h1,h2,h3,by omega,h5⟩)
    ·rw[if_neg fun h=>hd h.1]
     refine .inr (.inr ⟨rfl,rfl,hfe.trans hen,by show t.next< (xn_ (phT t.next t S)).next;rw[hfn];omega,by show(xn_ (phT t.next t S)).next<6;rw[hfn];exact hlt, ?_⟩)
     show phG f _ _=phG (6 - (xn_ (phT t.next t S)).next) _ _
     rw[hfn,show 6 - (t.next+1)=f by omega]
theorem aid_: ∀ (n f:Nat) (t:TkL) (S:DiskL),6 - t.next≤n→t.next<6→t.ended=false→6 - t.next≤f→((runG f t S).1,(runG f t S).2.2)=phG (6 - t.next) t S
 |0,_,_,_,hn,hl,_,_=>by omega
 |n+1,0,_,_,_,hl,_,hf=>by omega
 |n+1,f+1,t,S,hn,hl,he,hf=>by
  have hs:jH_ t S=jy_ (6 - t.next) t S:=by unfold jH_;rw[if_neg (by rw[he];simp)]
  unfold runG
  rw[hs]
  rcases aag_ (6 - t.next) t S (by omega) (by omega) with⟨h1,h2⟩ | ⟨h1,h2,h3⟩ | ⟨h1,h2,h3,h4,h5,h6⟩
  ·rw[if_pos (.inr h1),h2]
  ·rw[if_pos (.inl h2),h3,h1]
  ·rw[if_neg (by rw[h1,h2];simp),h6]
   exact aid_ n f _ _ (by omega) h5 h3 (by omega)
def tk0 (dir name data:List UInt8) (light:Bool):TkL:=⟨dir,name,data,light,0,false,false⟩
def pubV (S:DiskL) (dir name data:List UInt8) (light:Bool):Nat×DiskL:=phG 6 (tk0 dir name data light) S
theorem ajn_ (S:DiskL) (dir name data:List UInt8) (light:Bool): ((runG 6 (tk0 dir name data light) S).1,(runG 6 (tk0 dir name data light) S).2.2)=pubV S dir name data light:=aid_ 6 6 (tk0 dir name data light) S (Nat.le_refl 6) (Nat.succ_pos 5) rfl (Nat.le_refl 6)
end Go.Proofs
end
section
open Go Go.Proofs Go.Sx Go.StP
namespace Go.Proofs
set_option maxRecDepth 10000
set_option maxHeartbeats 400000
set_option linter.unusedSimpArgs false
def tkO (t:TkL):Obj:= .cells #[vs t.dir,vs t.name,vs t.data, .bool t.light,vi (t.next:Int), .bool t.made, .bool t.ended] 321 (0,0)
theorem abD_ (t:TkL) (n:Nat):zD_ (some (false,n)) (some (tkO t)) 0=some (vs t.dir):=(rfl)
theorem abM_ (t:TkL) (n:Nat):zD_ (some (false,n)) (some (tkO t)) 1=some (vs t.name):=(rfl)
theorem abt_ (t:TkL) (n:Nat):zD_ (some (false,n)) (some (tkO t)) 2=some (vs t.data):=(rfl)
theorem abP_ (t:TkL) (n:Nat):zD_ (some (false,n)) (some (tkO t)) 3=some (.bool t.light):=(rfl)
theorem abA_ (t:TkL) (n:Nat):zD_ (some (false,n)) (some (tkO t)) 4=some (vi (t.next:Int)):=(rfl)
theorem abO_ (t:TkL) (n:Nat):zD_ (some (false,n)) (some (tkO t)) 5=some (.bool t.made):=(rfl)
theorem abc_ (t:TkL) (n:Nat):zD_ (some (false,n)) (some (tkO t)) 6=some (.bool t.ended):=(rfl)
theorem K0_ (t:TkL) (x:Nat) (a:Bool):zz_ (some (a,1)) (some (tkO t)) 4 (vi (x:Int))=some (tkO {t with next:=x}):=qG_ [vs t.dir,vs t.name,vs t.data, .bool t.light] [vi (t.next:Int)] [vi (x:Int)] [.bool t.made, .bool t.ended] a _ 321 rfl rfl rfl rfl rfl
theorem aeM_ (t:TkL) (x:Bool) (a:Bool):zz_ (some (a,1)) (some (tkO t)) 5 (.bool x)=some (tkO {t with made:=x}):=qG_ [vs t.dir,vs t.name,vs t.data, .bool t.light,vi (t.next:Int)] [.bool t.made] [.bool x] [.bool t.ended] a _ 321 rfl rfl rfl rfl rfl
theorem Z7_ (t:TkL) (x:Bool) (a:Bool):zz_ (some (a,1)) (some (tkO t)) 6 (.bool x)=some (tkO {t with ended:=x}):=qG_ [vs t.dir,vs t.name,vs t.data, .bool t.light,vi (t.next:Int), .bool t.made] [.bool t.ended] [.bool x] [] a _ 321 rfl rfl rfl rfl rfl
structure TkB (t:TkL):Prop where
 name:t.name.length≤900000
 data:t.data.length≤1000000
theorem ki_ {t:TkL} (h:TkB t): (vu_ t.name).length≤900004:=by
 unfold vu_
 rw[List.length_append]
 have:=h.name
 simp
 omega
theorem DkA.step {X X':za_} {G G':DkG} {S S':DiskL} {N:Nat} {kind:Int} {dir name s:List UInt8} {e:Nat} (h:DkA X G S N) (hP:DkP X' G' S') (hst:StepD S kind dir name s S' e) (hn:name.length≤1000000) (hs:s.length≤1000000):DkA X' G' S' (N+1):=⟨hP,aff_ h.H hst,agd_ h.B hn hs hst⟩
theorem DkA.up {X:za_} {G:DkG} {S:DiskL} {N:Nat} (h:DkA X G S N):DkA X G S (N+1):=⟨h.P,h.H,h.B.mono (Nat.le_succ N)⟩
def PhS (G:DkG) (bt:Nat) (r:PhR) (N:Nat) (v:Value) (D:za_):Prop:=v= .tuple #[.bool r.did,vi (r.e:Nat)]∧ ∃X' G',(X'++ [(bt,tkO r.t)]).Perm D∧G'.bd=G.bd∧DkA X' G' r.S N
theorem al3_ (b o:Nat):qy_ Tryz.prog .eql 270 (vp b o) (.pointer none)=some (.bool false):=by
 simp[qy_,eqX,qk_,qp_,Tryz.underlying270,vp]
theorem jx_ {X:za_} {bt:Nat} {t:TkL} (hn: (keys (X++ [(bt,tkO t)])).Nodup):bt∉keys X∧ ∀X' o,bt∉keys X'→ ∀w,zs_ w (X'++ [(bt,o)]) bt=some o:=by
 rw[zc_,List.nodup_append] at hn
 refine⟨fun hm=>hn.2.2 bt hm bt (by simp[keys]) rfl,fun X' o h w=>zb_ (@vq_ _ [] _ _ h)⟩
set_option linter.defProp false
def zS_:=And.intro (And.intro (And.intro (@zw_) (And.intro (@zv_) (@abD_))) (And.intro (And.intro (@abM_) (@abt_)) (And.intro (@abP_) (@abA_)))) (And.intro (And.intro (@abO_) (And.intro (@abc_) (@K0_))) (And.intro (And.intro (@aeM_) (@Z7_)) (And.intro (@Sx.tup2_0) (@Sx.tup2_1))))
theorem ab2_ (X:za_) (G:DkG) (S:DiskL) (N bt:Nat) (t:TkL) (w:World) (hX: ∀p,p∈X++ [(bt,tkO t)]→w.heap[p.1]? =some p.2) (hn: (keys (X++ [(bt,tkO t)])).Nodup) (hA:DkA X G S N) (hN:N<900000) (hB:TkB t):
  Rets Tryz.prog 273 #[vp bt 0,vp G.bd 0] w (XS w (X++ [(bt,tkO t)]) (PhS G bt (abE_ t S) (N+1))):=by
 refine Rets.enterX Tryz.func273 rfl (rs:= [.tmp 4, .tmp 5]) Tryz.results273 Tryz.ntmps273 hX hn ?_
 refine kf ?_
 have hbx:=(jx_ hn).1
 have rdt:=(jx_ hn).2 X (tkO t) hbx w
 have hnl:=ki_ hB
 have hnd:t.name.length≤900000:=hB.name
 have hdl:=hB.data
 have hpd:=hA.pend (by omega)
 have hus:=hA.used (by omega)
 unfold abE_
 first|with_reducible refine ks [] @zS_ ?_|refine kp @zS_ ?_
 refine Cw.regionO [0,1,2,3,5,6,7,4,8,9,10,11,12,13,14,15] [] rfl (by kernel_rfl) (by kernel_rfl) ?_
 simp only[zI_, ↓zr_, ↓zk_, ↓z0_, ↓zZ_,zl_]
 refine kq (And.intro @zS_ @rdt) ?_
 refine Ow.callFV rfl Tryz.call94 (fun w' hw'=>JP_ w' G S t.dir (vu_ t.name) ⟨X,fun b o hb=>hw'.has b o (List.mem_append_left _ (zt_ hb)),hA.P⟩ (by omega)) ?_
 refine kq @zS_ ?_
 by_cases h0: (kb_ S t.dir (vu_ t.name)).2≠0
 ·have e1:=jL_ h0
  rw[if_pos h0]
  first|with_reducible refine ks [] (And.intro @zS_ @e1) ?_|refine kp (And.intro @zS_ @e1) ?_
  refine⟨_,(ke @zS_), ?_⟩
  exact⟨Ext.refl w _,rfl,X,G,List.Perm.refl _,rfl,hA.up⟩
 ·have h0': (kb_ S t.dir (vu_ t.name)).2=0:=by simpa using h0
  have e1: (((kb_ S t.dir (vu_ t.name)).2:Int) !=0)=false:=by rw[h0'];rfl
  rw[if_neg h0]
  first|with_reducible refine ks [] (And.intro @zS_ @e1) ?_|refine kp (And.intro @zS_ @e1) ?_
  refine Cw.regionO [0,1,2,3,5,6,7,4,8,9,10,11,12] [10] rfl (by kernel_rfl) (by kernel_rfl) ?_
  simp only[zI_, ↓zr_, ↓zk_, ↓z0_, ↓zZ_,zl_]
  refine kq (And.intro @zS_ @rdt) ?_
  refine Ow.callX (X:=X) (Y:= [(bt,tkO t)]) rfl rfl rfl Tryz.call240 (fun w' hw' hX' hn'=>w0_ X G S t.dir (vu_ t.name) w' hX' hn' hA.P (by omega) hpd) (fun v4 D4 hC4 hS4=> ?_)
  obtain⟨rfl,G',hbd,hP'⟩:=hS4
  refine kq @zS_ ?_
  first|with_reducible refine ks [] @zS_ ?_|refine kp @zS_ ?_
  refine⟨_,(ke @zS_), ?_⟩
  exact⟨(Ext.refl w _).came hC4,rfl,D4,G',List.Perm.refl _,hbd,hA.step hP' (ZV_ S _ _ []) (by omega) (Nat.zero_le _)⟩
theorem Kg_ (X:za_) (G:DkG) (S:DiskL) (N bt:Nat) (t:TkL) (w:World) (hX: ∀p,p∈X++ [(bt,tkO t)]→w.heap[p.1]? =some p.2) (hn: (keys (X++ [(bt,tkO t)])).Nodup) (hA:DkA X G S N) (hN:N<900000) (hB:TkB t):
  Rets Tryz.prog 274 #[vp bt 0,vp G.bd 0] w (XS w (X++ [(bt,tkO t)]) (PhS G bt (WR_ t S) (N+1))):=by
 refine Rets.enterX Tryz.func274 rfl (rs:= [.tmp 4, .tmp 5]) Tryz.results274 Tryz.ntmps274 hX hn ?_
 refine kf ?_
 have hbx:=(jx_ hn).1
 have rdt:=(jx_ hn).2 X (tkO t) hbx w
 have hnl:=ki_ hB
 have hnd:t.name.length≤900000:=hB.name
 have hdl:=hB.data
 have hpd:=hA.pend (by omega)
 have hus:=hA.used (by omega)
 unfold WR_
 first|with_reducible refine ks [2] @zS_ ?_|refine kp @zS_ ?_
 refine Cw.regionO [0,1,2,3,5,6,7,4,8,9,10,11] [10] rfl (by kernel_rfl) (by kernel_rfl) ?_
 simp only[zI_, ↓zr_, ↓zk_, ↓z0_, ↓zZ_,zl_]
 refine kq (And.intro @zS_ @rdt) ?_
 refine Ow.callX (X:=X) (Y:= [(bt,tkO t)]) rfl rfl rfl Tryz.call306 (fun w' hw' hX' hn'=>Vb_ X G S t.dir (vu_ t.name) w' hX' hn' hA.P (by omega) hpd) (fun v4 D4 hC4 hS4=> ?_)
 obtain⟨rfl,G',hbd,hP'⟩:=hS4
 refine kq @zS_ ?_
 refine Cw.permL (M:=(bt,tkO t)::D4) (by classical exact List.perm_iff_count.2 fun a=>by simp only[List.count_append,List.count_cons,List.count_nil]<;>omega) ?_
 have hA':=hA.step hP' (W1_ S _ _ []) (by omega) (Nat.zero_le _)
 have hE:=(Ext.refl w (X++ [(bt,tkO t)])).came hC4
 generalize xC_ S t.dir (vu_ t.name)=q at*
 obtain⟨S',e⟩:=q
 simp only at hA' ⊢
 have hi: ((e:Int)==0)=(e==0):=by
  cases e with
  |zero=>rfl
  |succ n=>rfl
 first|with_reducible refine ks [] (And.intro @zS_ @hi) ?_|refine kp (And.intro @zS_ @hi) ?_
 refine⟨_,(ke @zS_), ?_⟩
 exact⟨(hE.perm (List.perm_append_comm (l₁:= [(bt,tkO t)]) (l₂:=D4))).keys rfl,rfl,D4,G',List.perm_append_comm (l₁:=D4) (l₂:= [_]),hbd,hA'⟩
theorem Km_ (X:za_) (G:DkG) (S:DiskL) (N bt:Nat) (t:TkL) (w:World) (hX: ∀p,p∈X++ [(bt,tkO t)]→w.heap[p.1]? =some p.2) (hn: (keys (X++ [(bt,tkO t)])).Nodup) (hA:DkA X G S N) (hN:N<900000) (hB:TkB t):
  Rets Tryz.prog 275 #[vp bt 0,vp G.bd 0] w (XS w (X++ [(bt,tkO t)]) (PhS G bt (aaB_ t S) (N+1))):=by
 refine Rets.enterX Tryz.func275 rfl (rs:= [.tmp 4, .tmp 5]) Tryz.results275 Tryz.ntmps275 hX hn ?_
 refine kf ?_
 have hbx:=(jx_ hn).1
 have rdt:=(jx_ hn).2 X (tkO t) hbx w
 have hnl:=ki_ hB
 have hnd:t.name.length≤900000:=hB.name
 have hdl:=hB.data
 have hpd:=hA.pend (by omega)
 have hus:=hA.used (by omega)
 unfold aaB_
 first|with_reducible refine ks [] @zS_ ?_|refine kp @zS_ ?_
 refine Cw.regionO [0,1,2,3,5,6,7,10,11,12,4,8,9,13,14,15,16] [14] rfl (by kernel_rfl) (by kernel_rfl) ?_
 simp only[zI_, ↓zr_, ↓zk_, ↓z0_, ↓zZ_,zl_]
 refine kq (And.intro @zS_ @rdt) ?_
 refine Ow.callX (X:=X) (Y:= [(bt,tkO t)]) rfl rfl rfl Tryz.call84 (fun w' hw' hX' hn'=>wR_ X G S t.dir (vu_ t.name) t.data w' hX' hn' hA.P (by omega) (by omega) hus) (fun v4 D4 hC4 hS4=> ?_)
 obtain⟨rfl,hP'⟩:=hS4
 refine kq @zS_ ?_
 first|with_reducible refine ks [] @zS_ ?_|refine kp @zS_ ?_
 refine⟨_,(ke @zS_), ?_⟩
 exact⟨(Ext.refl w _).came hC4,rfl,D4,G,List.Perm.refl _,rfl,hA.step hP' (Wt_ S _ _ _) (by omega) (by omega)⟩
theorem WY_ (X:za_) (G:DkG) (S:DiskL) (N bt:Nat) (t:TkL) (w:World) (hX: ∀p,p∈X++ [(bt,tkO t)]→w.heap[p.1]? =some p.2) (hn: (keys (X++ [(bt,tkO t)])).Nodup) (hA:DkA X G S N) (hN:N<900000) (hB:TkB t):
  Rets Tryz.prog 276 #[vp bt 0,vp G.bd 0] w (XS w (X++ [(bt,tkO t)]) (PhS G bt (ahr_ t S) (N+1))):=by
 refine Rets.enterX Tryz.func276 rfl (rs:= [.tmp 4, .tmp 5]) Tryz.results276 Tryz.ntmps276 hX hn ?_
 refine kf ?_
 have hbx:=(jx_ hn).1
 have rdt:=(jx_ hn).2 X (tkO t) hbx w
 have hnl:=ki_ hB
 have hnd:t.name.length≤900000:=hB.name
 have hdl:=hB.data
 have hpd:=hA.pend (by omega)
 have hus:=hA.used (by omega)
 unfold ahr_
 by_cases hl:t.light=true
 ·rw[if_pos hl]
  first|with_reducible refine ks [] (And.intro @zS_ (And.intro @rdt (@hl))) ?_|refine kp (And.intro @zS_ (And.intro @rdt (@hl))) ?_
  refine⟨_,(ke @zS_), ?_⟩
  exact⟨Ext.refl w _,rfl,X,G,List.Perm.refl _,rfl,hA.up⟩
 ·rw[if_neg hl]
  have hl':t.light=false:=by simpa using hl
  first|with_reducible refine ks [] (And.intro @zS_ (And.intro @rdt (@hl'))) ?_|refine kp (And.intro @zS_ (And.intro @rdt (@hl'))) ?_
  refine Cw.regionO [0,1,2,3,5,6,7,4,8,9,10,11,12] [10] rfl (by kernel_rfl) (by kernel_rfl) ?_
  simp only[zI_, ↓zr_, ↓zk_, ↓z0_, ↓zZ_,zl_]
  refine kq (And.intro @zS_ @rdt) ?_
  refine Ow.callX (X:=X) (Y:= [(bt,tkO t)]) rfl rfl rfl Tryz.call85 (fun w' hw' hX' hn'=>JT_ X G S t.dir (vu_ t.name) w' hX' hn' hA.P (by omega)) (fun v4 D4 hC4 hS4=> ?_)
  obtain⟨rfl,hP'⟩:=hS4
  refine kq @zS_ ?_
  first|with_reducible refine ks [] @zS_ ?_|refine kp @zS_ ?_
  refine⟨_,(ke @zS_), ?_⟩
  exact⟨(Ext.refl w _).came hC4,rfl,D4,G,List.Perm.refl _,rfl,hA.step hP' (aeY_ S _ _ []) (by omega) (Nat.zero_le _)⟩
theorem X9_ (X:za_) (G:DkG) (S:DiskL) (N bt:Nat) (t:TkL) (w:World) (hX: ∀p,p∈X++ [(bt,tkO t)]→w.heap[p.1]? =some p.2) (hn: (keys (X++ [(bt,tkO t)])).Nodup) (hA:DkA X G S N) (hN:N<900000) (hB:TkB t):
  Rets Tryz.prog 278 #[vp bt 0,vp G.bd 0] w (XS w (X++ [(bt,tkO t)]) (PhS G bt (Kb_ t S) (N+1))):=by
 refine Rets.enterX Tryz.func278 rfl (rs:= [.tmp 4, .tmp 5]) Tryz.results278 Tryz.ntmps278 hX hn ?_
 refine kf ?_
 have hbx:=(jx_ hn).1
 have rdt:=(jx_ hn).2 X (tkO t) hbx w
 have hnl:=ki_ hB
 have hnd:t.name.length≤900000:=hB.name
 have hdl:=hB.data
 have hpd:=hA.pend (by omega)
 have hus:=hA.used (by omega)
 unfold Kb_
 by_cases hl:t.light=true
 ·rw[if_pos hl]
  first|with_reducible refine ks [] (And.intro @zS_ (And.intro @rdt (@hl))) ?_|refine kp (And.intro @zS_ (And.intro @rdt (@hl))) ?_
  refine⟨_,(ke @zS_), ?_⟩
  exact⟨Ext.refl w _,rfl,X,G,List.Perm.refl _,rfl,hA.up⟩
 ·rw[if_neg hl]
  have hl':t.light=false:=by simpa using hl
  first|with_reducible refine ks [] (And.intro @zS_ (And.intro @rdt (@hl'))) ?_|refine kp (And.intro @zS_ (And.intro @rdt (@hl'))) ?_
  refine kq (And.intro @zS_ @rdt) ?_
  refine Ow.callX (X:=X) (Y:= [(bt,tkO t)]) rfl rfl rfl Tryz.call308 (fun w' hw' hX' hn'=>XA_ X G S t.dir w' hX' hn' hA.P) (fun v4 D4 hC4 hS4=> ?_)
  obtain⟨rfl,G',hbd,hP'⟩:=hS4
  refine kq @zS_ ?_
  first|with_reducible refine ks [] @zS_ ?_|refine kp @zS_ ?_
  refine⟨_,(ke @zS_), ?_⟩
  exact⟨(Ext.refl w _).came hC4,rfl,D4,G',List.Perm.refl _,hbd,hA.step hP' (KG_ S _ [] []) (Nat.zero_le _) (Nat.zero_le _)⟩
theorem XD_ (X:za_) (G:DkG) (S:DiskL) (N bt:Nat) (t:TkL) (w:World) (hX: ∀p,p∈X++ [(bt,tkO t)]→w.heap[p.1]? =some p.2) (hn: (keys (X++ [(bt,tkO t)])).Nodup) (hA:DkA X G S N) (hN:N<900000) (hB:TkB t):
  Rets Tryz.prog 277 #[vp bt 0,vp G.bd 0] w (XS w (X++ [(bt,tkO t)]) (PhS G bt (WQ_ t S) (N+1))):=by
 refine Rets.enterX Tryz.func277 rfl (rs:= [.tmp 4, .tmp 5]) Tryz.results277 Tryz.ntmps277 hX hn ?_
 refine kf ?_
 have hbx:=(jx_ hn).1
 have rdt:=(jx_ hn).2 X (tkO t) hbx w
 have hnl:=ki_ hB
 have hnd:t.name.length≤900000:=hB.name
 have hdl:=hB.data
 have hpd:=hA.pend (by omega)
 have hus:=hA.used (by omega)
 unfold WQ_
 first|with_reducible refine ks [2] @zS_ ?_|refine kp @zS_ ?_
 refine Cw.regionO [0,1,2,3,5,6,7,10,11,12,4,8,9,13,14,15] [14] rfl (by kernel_rfl) (by kernel_rfl) ?_
 simp only[zI_, ↓zr_, ↓zk_, ↓z0_, ↓zZ_,zl_]
 refine kq (And.intro @zS_ @rdt) ?_
 refine Ow.callX (X:=X) (Y:= [(bt,tkO t)]) rfl rfl rfl Tryz.call307 (fun w' hw' hX' hn'=>VI_ X G S t.dir (vu_ t.name) t.name w' hX' hn' hA.P (by omega) (by omega) hpd) (fun v4 D4 hC4 hS4=> ?_)
 obtain⟨rfl,G',hbd,hP'⟩:=hS4
 refine kq @zS_ ?_
 refine Cw.permL (M:=(bt,tkO t)::D4) (by classical exact List.perm_iff_count.2 fun a=>by simp only[List.count_append,List.count_cons,List.count_nil]<;>omega) ?_
 have hA':=hA.step hP' (V7_ S _ _ _) (by omega) (by omega)
 have hE:=(Ext.refl w (X++ [(bt,tkO t)])).came hC4
 generalize xJ_ S t.dir (vu_ t.name) t.name=q at*
 obtain⟨S',e⟩:=q
 simp only at hA' ⊢
 have hi: ((e:Int) !=0)=(e !=0):=by
  cases e with
  |zero=>rfl
  |succ n=>rfl
 cases hm:t.made with
 |true=>
  rw[Bool.true_and]
  first|with_reducible refine ks [] (And.intro @zS_ (And.intro @hi (@hm))) ?_|refine kp (And.intro @zS_ (And.intro @hi (@hm))) ?_
  refine⟨_,(ke @zS_), ?_⟩
  exact⟨(hE.perm (List.perm_append_comm (l₁:= [(bt,tkO t)]) (l₂:=D4))).keys rfl,rfl,D4,G',List.perm_append_comm (l₁:=D4) (l₂:= [_]),hbd,hA'⟩
 |false=>
  rw[Bool.false_and]
  first|with_reducible refine ks [] (And.intro @zS_ (And.intro @hi (@hm))) ?_|refine kp (And.intro @zS_ (And.intro @hi (@hm))) ?_
  refine⟨_,(ke @zS_), ?_⟩
  exact⟨(hE.perm (List.perm_append_comm (l₁:= [(bt,tkO t)]) (l₂:=D4))).keys rfl,rfl,D4,G',List.perm_append_comm (l₁:=D4) (l₂:= [_]),hbd,hA'⟩
end Go.Proofs
end
section
open Go Go.Proofs Go.Sx Go.StP
namespace Go.Proofs
set_option maxRecDepth 10000
set_option maxHeartbeats 1000000
set_option linter.unusedSimpArgs false
def phF (n:Nat):FuncId:=match n with
 |0=>273
 |1=>274
 |2=>275
 |3=>276
 |4=>277
 |_=>278
def stV:List Value:= [.func (.func (phF 0)) #[] #[], .func (.func (phF 1)) #[] #[], .func (.func (phF 2)) #[] #[], .func (.func (phF 3)) #[] #[], .func (.func (phF 4)) #[] #[], .func (.func (phF 5)) #[] #[]]
def stO:Obj:= .cells stV.toArray 348 (0,0)
theorem ajg_ (n m:Nat) (h:n<6):zD_ (some (false,m)) (some stO) n=some (.func (.func (phF n)) #[] #[]):=by
 rcases(by omega:n=0∨n=1∨n=2∨n=3∨n=4∨n=5) with rfl|rfl|rfl|rfl|rfl|rfl<;>rfl
theorem aiV_ (n:Nat) (h:n<6) (X:za_) (G:DkG) (S:DiskL) (N bt:Nat) (t:TkL) (w:World) (hX: ∀p,p∈X++ [(bt,tkO t)]→w.heap[p.1]? =some p.2) (hn: (keys (X++ [(bt,tkO t)])).Nodup) (hA:DkA X G S N) (hN:N<900000) (hB:TkB t):
  Rets Tryz.prog (phF n) #[vp bt 0,vp G.bd 0] w (XS w (X++ [(bt,tkO t)]) (PhS G bt (phT n t S) (N+1))):=by
 rcases(by omega:n=0∨n=1∨n=2∨n=3∨n=4∨n=5) with rfl|rfl|rfl|rfl|rfl|rfl
 ·exact ab2_ X G S N bt t w hX hn hA hN hB
 ·exact Kg_ X G S N bt t w hX hn hA hN hB
 ·exact Km_ X G S N bt t w hX hn hA hN hB
 ·exact WY_ X G S N bt t w hX hn hA hN hB
 ·exact XD_ X G S N bt t w hX hn hA hN hB
 ·exact X9_ X G S N bt t w hX hn hA hN hB
theorem ajK_ (n:Nat) (h:n<6): ∀a w,(callFunc (phF n) a).run Tryz.prog w= .ok (.enter (phF n) a) w:=by
 rcases(by omega:n=0∨n=1∨n=2∨n=3∨n=4∨n=5) with rfl|rfl|rfl|rfl|rfl|rfl
 ·exact Tryz.call273
 ·exact Tryz.call274
 ·exact Tryz.call275
 ·exact Tryz.call276
 ·exact Tryz.call277
 ·exact Tryz.call278
theorem XH_ (bt:Nat) (t:TkL) (w:World) (hX:w.heap[bt]? =some (tkO t)):Rets Tryz.prog 238 #[vp bt 0] w (fun v D=>v= .bool t.ended∧D= []):=by
 have hnl:=al3_ bt 0
 refine Rets.enterV Tryz.func238 rfl (rs:= [.tmp 2]) Tryz.results238 Tryz.ntmps238 ?_
 refine kf ?_
 first|with_reducible refine ks [] (And.intro @hX @hnl) ?_|refine kp (And.intro @hX @hnl) ?_
 refine⟨_,(ke @Nat.add_zero),trivial, ?_⟩
 rfl
theorem agp_:jD_ (Zl_ Tryz.prog 348) (zY_ Tryz.prog 348) [(0, .func (.func (phF 0)) #[] #[]),(1, .func (.func (phF 1)) #[] #[]),(2, .func (.func (phF 2)) #[] #[]),(3, .func (.func (phF 3)) #[] #[]),(4, .func (.func (phF 4)) #[] #[]),(5, .func (.func (phF 5)) #[] #[])]=some (.agg stV.toArray):=by
 rw[show Zl_ Tryz.prog 348=some [(0,1),(1,1),(2,1),(3,1),(4,1),(5,1)] from id (by kernel_rfl),Tryz.zr348];rfl
theorem Zs_:zz_ (some (true,6)) (some (.cells #[.nilFunc, .nilFunc, .nilFunc, .nilFunc, .nilFunc, .nilFunc] 348 (0,0))) 0 (.agg stV.toArray)=some stO:=(rfl)
theorem ab6_ (w:World):Rets Tryz.prog 239 #[] w (fun v D=>v= .agg stV.toArray∧D= []):=by
 refine Rets.enterV Tryz.func239 rfl (rs:= [.cell 0 348]) Tryz.results239 Tryz.ntmps239 ?_
 refine kf ?_
 first|with_reducible refine ks [] @Nat.add_zero ?_|refine kp @Nat.add_zero ?_
 refine Ow.alloc rfl rfl Tryz.zr348 fun b1 hb1 hw1=> ?_
 refine ko @Nat.add_zero ?_
 refine Ow.build (.agg stV.toArray) rfl agp_ ?_
 refine ko @Zs_ ?_
 first|with_reducible refine ks [] @Zs_ ?_|refine kp @Zs_ ?_
 refine⟨_,(ke @Nat.add_zero),⟨hw1,trivial⟩, ?_⟩
 rfl
set_option linter.defProp false
def z7_:=And.intro (And.intro (And.intro (@zw_) (@zv_)) (And.intro (@abD_) (And.intro (@abM_) (@abt_)))) (And.intro (And.intro (@abP_) (And.intro (@abA_) (@abO_))) (And.intro (@abc_) (And.intro (@Sx.tup2_0) (@Sx.tup2_1))))
theorem ibeq (n k:Nat): ((n:Int)==(k:Int))=(n==k):=by
 rw[Bool.eq_iff_iff,beq_iff_eq,beq_iff_eq]
 omega
structure SG where
 lab:Nat
 did:Bool
 e:Nat
 t:TkL
 S:DiskL
 G:DkG
 X:za_
 b8:Nat
 c:Nat
def SJ (w:World) (L0:za_) (n bd bt N:Nat) (R:StR) (g:SG):Prop:=
 Ext w L0 ((bt,tkO g.t):: (g.b8,stO)::g.X)∧(keys ((bt,tkO g.t):: (g.b8,stO)::g.X)).Nodup∧n≤g.b8∧g.G.bd=bd∧DkA g.X g.G g.S (N+g.c)∧TkB g.t∧
 ((g.lab=0∧g.c+ (6 - g.t.next)≤6∧g.t.next<6∧jy_ (6 - g.t.next) g.t g.S=R)∨
 (g.lab=1∧g.c≤6∧ ∃r:PhR,g.t=nxT r∧g.S=r.S∧g.e=r.e∧jV_ r=R))
def SL (g:SG):Nat:=match g.lab with
 |0=>0
 |_=>1
theorem SL0 (a b c d e f g h):SL ⟨0,a,b,c,d,e,f,g,h⟩=0:=rfl
def SS (g:SG):List (Nat×Value):= [(6, .bool g.did),(7,vi (g.e:Nat)),(8,vp g.b8 0)]
def SH (bt:Nat) (g:SG):za_:=(bt,tkO g.t):: (g.b8,stO)::g.X
def StS (G:DkG) (bt:Nat) (R:StR) (N:Nat) (v:Value) (D:za_):Prop:=v= .tuple #[.bool R.done,vi (R.e:Nat)]∧ ∃X' G',(X'++ [(bt,tkO R.t)]).Perm D∧G'.bd=G.bd∧DkA X' G' R.S N
set_option maxHeartbeats 12000000 in
theorem ac9_ (X:za_) (G:DkG) (S:DiskL) (N bt:Nat) (t:TkL) (w:World) (hX: ∀p,p∈X++ [(bt,tkO t)]→w.heap[p.1]? =some p.2) (hn: (keys (X++ [(bt,tkO t)])).Nodup) (hA:DkA X G S N) (hN:N<800000) (hB:TkB t) (hne:t.ended=false→t.next<6):
  Rets Tryz.prog 210 #[vp bt 0,vp G.bd 0] w (XS w (X++ [(bt,tkO t)]) (StS G bt (jH_ t S) (N+7))):=by
 refine Rets.enterX Tryz.func210 rfl (rs:= [.tmp 4, .tmp 5]) Tryz.results210 Tryz.ntmps210 hX hn ?_
 refine kf ?_
 have hbx:=(jx_ hn).1
 have rdt:=(jx_ hn).2 X (tkO t) hbx w
 unfold jH_
 first|with_reducible refine ks [] @z7_ ?_|refine kp @z7_ ?_
 refine Cw.scopeL (G:=SG) (fun g=>SL g) [9,10,4,5,6,7,11,8,13,14,15,16,17,18,19,20,21,12,22,23,24,25,26,27,28,29,30,31,32,33,34,35,36,37,38,39,40,41,42,43,44,45,46,47,48,49,50,51,52,53,54,55,56,57,58,59,60,61,62,63,64,65,66,67,68,69,70,71,72,73,74,75,76,77,78,79,80,81,82,83,84,85,86,87,88,89] (fun g=>SS g) (fun g=>SH bt g) (fun g=>SJ w (X++ [(bt,tkO t)]) w.heap.size G.bd bt N (if t.ended=true then⟨false,15,t,S⟩ else jy_ (6 - t.next) t S) g) (fun g=>(if g.lab=0 then 6 - g.t.next+1 else 0)) ?_ ?_ ?_
 ·intro g
  unfold SL
  split<;>rfl
 ·intro g j hg
  obtain⟨lab,did,e,t1,S1,G1,X1,b8,c⟩:=g
  obtain⟨hE,hnd,hb8,hbd,hA1,hB1,hg⟩:=hg
  simp only at hE hnd hb8 hbd hA1 hB1 hg
  rcases hg with⟨rfl,hc,hnx,hR⟩ | ⟨rfl,hc,r,rfl,rfl,rfl,hR⟩
  ·simp only[SL,SS,SH]
   simp only[xS_,QL_,Bool.or_false,Bool.false_or,Bool.or_true,Bool.true_or,Nat.reduceBEq,beq_self_eq_true, ↓reduceIte,Bool.false_eq_true]
   refine kv ?_
   try with_reducible refine q1_ ?_
   have hk:=hnd
   simp only[keys,List.map_cons,List.nodup_cons,List.mem_cons,not_or] at hk
   have hb3:bt≠b8:=hk.1.1
   have hb1:bt∉keys X1:=hk.1.2
   have hb2:b8∉keys X1:=hk.2.1
   have rd8: ∀o w,zs_ w ((bt,o):: (b8,stO)::X1) b8=some stO:=fun o w=>zb_ (by simp[Sx.look,hb3])
   have hix: ∀m,qh_ (.arr 6 m) (vp b8 0) (some (t1.next:Int))=some (vp b8 (t1.next*m.2)):=fun m=>by
    rw[vP_ _ _ _ _ _ ⟨by omega,by omega⟩];simp
   have hld: ∀m,zD_ (some (false,m)) (some stO) t1.next=some (.func (.func (phF t1.next)) #[] #[]):=fun m=>ajg_ _ m hnx
   first|with_reducible refine ks [] (And.intro @z7_ (And.intro @rd8 (And.intro @hix (@hld)))) ?_|refine kp (And.intro @z7_ (And.intro @rd8 (And.intro @hix (@hld)))) ?_
   refine Ow.permL (M:=(X1++ [(bt,tkO t1)])++ [(b8,stO)]) (by classical exact List.perm_iff_count.2 fun a=>by simp only[List.count_append,List.count_cons,List.count_nil]<;>omega) ?_
   refine Ow.callFnX2 (X:=X1++ [(bt,tkO t1)]) (Y:= [(b8,stO)]) (b:=vp bt 0) (b2:=vp G.bd 0) rfl rfl rfl rfl rfl rfl (ajK_ t1.next hnx) (fun w' hw' hX' hn'=>by rw[←hbd];exact aiV_ t1.next hnx X1 G1 S1 (N+c) bt t1 w' hX' hn' hA1 (by omega) hB1) (fun v4 D4 hC4 hS4=> ?_)
   obtain⟨rfl,X2,G2,hp2,hbd2,hA2⟩:=hS4
   obtain⟨hr1,hr2,hr3,hr4,hr5,hr6⟩:=agJ_ t1.next t1 S1
   have hB2:TkB (phT t1.next t1 S1).t:=⟨by rw[hr2];exact hB1.name,by rw[hr3];exact hB1.data⟩
   have hBn:TkB (nxT (phT t1.next t1 S1)):=⟨hB2.name,hB2.data⟩
   have hBf:TkB (xn_ (phT t1.next t1 S1)):=⟨hB2.name,hB2.data⟩
   obtain⟨q,hq⟩: ∃q,6 - t1.next=q+1:=⟨5 - t1.next,by omega⟩
   rw[hq] at hR
   replace hR: (if(phT t1.next t1 S1).e≠0 then jV_ (phT t1.next t1 S1)
    else if(phT t1.next t1 S1).did=false∧VB_ (nxT (phT t1.next t1 S1))=false then jy_ q (xn_ (phT t1.next t1 S1)) (phT t1.next t1 S1).S
    else⟨VB_ (nxT (phT t1.next t1 S1)),0,xn_ (phT t1.next t1 S1),(phT t1.next t1 S1).S⟩)=_:=hR
   generalize phT t1.next t1 S1=r at*
   have hp3: ((bt,tkO r.t):: (b8,stO)::X2).Perm (D4++ [(b8,stO)]):=(by simpa using(List.perm_append_comm (l₁:= [(bt,tkO r.t),(b8,stO)]) (l₂:=X2)): ((bt,tkO r.t):: (b8,stO)::X2).Perm (X2++ [(bt,tkO r.t),(b8,stO)])).trans (by simpa using hp2.append_right [(b8,stO)])
   have hE1:Ext w (X++ [(bt,tkO t)]) ((X1++ [(bt,tkO t1)])++ [(b8,stO)]):=hE.perm (by classical exact List.perm_iff_count.2 fun a=>by simp only[List.count_append,List.count_cons,List.count_nil]<;>omega)
   have hE2:Ext w (X++ [(bt,tkO t)]) ((bt,tkO r.t):: (b8,stO)::X2):=(Ext.came hE1 hC4).perm hp3
   refine Ow.permL hp3 ?_
   refine Ow.world fun w9 hw9=> ?_
   have hnd2: (keys ((bt,tkO r.t):: (b8,stO)::X2)).Nodup:=hw9.nodup
   have hst7: ∀a,zz_ (some (a,1)) (some (tkO r.t)) 4 (vi ((r.t.next:Int)+1))=some (tkO (nxT r)):=fun a=>K0_ r.t (r.t.next+1) a
   have hnx2:r.t.next<6:=by omega
   have hA3:DkA (X2++ [(b8,stO)]) G2 r.S (N+7):=⟨hA2.P.mono (X':=X2++ [(b8,stO)]) fun b o h=>zq_ h,hA2.H,hA2.B.mono (by omega)⟩
   refine ko @z7_ ?_
   by_cases he:r.e=0
   ·have e0: ((r.e:Int) !=0)=false:=by rw[he];rfl
    rw[if_neg (fun h=>h he)] at hR
    have hst9: ∀a,zz_ (some (a,1)) (some (tkO (nxT r))) 6 (.bool (VB_ (nxT r)))=some (tkO (xn_ r)):=fun a=>Z7_ (nxT r) _ a
    have hfe: (xn_ r).ended=VB_ (nxT r):=rfl
    have hen:VB_ (nxT r)=((nxT r).next==6|| ((nxT r).light&& (nxT r).next==5)):=rfl
    have i6: (((nxT r).next:Int)==6)=((nxT r).next==6):=ibeq _ 6
    have i5: (((nxT r).next:Int)==5)=((nxT r).next==5):=ibeq _ 5
    cases c6: ((nxT r).next==6) with
    |true=>
     have h9:VB_ (nxT r)=true:=by rw[hen,c6];rfl
     rw[c6] at i6
     rw[h9] at hst9 hfe hR
     rw[if_neg (fun h=>by cases h.2)] at hR
     cases hd:r.did with
     |true=>
      first|with_reducible refine ks [] (And.intro @z7_ (And.intro @hst7 (And.intro @e0 (And.intro @hst9 (And.intro @i6 (@hfe)))))) ?_|refine kp (And.intro @z7_ (And.intro @hst7 (And.intro @e0 (And.intro @hst9 (And.intro @i6 (@hfe)))))) ?_
      refine⟨_,(ke @z7_), ?_⟩
      rw[←hR]
      exact⟨hE2.keys rfl,rfl,X2++ [(b8,stO)],G2,(by classical exact List.perm_iff_count.2 fun a=>by simp only[List.count_append,List.count_cons,List.count_nil]<;>omega),hbd2.trans hbd,hA3⟩
     |false=>
      first|with_reducible refine ks [] (And.intro @z7_ (And.intro @hst7 (And.intro @e0 (And.intro @hst9 (And.intro @i6 (@hfe)))))) ?_|refine kp (And.intro @z7_ (And.intro @hst7 (And.intro @e0 (And.intro @hst9 (And.intro @i6 (@hfe)))))) ?_
      refine⟨_,(ke @z7_), ?_⟩
      rw[←hR]
      exact⟨hE2.keys rfl,rfl,X2++ [(b8,stO)],G2,(by classical exact List.perm_iff_count.2 fun a=>by simp only[List.count_append,List.count_cons,List.count_nil]<;>omega),hbd2.trans hbd,hA3⟩
    |false=>
     have hq6:r.t.next+1≠6:=beq_eq_false_iff_ne.1 c6
     rw[c6] at i6
     cases cl: (nxT r).light with
     |false=>
      have h9:VB_ (nxT r)=false:=by rw[hen,c6,cl];rfl
      rw[h9] at hst9 hfe hR
      cases hd:r.did with
      |true=>
       rw[hd,if_neg (fun h=>by cases h.1)] at hR
       first|with_reducible refine ks [] (And.intro @z7_ (And.intro @hst7 (And.intro @e0 (And.intro @hst9 (And.intro @i6 (And.intro @cl (@hfe))))))) ?_|refine kp (And.intro @z7_ (And.intro @hst7 (And.intro @e0 (And.intro @hst9 (And.intro @i6 (And.intro @cl (@hfe))))))) ?_
       refine⟨_,(ke @z7_), ?_⟩
       rw[←hR]
       exact⟨hE2.keys rfl,rfl,X2++ [(b8,stO)],G2,(by classical exact List.perm_iff_count.2 fun a=>by simp only[List.count_append,List.count_cons,List.count_nil]<;>omega),hbd2.trans hbd,hA3⟩
      |false=>
       rw[hd,if_pos ⟨rfl,rfl⟩] at hR
       first|with_reducible refine ks [] (And.intro @z7_ (And.intro @hst7 (And.intro @e0 (And.intro @hst9 (And.intro @i6 (And.intro @cl (@hfe))))))) ?_|refine kp (And.intro @z7_ (And.intro @hst7 (And.intro @e0 (And.intro @hst9 (And.intro @i6 (And.intro @cl (@hfe))))))) ?_
       exact Jump.mk ⟨0,false,r.e,xn_ r,r.S,G2,X2,b8,c+1⟩ rfl (by show 6 - (r.t.next+1)+1<6 - t1.next+1;omega) ⟨hE2.keys rfl,hnd2,hb8,hbd2.trans hbd,hA2,hBf, .inl ⟨rfl,by show c+1+ (6 - (r.t.next+1))≤6;omega,by show r.t.next+1<6;omega,by show jy_ (6 - (r.t.next+1)) _ _=_;rw[show 6 - (r.t.next+1)=q by omega];exact hR⟩⟩ rfl rfl
     |true=>
      cases c5: ((nxT r).next==5) with
      |true=>
       have h9:VB_ (nxT r)=true:=by rw[hen,c6,cl,c5];rfl
       rw[c5] at i5
       rw[h9] at hst9 hfe hR
       rw[if_neg (fun h=>by cases h.2)] at hR
       cases hd:r.did with
       |true=>
        first|with_reducible refine ks [] (And.intro @z7_ (And.intro @hst7 (And.intro @e0 (And.intro @hst9 (And.intro @i6 (And.intro @i5 (And.intro @cl (@hfe)))))))) ?_|refine kp (And.intro @z7_ (And.intro @hst7 (And.intro @e0 (And.intro @hst9 (And.intro @i6 (And.intro @i5 (And.intro @cl (@hfe)))))))) ?_
        refine⟨_,(ke @z7_), ?_⟩
        rw[←hR]
        exact⟨hE2.keys rfl,rfl,X2++ [(b8,stO)],G2,(by classical exact List.perm_iff_count.2 fun a=>by simp only[List.count_append,List.count_cons,List.count_nil]<;>omega),hbd2.trans hbd,hA3⟩
       |false=>
        first|with_reducible refine ks [] (And.intro @z7_ (And.intro @hst7 (And.intro @e0 (And.intro @hst9 (And.intro @i6 (And.intro @i5 (And.intro @cl (@hfe)))))))) ?_|refine kp (And.intro @z7_ (And.intro @hst7 (And.intro @e0 (And.intro @hst9 (And.intro @i6 (And.intro @i5 (And.intro @cl (@hfe)))))))) ?_
        refine⟨_,(ke @z7_), ?_⟩
        rw[←hR]
        exact⟨hE2.keys rfl,rfl,X2++ [(b8,stO)],G2,(by classical exact List.perm_iff_count.2 fun a=>by simp only[List.count_append,List.count_cons,List.count_nil]<;>omega),hbd2.trans hbd,hA3⟩
      |false=>
       have h9:VB_ (nxT r)=false:=by rw[hen,c6,cl,c5];rfl
       rw[c5] at i5
       rw[h9] at hst9 hfe hR
       cases hd:r.did with
       |true=>
        rw[hd,if_neg (fun h=>by cases h.1)] at hR
        first|with_reducible refine ks [] (And.intro @z7_ (And.intro @hst7 (And.intro @e0 (And.intro @hst9 (And.intro @i6 (And.intro @i5 (And.intro @cl (@hfe)))))))) ?_|refine kp (And.intro @z7_ (And.intro @hst7 (And.intro @e0 (And.intro @hst9 (And.intro @i6 (And.intro @i5 (And.intro @cl (@hfe)))))))) ?_
        refine⟨_,(ke @z7_), ?_⟩
        rw[←hR]
        exact⟨hE2.keys rfl,rfl,X2++ [(b8,stO)],G2,(by classical exact List.perm_iff_count.2 fun a=>by simp only[List.count_append,List.count_cons,List.count_nil]<;>omega),hbd2.trans hbd,hA3⟩
       |false=>
        rw[hd,if_pos ⟨rfl,rfl⟩] at hR
        first|with_reducible refine ks [] (And.intro @z7_ (And.intro @hst7 (And.intro @e0 (And.intro @hst9 (And.intro @i6 (And.intro @i5 (And.intro @cl (@hfe)))))))) ?_|refine kp (And.intro @z7_ (And.intro @hst7 (And.intro @e0 (And.intro @hst9 (And.intro @i6 (And.intro @i5 (And.intro @cl (@hfe)))))))) ?_
        exact Jump.mk ⟨0,false,r.e,xn_ r,r.S,G2,X2,b8,c+1⟩ rfl (by show 6 - (r.t.next+1)+1<6 - t1.next+1;omega) ⟨hE2.keys rfl,hnd2,hb8,hbd2.trans hbd,hA2,hBf, .inl ⟨rfl,by show c+1+ (6 - (r.t.next+1))≤6;omega,by show r.t.next+1<6;omega,by show jy_ (6 - (r.t.next+1)) _ _=_;rw[show 6 - (r.t.next+1)=q by omega];exact hR⟩⟩ rfl rfl
   ·have e0: ((r.e:Int) !=0)=true:=by
     rw[bne_iff_ne];omega
    rw[if_pos he] at hR
    first|with_reducible refine ks [] (And.intro @z7_ (And.intro @hst7 (@e0))) ?_|refine kp (And.intro @z7_ (And.intro @hst7 (@e0))) ?_
    exact Jump.mk ⟨1,r.did,r.e,nxT r,r.S,G2,X2,b8,c+1⟩ rfl (by show 0<6 - t1.next+1;omega) ⟨hE2.keys rfl,hnd2,hb8,hbd2.trans hbd,hA2,hBn, .inr ⟨rfl,by show c+1≤6;omega,r,rfl,rfl,rfl,hR⟩⟩ rfl rfl
  ·simp only[SL,SS,SH]
   simp only[xS_,QL_,Bool.or_false,Bool.false_or,Bool.or_true,Bool.true_or,Nat.reduceBEq,beq_self_eq_true, ↓reduceIte,Bool.false_eq_true]
   refine kv ?_
   try with_reducible refine q1_ ?_
   have hk:=hnd
   simp only[keys,List.map_cons,List.nodup_cons,List.mem_cons,not_or] at hk
   have hb3:bt≠b8:=hk.1.1
   have hb1:bt∉keys X1:=hk.1.2
   have hb2:b8∉keys X1:=hk.2.1
   have rd8: ∀o w,zs_ w ((bt,o):: (b8,stO)::X1) b8=some stO:=fun o w=>zb_ (by simp[Sx.look,hb3])
   obtain⟨T1,hT1⟩: ∃T1,T1=({nxT r with ended:=true}:TkL):=⟨_,rfl⟩
   have hst: ∀a,zz_ (some (a,1)) (some (tkO (nxT r))) 6 (.bool true)=some (tkO T1):=fun a=>by rw[hT1];exact Z7_ (nxT r) true a
   have d1:T1.dir=r.t.dir:=by rw[hT1];rfl
   have d2:T1.name=r.t.name:=by rw[hT1];rfl
   have d3:T1.made=(nxT r).made:=by rw[hT1]
   have hnd1:T1.name.length≤900000:=by rw[d2];exact hB1.name
   have hBT: (vu_ T1.name).length≤900004:=by rw[d2];exact ki_ (t:=nxT r) hB1
   have hA3:DkA (X1++ [(b8,stO)]) G1 r.S (N+7):=⟨hA1.P.mono (X':=X1++ [(b8,stO)]) fun b o h=>zq_ h,hA1.H,hA1.B.mono (by omega)⟩
   by_cases hm: (nxT r).made=true∧r.e≠9
   ·have m1:T1.made=true:=d3.trans hm.1
    have e9: ((r.e:Int) !=9)=true:=by
     rw[bne_iff_ne]
     have:=hm.2
     omega
    have hw:jV_ r=⟨false,r.e,T1,(xz_ r.S T1.dir (vu_ T1.name)).1⟩:=by
     unfold jV_
     rw[if_pos hm,d1,d2,hT1]
    first|with_reducible refine ks [] (And.intro @z7_ (And.intro @hst (And.intro @m1 (@e9)))) ?_|refine kp (And.intro @z7_ (And.intro @hst (And.intro @m1 (@e9)))) ?_
    refine Cw.permL (M:=X1++ [(bt,tkO T1),(b8,stO)]) (by classical exact List.perm_iff_count.2 fun a=>by simp only[List.count_append,List.count_cons,List.count_nil]<;>omega) ?_
    have rdT:zs_ w (X1++ [(bt,tkO T1),(b8,stO)]) bt=some (tkO T1):=zb_ (by rw[zG_ hb1];simp[Sx.look])
    have hsp:=fun(w':World) (hX': ∀p,p∈X1→w'.heap[p.1]? =some p.2) (hn': (keys X1).Nodup)=>w0_ X1 G1 r.S T1.dir (vu_ T1.name) w' hX' hn' hA1.P (by omega) (hA1.pend (by omega))
    simp only[hbd] at hsp
    refine Cw.regionO [0,1,2,3,5,6,7,4,8,9,10] [10] rfl (by kernel_rfl) (by kernel_rfl) ?_
    simp only[zI_, ↓zr_, ↓zk_, ↓z0_, ↓zZ_,zl_]
    refine kq (And.intro @z7_ @rdT) ?_
    refine Ow.callX (X:=X1) (Y:= [(bt,tkO T1),(b8,stO)]) rfl rfl rfl Tryz.call240 (fun w' hw' hX' hn'=>hsp w' hX' hn') (fun v4 D4 hC4 hS4=> ?_)
    obtain⟨rfl,G',hbd',hP'⟩:=hS4
    refine kq @z7_ ?_
    first|with_reducible refine ks [] @z7_ ?_|refine kp @z7_ ?_
    refine⟨_,(ke @z7_), ?_⟩
    rw[←hR,hw]
    have hA4:=hA1.step hP' (ZV_ r.S T1.dir (vu_ T1.name) []) (by omega) (Nat.zero_le _)
    have hE1:Ext w (X++ [(bt,tkO t)]) (X1++ [(bt,tkO T1),(b8,stO)]):=(hE.keys (D':=(bt,tkO T1):: (b8,stO)::X1) rfl).perm (by classical exact List.perm_iff_count.2 fun a=>by simp only[List.count_append,List.count_cons,List.count_nil]<;>omega)
    exact⟨hE1.came hC4,rfl,D4++ [(b8,stO)],G',(by classical exact List.perm_iff_count.2 fun a=>by simp only[List.count_append,List.count_cons,List.count_nil]<;>omega),hbd',hA4.P.mono (X':=D4++ [(b8,stO)]) fun b o h=>zq_ h,hA4.H,hA4.B.mono (by omega)⟩
   ·have hw:jV_ r=⟨false,r.e,T1,r.S⟩:=by
     unfold jV_
     rw[if_neg hm,hT1]
    by_cases hm1: (nxT r).made=true
    ·have h9:r.e=9:=Decidable.byContradiction fun h=>hm ⟨hm1,h⟩
     have m1:T1.made=true:=d3.trans hm1
     have e9: ((r.e:Int) !=9)=false:=by rw[h9];rfl
     first|with_reducible refine ks [] (And.intro @z7_ (And.intro @hst (And.intro @m1 (@e9)))) ?_|refine kp (And.intro @z7_ (And.intro @hst (And.intro @m1 (@e9)))) ?_
     refine⟨_,(ke @z7_), ?_⟩
     rw[←hR,hw]
     exact⟨hE.keys rfl,rfl,X1++ [(b8,stO)],G1,(by classical exact List.perm_iff_count.2 fun a=>by simp only[List.count_append,List.count_cons,List.count_nil]<;>omega),hbd,hA3⟩
    ·have m1:T1.made=false:=d3.trans (by simpa using hm1)
     first|with_reducible refine ks [] (And.intro @z7_ (And.intro @hst (@m1))) ?_|refine kp (And.intro @z7_ (And.intro @hst (@m1))) ?_
     refine⟨_,(ke @z7_), ?_⟩
     rw[←hR,hw]
     exact⟨hE.keys rfl,rfl,X1++ [(b8,stO)],G1,(by classical exact List.perm_iff_count.2 fun a=>by simp only[List.count_append,List.count_cons,List.count_nil]<;>omega),hbd,hA3⟩
 ·intro key
  repeat ((try with_reducible refine Cw.go [999999] ?_);(simp(disch:=(first|assumption|omega| (simp only[qP_,qM_,UInt64.reduceToNat];try omega))) only[↓Sx.S0,Sx.S1,Tryz.fx,z7_,Nat.reduceAdd,Nat.reducePow,Int.reducePow,Nat.reduceBEq, ↓reduceIte,UInt8.reduceToNat,UInt16.reduceToNat,UInt32.reduceToNat,UInt64.reduceToNat,Int.reduceToNat]))
  refine Ow.callFV rfl Tryz.call238 (fun w' hw'=>XH_ bt t w' (hw'.has _ _ (List.mem_append_right _ (List.mem_singleton.2 rfl)))) ?_
  have htf:t.ended=true∨t.ended=false:=by cases t.ended<;>simp
  rcases htf with hte|hte
  ·refine ko (And.intro @z7_ @hte) ?_
   repeat ((try with_reducible refine Cw.go [999999] ?_);(simp(disch:=(first|assumption|omega| (simp only[qP_,qM_,UInt64.reduceToNat];try omega))) only[↓Sx.S0,Sx.S1,Tryz.fx,z7_,Nat.reduceAdd,Nat.reducePow,Int.reducePow,Nat.reduceBEq, ↓reduceIte,UInt8.reduceToNat,UInt16.reduceToNat,UInt32.reduceToNat,UInt64.reduceToNat,Int.reduceToNat,hte]))
   refine⟨_,(ke @z7_), ?_⟩
   rw[if_pos hte]
   exact⟨Ext.refl w _,rfl,X,G,List.Perm.refl _,rfl,hA.P,hA.H,hA.B.mono (by omega)⟩
  ·have hie: (if t.ended=true then(⟨false,15,t,S⟩:StR) else jy_ (6 - t.next) t S)=jy_ (6 - t.next) t S:=by rw[if_neg (by rw[hte];simp)]
   refine ko (And.intro @z7_ @hte) ?_
   repeat ((try with_reducible refine Cw.go [999999] ?_);(simp(disch:=(first|assumption|omega| (simp only[qP_,qM_,UInt64.reduceToNat];try omega))) only[↓Sx.S0,Sx.S1,Tryz.fx,z7_,Nat.reduceAdd,Nat.reducePow,Int.reducePow,Nat.reduceBEq, ↓reduceIte,UInt8.reduceToNat,UInt16.reduceToNat,UInt32.reduceToNat,UInt64.reduceToNat,Int.reduceToNat,hte]))
   refine Ow.callFV rfl Tryz.call239 (fun w' hw'=>ab6_ w') ?_
   refine ko @z7_ ?_
   repeat ((try with_reducible refine Cw.go [999999] ?_);(simp(disch:=(first|assumption|omega| (simp only[qP_,qM_,UInt64.reduceToNat];try omega))) only[↓Sx.S0,Sx.S1,Tryz.fx,z7_,Nat.reduceAdd,Nat.reducePow,Int.reducePow,Nat.reduceBEq, ↓reduceIte,UInt8.reduceToNat,UInt16.reduceToNat,UInt32.reduceToNat,UInt64.reduceToNat,Int.reduceToNat]))
   refine Ow.alloc rfl rfl Tryz.zr348 fun b8 hb8 hw8=> ?_
   rw[zg_]
   refine Ow.permL (M:=(b8, .cells #[.nilFunc, .nilFunc, .nilFunc, .nilFunc, .nilFunc, .nilFunc] 348 (0,0)):: (X++ [(bt,tkO t)])) (by classical exact List.perm_iff_count.2 fun a=>by simp only[List.count_append,List.count_cons,List.count_nil]<;>omega) ?_
   refine ko (And.intro @z7_ @Zs_) ?_
   repeat ((try with_reducible refine Cw.go [999999] ?_);(simp(disch:=(first|assumption|omega| (simp only[qP_,qM_,UInt64.reduceToNat];try omega))) only[↓Sx.S0,Sx.S1,Tryz.fx,z7_,Nat.reduceAdd,Nat.reducePow,Int.reducePow,Nat.reduceBEq, ↓reduceIte,UInt8.reduceToNat,UInt16.reduceToNat,UInt32.reduceToNat,UInt64.reduceToNat,Int.reduceToNat]))
   refine Cw.permL (M:=(bt,tkO t):: (b8,stO)::X) (by classical exact List.perm_iff_count.2 fun a=>by simp only[List.count_append,List.count_cons,List.count_nil]<;>omega) ?_
   refine Cw.world fun w9 hw9=> ?_
   have hnd9:=hw9.nodup
   have key0:=fun f'=>key (⟨0,false,0,t,S,G,X,b8,0⟩) f'
   simp only[xS_,QL_,Bool.or_false,Bool.false_or,Bool.or_true,Bool.true_or,Nat.reduceBEq,beq_self_eq_true, ↓reduceIte,Bool.false_eq_true] at key0
   clear key
   simp only[SL0,xS_,QL_,Bool.or_false,Bool.false_or,Bool.or_true,Bool.true_or,Nat.reduceBEq,beq_self_eq_true, ↓reduceIte,Bool.false_eq_true] at key0
   refine Cw.label ?_
   refine key0 _ ?_ ?_
   ·refine⟨(((Ext.refl w (X++ [(bt,tkO t)])).app (o:=stO) hw8).perm (by classical exact List.perm_iff_count.2 fun a=>by simp only[List.count_append,List.count_cons,List.count_nil]<;>omega)),hnd9,hw8,rfl,hA,hB, .inl ⟨rfl,by show 0+ (6 - t.next)≤6;omega,hne hte,hie.symm⟩⟩
   ·rfl
end Go.Proofs
end
section
open Go Go.Proofs Go.Sx Go.StP
namespace Go.Proofs
set_option maxRecDepth 10000
set_option maxHeartbeats 1000000
set_option linter.unusedSimpArgs false
theorem W6_: ∀ (f:Nat) (t:TkL) (S:DiskL),(jy_ f t S).t.name=t.name∧(jy_ f t S).t.data=t.data
 |0,_,_=>⟨rfl,rfl⟩
 |f+1,t,S=>by
  obtain⟨-,h2,h3,-⟩:=agJ_ t.next t S
  have hw: (jV_ (phT t.next t S)).t.name=t.name∧(jV_ (phT t.next t S)).t.data=t.data:=by
   unfold jV_
   split<;>exact⟨h2,h3⟩
  obtain⟨-,f2,f3,-⟩:=adN_ t.next t S
  have ih:=W6_ f (xn_ (phT t.next t S)) (phT t.next t S).S
  rw[f2,f3] at ih
  unfold jy_
  split
  ·exact hw
  ·split
   ·exact ih
   ·exact⟨f2,f3⟩
theorem ajh_ {t:TkL} (h:TkB t) (S:DiskL):TkB (jH_ t S).t:=by
 unfold jH_
 split
 ·exact h
 ·exact⟨by rw[(W6_ _ t S).1];exact h.name,by rw[(W6_ _ t S).2];exact h.data⟩
theorem ae5_ {t:TkL} {S:DiskL} (he:t.ended=false) (hn:t.next<6): ((jH_ t S).done=true∨(jH_ t S).e≠0)∨((jH_ t S).t.ended=false∧t.next< (jH_ t S).t.next∧(jH_ t S).t.next<6):=by
 have hs:jH_ t S=jy_ (6 - t.next) t S:=by unfold jH_;rw[if_neg (by rw[he];simp)]
 rw[hs]
 rcases aag_ (6 - t.next) t S (by omega) (by omega) with⟨h1,-⟩ | ⟨-,h2,-⟩ | ⟨-,-,h3,h4,h5,-⟩
 ·exact .inl (.inr h1)
 ·exact .inl (.inl h2)
 ·exact .inr ⟨h3,h4,h5⟩
theorem akO_ (f:Nat) (t:TkL) (S:DiskL):runG (f+1) t S=(if(jH_ t S).done=true∨(jH_ t S).e≠0 then((jH_ t S).e,(jH_ t S).t,(jH_ t S).S) else runG f (jH_ t S).t (jH_ t S).S):=rfl
set_option linter.defProp false
def vt_:=And.intro (And.intro (@zw_) (@zv_)) (And.intro (@Sx.tup2_0) (@Sx.tup2_1))
structure RnG where
 f:Nat
 t:TkL
 S:DiskL
 G:DkG
 X:za_
def RnS (G:DkG) (bt:Nat) (R:Nat×TkL×DiskL) (N:Nat) (v:Value) (D:za_):Prop:=v=vi (R.1:Nat)∧ ∃X' G',(X'++ [(bt,tkO R.2.1)]).Perm D∧G'.bd=G.bd∧DkA X' G' R.2.2 N
theorem ag6_ (X:za_) (G:DkG) (S:DiskL) (N bt:Nat) (t:TkL) (w:World) (hX: ∀p,p∈X++ [(bt,tkO t)]→w.heap[p.1]? =some p.2) (hn: (keys (X++ [(bt,tkO t)])).Nodup) (hA:DkA X G S N) (hN:N<700000) (hB:TkB t) (he:t.ended=false) (hne:t.next<6):
  Rets Tryz.prog 156 #[vp G.bd 0,vp bt 0] w (XS w (X++ [(bt,tkO t)]) (RnS G bt (runG 6 t S) (N+42))):=by
 refine Rets.enterX Tryz.func156 rfl (rs:= [.tmp 4]) Tryz.results156 Tryz.ntmps156 hX hn ?_
 refine kf ?_
 first|with_reducible refine ks [] @vt_ ?_|refine kp @vt_ ?_
 refine Cw.loopG (G:=RnG) [8,9,10,7,11,12,5,6,13,14,15,16,17,18,4] (fun g=> []) (fun g=>g.X++ [(bt,tkO g.t)]) (fun g=>runG g.f g.t g.S=runG 6 t S∧6 - g.t.next≤g.f∧g.t.ended=false∧g.t.next<6∧g.G.bd=G.bd∧DkA g.X g.G g.S (N+7* (6 - g.f))∧TkB g.t∧g.f≤6∧Ext w (X++ [(bt,tkO t)]) (g.X++ [(bt,tkO g.t)])) (fun g=>g.f) ⟨6,t,S,G,X⟩ rfl rfl ?_ ?_
 ·exact⟨rfl,by show 6 - t.next≤6;omega,he,hne,rfl,hA,hB,Nat.le_refl 6,Ext.refl w _⟩
 ·intro g j hg
  refine kv ?_
  obtain⟨f,t1,S1,G1,X1⟩:=g
  obtain⟨hR,hf,hen,hnx,hbd,hA1,hB1,hf6,hE⟩:=hg
  simp only at hR hf hen hnx hbd hA1 hB1 hf6 hE
  obtain⟨f,rfl⟩: ∃q,f=q+1:=⟨f - 1,by omega⟩
  rw[akO_] at hR
  first|with_reducible refine ks [] @vt_ ?_|refine kp @vt_ ?_
  have hsp:=fun(w':World) (hX': ∀p,p∈X1++ [(bt,tkO t1)]→w'.heap[p.1]? =some p.2) (hn': (keys (X1++ [(bt,tkO t1)])).Nodup)=>ac9_ X1 G1 S1 (N+7* (6 - (f+1))) bt t1 w' hX' hn' hA1 (by omega) hB1 (fun _=>hnx)
  simp only[hbd] at hsp
  refine Ow.callX (X:=X1++ [(bt,tkO t1)]) (Y:= []) (List.append_nil _).symm rfl rfl Tryz.call210 (fun w' hw' hX' hn'=>hsp w' hX' hn') (fun v4 D4 hC4 hS4=> ?_)
  obtain⟨rfl,X2,G2,hp2,hbd2,hA2⟩:=hS4
  rw[List.append_nil]
  have hE2:=(hE.came0 hC4).perm hp2
  have hst:=ae5_ (S:=S1) hen hnx
  have hsB:=ajh_ hB1 S1
  refine Ow.permL hp2 ?_
  generalize jH_ t1 S1=r at*
  have hA3:DkA X2 G2 r.S (N+42):=⟨hA2.P,hA2.H,hA2.B.mono (by omega)⟩
  by_cases hd:r.done=true
  ·rw[if_pos (.inl hd)] at hR
   refine ko (And.intro @vt_ @hd) ?_
   first|with_reducible refine ks [] (And.intro @vt_ @hd) ?_|refine kp (And.intro @vt_ @hd) ?_
   refine⟨_,(ke @vt_), ?_⟩
   rw[←hR]
   exact⟨hE2,rfl,X2,G2,List.Perm.refl _,hbd2.trans hbd,hA3⟩
  ·have hd':r.done=false:=by simpa using hd
   by_cases he0:r.e=0
   ·have e0: ((r.e:Int) !=0)=false:=by rw[he0];rfl
    rw[if_neg (fun h=>by rcases h with h|h;exact hd h;exact h he0)] at hR
    obtain⟨s1,s2,s3⟩:=hst.resolve_left (fun h=>by rcases h with h|h;exact hd h;exact h he0)
    refine ko (And.intro @vt_ (And.intro @hd' (@e0))) ?_
    first|with_reducible refine ks [] (And.intro @vt_ (And.intro @hd' (@e0))) ?_|refine kp (And.intro @vt_ (And.intro @hd' (@e0))) ?_
    exact Again.mk ⟨f,r.t,r.S,G2,X2⟩ (Nat.lt_succ_self f) ⟨hR,by show 6 - r.t.next≤f;omega,s1,s3,hbd2.trans hbd,⟨hA2.P,hA2.H,hA2.B.mono (by show _≤N+7* (6 - f);omega)⟩,hsB,by show f≤6;omega,hE2⟩ rfl rfl
   ·have e0: ((r.e:Int) !=0)=true:=by
     rw[bne_iff_ne];omega
    rw[if_pos (.inr he0)] at hR
    refine ko (And.intro @vt_ (And.intro @hd' (@e0))) ?_
    first|with_reducible refine ks [] (And.intro @vt_ (And.intro @hd' (@e0))) ?_|refine kp (And.intro @vt_ (And.intro @hd' (@e0))) ?_
    refine⟨_,(ke @vt_), ?_⟩
    rw[←hR]
    exact⟨hE2,rfl,X2,G2,List.Perm.refl _,hbd2.trans hbd,hA3⟩
end Go.Proofs
end
section
open Go Go.Proofs Go.Sx Go.StP
namespace Go.Proofs
set_option maxRecDepth 10000
set_option maxHeartbeats 400000
set_option linter.unusedSimpArgs false
theorem ag1_ (dir name data:List UInt8) (light:Bool):jD_ (Zl_ Tryz.prog 321) (zY_ Tryz.prog 321) [(0,vs dir),(1,vs name),(2,vs data),(3, .bool light)]=some (.agg #[vs dir,vs name,vs data, .bool light,vi 0, .bool false, .bool false]):=by
 rw[show Zl_ Tryz.prog 321=some [(0,1),(1,1),(2,1),(3,1),(4,1),(5,1),(6,1)] from id (by kernel_rfl),Tryz.zr321];rfl
theorem ab3_ (dir name data:List UInt8) (light:Bool) (w:World):
  Rets Tryz.prog 157 #[vs dir,vs name,vs data, .bool light] w (fun v D=> ∃b,w.heap.size≤b∧v=vp b 0∧D= [(b,tkO (tk0 dir name data light))]):=by
 refine Rets.enter Tryz.func157 rfl (rs:= [.tmp 8]) Tryz.results157 Tryz.ntmps157 ?_
 refine kf ?_
 first|with_reducible refine ks [] @Nat.add_zero ?_|refine kp @Nat.add_zero ?_
 refine Ow.build (.agg #[vs dir,vs name,vs data, .bool light,vi 0, .bool false, .bool false]) rfl (ag1_ dir name data light) ?_
 refine Ow.box rfl rfl fun b1 hb1 hw1=> ?_
 refine ko @Nat.add_zero ?_
 first|with_reducible refine ks [] @Nat.add_zero ?_|refine kp @Nat.add_zero ?_
 exact⟨_,rfl,b1,hw1,rfl,rfl⟩
end Go.Proofs
end
section
open Go Go.Proofs Go.Sx Go.StP
namespace Go.Proofs
set_option maxRecDepth 10000
set_option maxHeartbeats 1000000
set_option linter.unusedSimpArgs false
def PubS (G:DkG) (R:Nat×DiskL) (N:Nat) (v:Value) (D:za_):Prop:=v=vi (R.1:Nat)∧ ∃G',G'.bd=G.bd∧DkA D G' R.2 N
theorem J0_ (X:za_) (G:DkG) (S:DiskL) (N:Nat) (dir name data:List UInt8) (w:World) (hX: ∀p,p∈X→w.heap[p.1]? =some p.2) (hn: (keys X).Nodup) (hA:DkA X G S N) (hN:N<700000) (hnm:name.length≤900000) (hdt:data.length≤1000000):
  Rets Tryz.prog 87 #[vp G.bd 0,vs dir,vs name,vs data] w (XS w X (PubS G (pubV S dir name data false) (N+42))):=by
 have hB:TkB (tk0 dir name data false):=⟨hnm,hdt⟩
 refine Rets.enterX Tryz.func87 rfl (rs:= [.tmp 8]) Tryz.results87 Tryz.ntmps87 hX hn ?_
 refine kf ?_
 first|with_reducible refine ks [] @Nat.add_zero ?_|refine kp @Nat.add_zero ?_
 refine Ow.callF rfl rfl Tryz.call157 (S:=fun B v D=> ∃b',B≤b'∧v=vp b' 0∧D= [(b',tkO (tk0 dir name data false))]) (fun w' hw'=>ab3_ dir name data false w') ?_
 rintro B v D hab hB0 ⟨b1,hb1,rfl,rfl⟩
 refine⟨_,Mrg.fresh (by intro q hq;simp only[keys,List.map_cons,List.map_nil,List.mem_singleton] at hq;omega), ?_⟩
 refine Ow.callX (X:=X++ [(b1,tkO (tk0 dir name data false))]) (Y:= []) (List.append_nil _).symm rfl rfl Tryz.call156 (fun w' hw' hX' hn'=>ag6_ X G S N b1 (tk0 dir name data false) w' hX' hn' hA hN hB rfl (Nat.succ_pos 5)) (fun v4 D4 hC4 hS4=> ?_)
 obtain⟨rfl,X2,G2,hp2,hbd2,hA2⟩:=hS4
 rw[List.append_nil]
 have hE2:=(((Ext.refl w X).app (o:=tkO (tk0 dir name data false)) (by omega)).came0 hC4).perm hp2
 refine Ow.permL hp2 ?_
 have hr:=ajn_ S dir name data false
 rw[←hr]
 refine ko @Nat.add_zero ?_
 first|with_reducible refine ks [] @Nat.add_zero ?_|refine kp @Nat.add_zero ?_
 refine⟨_,(ke @Nat.add_zero), ?_⟩
 exact⟨hE2,rfl,G2,hbd2,hA2.P.mono fun b o h=>zq_ h,hA2.H,hA2.B⟩
end Go.Proofs
end
namespace Go.Sx
def kB (c:Bool):BitVec 32:=bif c then 3988292384#32 else 0#32
def hvB:List (BitVec 32):= [0x00000000,0x1db71064,0x3b6e20c8,0x26d930ac,0x76dc4190,0x6b6b51f4,0x4db26158,0x5005713c,0xedb88320,0xf00f9344,0xd6d6a3e8,0xcb61b38c,0x9b64c2b0,0x86d3d2d4,0xa00ae278,0xbdbdf21c]
theorem tabB: ∀a b c d:Bool,(kB a>>>3^^^kB b>>>2^^^kB c>>>1^^^kB d)=hvB.getD (a.toNat+2*b.toNat+4*c.toNat+8*d.toNat) 0:=by decide
end Go.Sx
section
open Go Go.Proofs Go.Sx
namespace Go.Proofs
set_option maxRecDepth 10000
set_option maxHeartbeats 4000000
set_option linter.unusedSimpArgs false
def alV_ (n:UInt32):UInt32:=if n%2==1 then n / 2^^^3988292384 else n / 2
def alZ_ (n:UInt32):Nat→UInt32
 |0=>n
 |k+1=>alV_ (alZ_ n k)
set_option linter.defProp false
end Go.Proofs
end
