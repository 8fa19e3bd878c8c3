/-
  Part 2 of the walk: contracts of the functions that the law reaches, and the calculus they stand on.
  No conditions.
-/
import Derived.Test.YtfdphhalimbpbaaGreatDoorD1
import Derived.Shelf.SlIter.Nil
import Derived.Shelf.SortM.Plain
import Derived.Shelf.SortM.SortNone
import Derived.Ground.GgzProg
import Derived.Ground.SlgmProg
set_option maxRecDepth 100000
set_option maxHeartbeats 4000000
set_option linter.unusedSimpArgs false
set_option linter.defProp false
open Go.Proofs.Tryz
namespace Go.Dig
open Go.Sx
def rv (b:UInt8):Int:=if 48≤b.toNat∧b.toNat≤57 then(b.toNat:Int) - 48 else if 97≤b.toNat∧b.toNat≤102 then(b.toNat:Int) - 97+10 else -1
def refB (l:List UInt8) (i k:Nat):UInt8:=
 if 2*k+1<i then UInt8.ofInt (rv (l.getD (2*k) 0)*16+rv (l.getD (2*k+1) 0)) else if 2*k<i then UInt8.ofInt (rv (l.getD (2*k) 0)) else 0
def rgt (x:UInt32) (n:UInt64):UInt32:=jM x n.toNat|||mr x (32 - n).toNat
def S1 (e:UInt32):UInt32:=rgt e 6^^^rgt e 11^^^rgt e 25
def S0 (a:UInt32):UInt32:=rgt a 2^^^rgt a 13^^^rgt a 22
def s1 (y:UInt32):UInt32:=rgt y 17^^^rgt y 19^^^jM y 10
def s0 (x:UInt32):UInt32:=rgt x 7^^^rgt x 18^^^jM x 3
def kL:List UInt32:= [1116352408,1899447441,3049323471,3921009573,961987163,1508970993,2453635748,2870763221,3624381080,310598401,607225278,1426881987,1925078388,2162078206,2614888103,3248222580,3835390401,4022224774,264347078,604807628,770255983,1249150122,1555081692,1996064986,2554220882,2821834349,2952996808,3210313671,3336571891,3584528711,113926993,338241895,666307205,773529912,1294757372,1396182291,1695183700,1986661051,2177026350,2456956037,2730485921,2820302411,3259730800,3345764771,3516065817,3600352804,4094571909,275423344,430227734,506948616,659060556,883997877,958139571,1322822218,1537002063,1747873779,1955562222,2024104815,2227730452,2361852424,2428436474,2756734187,3204031479,3329325298]
def il:List UInt32:= [1779033703,3144134277,1013904242,2773480762,1359893119,2600822924,528734635,1541459225]
def Q9 (b:List UInt8) (i:Nat):UInt32:=
 UInt32.ofNat (b.getD (4*i) 0).toNat*16777216+UInt32.ofNat (b.getD (4*i+1) 0).toNat*65536+UInt32.ofNat (b.getD (4*i+2) 0).toNat*256+UInt32.ofNat (b.getD (4*i+3) 0).toNat
def wPre (b:List UInt8) (i:Nat):List UInt32:=(List.range 64).map fun j=>if j<i then Q9 b j else 0
def Qt (w:List UInt32) (g:Nat):List UInt32:=w.set g (s1 (w.getD (g - 2) 0)+w.getD (g - 7) 0+s0 (w.getD (g - 15) 0)+w.getD (g - 16) 0)
def wGo (w:List UInt32):Nat→List UInt32
 |0=>w
 |n+1=>Qt (wGo w n) (16+n)
def wAll (b:List UInt8):List UInt32:=wGo (wPre b 16) 48
def Qs (s:List UInt32) (k w:UInt32):List UInt32:=
 let t:=s.getD 7 0+S1 (s.getD 4 0)+ (s.getD 4 0&&&s.getD 5 0||| ~~~ s.getD 4 0&&&s.getD 6 0)+k+w
 let u:=S0 (s.getD 0 0)+ (s.getD 0 0&&&s.getD 1 0|||s.getD 0 0&&&s.getD 2 0|||s.getD 1 0&&&s.getD 2 0)
 [t+u,s.getD 0 0,s.getD 1 0,s.getD 2 0,s.getD 3 0+t,s.getD 4 0,s.getD 5 0,s.getD 6 0]
def rGo (st w:List UInt32):Nat→List UInt32
 |0=>st
 |n+1=>Qs (rGo st w n) (kL.getD n 0) (w.getD n 0)
def ru (st s:List UInt32) (i:Nat):List UInt32:=(List.range 8).map fun j=>if j<i then st.getD j 0+s.getD j 0 else st.getD j 0
def FJ (st s:List UInt32) (i:Nat): (ru st s i).length=8:=by simp[ru]
def comp (st:List UInt32) (b:List UInt8):List UInt32:=ru st (rGo st (wAll b) 64) 8
def Ho (st:List UInt32) (b:List UInt8): (comp st b).length=8:=FJ _ _ _
def nr (st:List UInt32) (m:List UInt8):Nat→List UInt32
 |0=>st
 |n+1=>comp (nr st m n) ((m.drop (64*n)).take 64)
def Fq (st:List UInt32) (m x:List UInt8) (n:Nat) (h:64*n≤m.length):nr st (m++x) n=nr st m n:=by
 induction n with
 |zero=>rfl
 |succ n ih=>
  simp only[nr]
  rw[ih oM,List.drop_append_of_le_length oM,List.take_append_of_le_length (by simp;omega)]
section
variable {bg:Bool} {st:List UInt32} {rest:List UInt8} {many:Int} {taken:UInt64} {E:TypeId}
end
def acc (b:List UInt8) (i:Nat):Nat→UInt32
 |0=>0
 |k+1=>mr (acc b i k) 8|||UInt32.ofNat (b.getD (4*i+k) 0).toNat
def Glob (w:World):Prop:= ∃e0 e1 f0 f1,w.heap[0]? =some (.cells (a32 il) e0 f0)∧w.heap[1]? =some (.cells (a32 kL) e1 f1)
def Glob.of {w0 w:World} {L:aA} (hg:Glob w0) (h:Hp w0 L w) (hk: ∀b,b∈keys L→1<b):Glob w:=by
 obtain⟨e0,e1,f0,f1,h0,h1⟩:=hg
 refine⟨e0,e1,f0,f1, ?_, ?_⟩
 ·rw[h.old 0 (Array.getElem?_eq_some_iff.1 h0).1 (fun hm=>by have:=hk 0 hm;omega)];exact h0
 rw[h.old 1 (Array.getElem?_eq_some_iff.1 h1).1 (fun hm=>by have:=hk 1 hm;omega)];exact h1
structure Hs where
 st:List UInt32
 rest:List UInt8
 many:Nat
structure Hs.Ok (s:Hs):Prop where
 st:s.st.length=8
 rest:s.rest.length=64
 many:s.many<64
def hput (s:Hs) (x:UInt8):Hs:=
 if s.many+1=64 then⟨comp s.st (s.rest.set s.many x),s.rest.set s.many x,0⟩ else⟨s.st,s.rest.set s.many x,s.many+1⟩
def OO {s:Hs} (x:UInt8) (h:s.Ok): (hput s x).Ok:=by
 unfold hput
 split
 ·exact⟨Ho _ _,by simp[h.rest],by show(0:Nat)<64;omega⟩
 exact⟨h.st,by simp[h.rest],by show s.many+1<64;have:=h.many;omega⟩
def loadV_one (cs:Array Value) (E:TypeId) (fz:Nat×Nat) (n i:Nat):ak (some (false,n)) (some (.cells cs E fz)) i=cs[i]? :=(rfl)
end Go.Dig
section
open Go Go.Proofs Go.Sx Go.Dig
namespace Go.Proofs
def GlobE (w:World):Prop:= ∃e0 e1 f0 f1,w.heap[2]? =some (.cells (a32 il) e0 f0)∧w.heap[3]? =some (.cells (a32 kL) e1 f1)
def GlobE.of {w0 w:World} {L:aA} (hg:GlobE w0) (h:Hp w0 L w) (hk: ∀b,b∈keys L→3<b):GlobE w:=by
 obtain⟨e0,e1,f0,f1,h0,h1⟩:=hg
 refine⟨e0,e1,f0,f1, ?_, ?_⟩
 ·rw[h.old _ (Array.getElem?_eq_some_iff.1 h0).1 (fun hm=>by have:=hk _ hm;omega)];exact h0
 rw[h.old _ (Array.getElem?_eq_some_iff.1 h1).1 (fun hm=>by have:=hk _ hm;omega)];exact h1
end Go.Proofs
end
namespace Go.Dig
open Go.Sx
def QG (m:Nat):Nat:=(120 - m)%64
def lenB (t:UInt64) (g:Nat):UInt8:=UInt8.ofNat (nY (8*t) (56 - 8*g)).toNat
def len8 (t:UInt64):List UInt8:=(List.range 8).map (lenB t)
def outB (st:List UInt32) (j:Nat):UInt8:=UInt8.ofNat (jM (st.getD (j / 4) 0) (24 - 8* (j%4))).toNat
def rq (st:List UInt32) (k:Nat):List UInt8:=(List.range 32).map fun j=>if j<k then outB st j else 0
def H0:Hs:=⟨il,List.replicate 64 0,0⟩
def R4:H0.Ok:=⟨rfl,by simp[H0],by show(0:Nat)<64;omega⟩
def outPre_length (st:List UInt32) (k:Nat): (rq st k).length=32:=by simp[rq]
end Go.Dig
section
open Go Go.Proofs Go.Sx Go.Dig
namespace Go.Proofs
end Go.Proofs
end
namespace Go.Dig
open Go.Sx
def padR (m:List UInt8):List UInt8:=m++ [128]++List.replicate (QG ((m.length+1)%64)) 0++len8 (UInt64.ofNat m.length)
def shaR (m:List UInt8):List UInt8:=rq (nr il (padR m) ((padR m).length / 64)) 32
end Go.Dig
section
open Go Go.Proofs Go.Sx Go.Dig
namespace Go.Proofs
end Go.Proofs
end
namespace Go.Dig
open Go.Sx
structure Inv (s:Hs) (p:List UInt8):Prop where
 ok:s.Ok
 st:s.st=nr il p (p.length / 64)
 many:s.many=p.length%64
 rest:s.rest.take s.many=p.drop (64* (p.length / 64))
def Inv.put {s:Hs} {p:List UInt8} (h:Inv s p) (x:UInt8):Inv (hput s x) (p++ [x]):=by
 obtain⟨cK,bH,Vs,mb⟩:=h
 have hk:=OO x cK
 have Sg:=cK.many
 have pN:=cK.rest
 have eU:64* (p.length / 64)≤p.length:=by omega
 have qd: (s.rest.set s.many x).take (s.many+1)=p.drop (64* (p.length / 64))++ [x]:=by
  rw[List.take_add_one,List.take_set,←mb]
  congr 1
  ·rw[List.set_eq_of_length_le (by simp only[List.length_take];exact Nat.min_le_left _ _)]
  simp[pN,Sg]
 have aR: (p++ [x]).length=p.length+1:=by simp
 have hc:nr il (p++ [x]) (p.length / 64)=nr il p (p.length / 64):=Fq _ _ _ _ eU
 by_cases oe:s.many+1=64
 ·have e:hput s x=⟨comp s.st (s.rest.set s.many x),s.rest.set s.many x,0⟩:=by unfold hput;rw[if_pos oe]
  have hd: (p.length+1) / 64=p.length / 64+1:=by omega
  have hr: (s.rest.set s.many x)=p.drop (64* (p.length / 64))++ [x]:=by
   rw[←qd,oe,List.take_of_length_le (by simp[pN])]
  refine⟨hk, ?_, ?_, ?_⟩
  ·rw[e,aR,hd]
   show comp s.st _=comp (nr il (p++ [x]) (p.length / 64)) _
   rw[hc,←bH,hr,List.drop_append_of_le_length eU,List.take_of_length_le (by simp;omega)]
  ·rw[e,aR];show 0=_;omega
  rw[e,aR]
  show List.take 0 _=_
  rw[List.take_zero,List.drop_of_length_le (by rw[aR];omega)]
 have e:hput s x=⟨s.st,s.rest.set s.many x,s.many+1⟩:=by unfold hput;rw[if_neg oe]
 have hd: (p.length+1) / 64=p.length / 64:=by omega
 refine⟨hk, ?_, ?_, ?_⟩
 ·rw[e,aR,hd,hc];exact bH
 ·rw[e,aR];show s.many+1=_;omega
 rw[e,aR,hd]
 show List.take (s.many+1) (s.rest.set s.many x)=_
 rw[qd,List.drop_append_of_le_length eU]
def Inv.zero:Inv H0 []:=⟨R4,rfl,rfl,rfl⟩
end Go.Dig
section
open Go Go.Proofs Go.Sx Go.StP
namespace Go.Proofs
def GlobE.new {w0 w:World} {L:aA} (hg:GlobE w0) (h:Hp w0 L w) (hn:New w0.heap.size L):GlobE w:=by
 obtain⟨e0,e1,f0,f1,h0,h1⟩:=id hg
 have:3<w0.heap.size:=(Array.getElem?_eq_some_iff.1 h1).1
 exact hg.of h fun b hb=>by have:=hn.le b hb;omega
def My (m:List UInt8): (Dig.shaR m).length=32:=Dig.outPre_length _ _
def idV (k:Int) (t:List UInt8):IdL:=if RdOk k t then⟨Dig.shaR (Qb k t),My _⟩ else id0
instance:DecidableEq ChildL:=fun a b=>if h:a.id.l=b.id.l∧a.kind=b.kind then .isTrue (by cases a;cases b;simp only at h;obtain⟨h3,rfl⟩:=h;rw[IdL.ext' h3]) else .isFalse (fun e=>h (by rw[e];exact⟨rfl,rfl⟩))
theorem ChildL.ext' {a b:ChildL} (h: (a.id.l==b.id.l&&a.kind==b.kind)=true):a=b:=by
 simp only[Bool.and_eq_true,beq_iff_eq] at h
 cases a;cases b;simp only at h;obtain⟨h3,rfl⟩:=h;rw[IdL.ext' h3]
end Go.Proofs
end
section
open Go Go.Proofs Go.Sx Go.StP Go.Flo
namespace Go.Proofs
structure ObL where
 k:Int
 t:List UInt8
def s7 (s:List UInt8):ObL:=⟨if frOk s then frK s else 0,if frOk s then(frT s).1 else []⟩
def idOf (s:List UInt8):IdL:=idV (s7 s).k (s7 s).t
def yZ:List (List UInt8)→List IdL→List ObL→Option (List IdL×List ObL)
 | [],ids,os=>some (ids,os)
 |s::r,ids,os=>if frOk s=true∧(ids.any fun y=>(idOf s).l==y.l)=false then yZ r (ids++ [idOf s]) (os++ [s7 s]) else none
def fillV (l:List PartL):Option (List IdL×List ObL):=match allV l with
 | .ok ts=>yZ ts [] []
 | .error _=>none
end Go.Proofs
end
section
open Go Go.Proofs Go.Sx
namespace Go.Proofs
def hvL:List UInt32:= [0x00000000,0x1db71064,0x3b6e20c8,0x26d930ac,0x76dc4190,0x6b6b51f4,0x4db26158,0x5005713c,0xedb88320,0xf00f9344,0xd6d6a3e8,0xcb61b38c,0x9b64c2b0,0x86d3d2d4,0xa00ae278,0xbdbdf21c]
def Pp (n:UInt32):UInt32:=jM n 4^^^hvL.getD (n&&&15).toNat 0
def mA (n:UInt32):Nat→UInt32
 |0=>n
 |k+1=>Pp (mA n k)
def oO (n:UInt32) (b:UInt8):UInt32:=mA (n^^^UInt32.ofNat b.toNat) 2
def Kd (n:UInt32): (n&&&15).toNat<16:=by
 rw[UInt32.toNat_and]
 exact Nat.lt_of_le_of_lt Nat.and_le_right (by decide)
def GlobC (w:World):Prop:= ∃e f,w.heap[(4:Nat)]? =some (.cells (a32 hvL) e f)
def GlobC.of {w w':World} {L:aA} (h:GlobC w) (hw:Hp w L w') (hn: (4:Nat)∉keys L):GlobC w':=by
 obtain⟨e,f,h⟩:=h
 exact⟨e,f,by rw[hw.old _ (Array.getElem?_eq_some_iff.1 h).1 hn];exact h⟩
def OT:hvL.length=16:=rfl
def dX:=aN (aN @bq @iH) (aN @iG (aN @iF @bl))
def JU (n:UInt32) (b:UInt8) (w:World) (hG:GlobC w):
  Rets prog 305 #[v32 n,v8 b] w (fun v D=>v=v32 (oO n b)∧D= []):=by
 obtain⟨e,f,tG⟩:=hG
 refine Rets.enterV func305 rfl (rs:= [.tmp 4]) results305 ntmps305 ?_
 refine kf ?_
 refine ky @dX ?_
 unfold oO
 generalize n^^^UInt32.ofNat b.toNat=m
 rw[show v32 m=v32 (mA m 0) from rfl]
 refine Cw.loopG (G:=Nat) [10,11,12,13,14,15,16,17,0,18,9] (fun g=> [(0,v32 (mA m g)),(9,vi g)]) (fun g=> []) (fun g=>g≤2) (fun g=>2 - g) 0 rfl rfl ?_ ?_
 ·omega
 intro g j hg
 refine kv ?_
 by_cases aG:g<2
 ·have VF:=Kd (mA m g)
  have hl:=OT
  refine ky (aN @dX @tG) ?_
  refine Again.mk (g+1) oM oM rfl rfl
 obtain rfl:g=2:=by omega
 refine ky @dX ?_
 refine⟨_,(ke @dX),trivial, ?_⟩
 rfl
def jT (n:UInt32) (s:List UInt8):UInt32:=s.foldl oO n
def IK (n:UInt32) (s:List UInt8) (g:Nat) (h:g<s.length):jT n (s.take (g+1))=oO (jT n (s.take g)) (s.getD g 0):=by
 unfold jT
 rw[List.take_succ_eq_append_getElem h,List.foldl_append,List.getD_eq_getElem?_getD,List.getElem?_eq_getElem h]
 rfl
def Kb (n:UInt32) (s:List UInt8) (w:World) (hG:GlobC w) (hs:s.length<1099511627776):
  Rets prog 272 #[v32 n,vs s] w (fun v D=>v=v32 (~~~ (jT (~~~ n) s))∧D= []):=by
 refine Rets.enterV func272 rfl (rs:= [.tmp 4]) results272 ntmps272 ?_
 refine kf ?_
 refine ky @dX ?_
 rw[show v32 (~~~ n)=v32 (jT (~~~ n) (s.take 0)) from rfl]
 refine Cw.loopG (G:=Nat) [12,13,6,14,15,16,17,18,5,19,11] (fun g=> [(5,v32 (jT (~~~ n) (s.take g))),(11,vi g)]) (fun g=> []) (fun g=>g≤s.length) (fun g=>s.length - g) 0 rfl rfl ?_ ?_
 ·omega
 intro g j hg
 refine kv ?_
 by_cases aG:g<s.length
 ·refine ky @dX ?_
  refine Ow.callFV rfl call305 (fun w' aB=>JU _ _ w' (GlobC.of hG aB (by simp[keys]))) ?_
  refine ko @dX ?_
  refine ky @dX ?_
  refine Again.mk (g+1) oM oM rfl ?_
  rw[IK _ _ _ aG]
  rfl
 obtain rfl:g=s.length:=by omega
 refine ky @dX ?_
 rw[List.take_length]
 refine⟨_,(ke @dX),trivial, ?_⟩
 rfl
def crcV (s:List UInt8):UInt32:= ~~~ (jT (~~~ (0:UInt32)) s)
def Km (b:Nat) (s:List UInt8) (E:TypeId) (w:World) (hG:GlobC w) (hs:s.length<1099511627776) (ho:w.heap[b]? =some (.cells #[vs s] E (0,0))):
  Rets prog 237 #[vsl b 0 1 1] w (fun v D=>v=v32 (crcV s)∧D= []):=by
 have hS:StrS w (vsl b 0 1 1) [s] b 0 #[vs s] E (0,0):=StrS.lit [s] rfl rfl ho
 refine Rets.enterV func237 rfl (rs:= [.tmp 2]) results237 ntmps237 ?_
 refine kf ?_
 refine ky @dX ?_
 refine Cw.loopG (G:=Nat) [9,10,11,5,12,13,14,3,15,8] (fun g=> [(3,v32 (if g=0 then 0 else crcV s)),(8,vi g)]) (fun g=> []) (fun g=>g≤1) (fun g=>1 - g) 0 rfl rfl ?_ ?_
 ·omega
 intro g j hg
 refine kv ?_
 by_cases aG:g<1
 ·obtain rfl:g=0:=by omega
  have lU:=hS.get 0 (by simp)
  have bv:=hS.has (by simp)
  have uC:=fun m=>hS.idx m 0 (by simp)
  ((try with_reducible refine Cw.go [] ?_);(try simp(disch:=first|exact dD|fail) only[↓Sx.S0,Sx.S1,fx,dX,Nat.reduceAdd,Nat.reducePow,Int.reducePow,Nat.reduceBEq, ↓reduceIte,UInt8.reduceToNat,UInt16.reduceToNat,UInt32.reduceToNat,UInt64.reduceToNat,Int.reduceToNat,Sx.loadV_one,bv,lU,uC]))
  refine Ow.callFV rfl call272 (fun w' aB=>Kb 0 s w' (GlobC.of hG aB (by simp[keys])) hs) ?_
  refine ko @dX ?_
  refine ky @dX ?_
  refine Again.mk 1 oM oM rfl rfl
 obtain rfl:g=1:=by omega
 refine ky @dX ?_
 refine⟨_,(ke @dX),trivial, ?_⟩
 rfl
def rF (n:UInt32) (g:Nat):List UInt8:=(List.range 4).map fun j=>if j<g then UInt8.ofNat (jM n (8*j)).toNat else 0
def sum4 (n:UInt32):List UInt8:=rF n 4
def Uf (n:UInt32) (g:Nat): (rF n g).length=4:=by simp[rF]
def Fy (n:UInt32) (g:Nat) (h:g<4): (rF n g).set g (UInt8.ofNat (jM n (8*g)).toNat)=rF n (g+1):=by
 have:g=0∨g=1∨g=2∨g=3:=by omega
 rcases this with rfl|rfl|rfl|rfl<;>rfl
def eY (s:List UInt8):List UInt8:=s++sum4 (crcV s)
def UN (s:List UInt8) (w:World) (hG:GlobC w) (hs:s.length<1099511627776):
  Rets prog 209 #[vs s] w (fun v D=>v=vs (eY s)∧D= []):=by
 have gi: (4:Nat)<w.heap.size:=by obtain⟨e,f,h⟩:=hG;exact(Array.getElem?_eq_some_iff.1 h).1
 refine Rets.enterV func209 rfl (rs:= [.tmp 2]) results209 ntmps209 ?_
 refine kf ?_
 refine ky @dX ?_
 refine Ow.buildSlice (e:=9) #[vs s] rfl rfl kR fun b1 aP aY=> ?_
 refine ko @dX ?_
 refine Ow.callFV rfl call237 (fun w' aB=>Km b1 s _ w' (GlobC.of hG aB (by simp[keys];omega)) hs (aB.has _ _ ah)) ?_
 refine ko @dX ?_
 refine ky @dX ?_
 unfold eY
 generalize crcV s=n
 refine Ow.alloc rfl rfl zr346 fun b2 ar eW=> ?_
 obtain⟨CW,-⟩:=ar
 refine ko @dX ?_
 refine ky @dX ?_
 rw[show a8 (List.replicate 4 0)=a8 (rF n 0) from rfl]
 refine Cw.loopG (G:=Nat) [10,11,5,12,13,14,15,16,17,18,19,9] (fun g=> [(9,vi g)]) (fun g=> [(b1, .cells #[vs s] 9 (0,0)),(b2, .cells (a8 (rF n g)) 346 (0,0))]) (fun g=>g≤4) (fun g=>4 - g) 0 rfl rfl ?_ ?_
 ·omega
 intro g j hg
 refine kv ?_
 have fc:=Uf n g
 by_cases aG:g<4
 ·refine ky @dX ?_
  refine Again.mk (g+1) oM oM ?_ rfl
  rw[Fy n g aG]
 obtain rfl:g=4:=by omega
 refine ky @dX ?_
 refine⟨_,(ke @dX),⟨aY,eW,trivial⟩, ?_⟩
 rw[List.drop_zero,List.take_of_length_le oM];rfl
def lb (s:List UInt8):List UInt8×Bool:=
 if s.length<4 then([],false) else if eY (s.take (s.length - 4))=s then(s.take (s.length - 4),true) else([],false)
def r8 (s:List UInt8): (eY s).length=s.length+4:=by unfold eY sum4;rw[List.length_append,Uf]
def FB (s:List UInt8) (w:World) (hG:GlobC w) (hs:s.length<1099511627776):
  Rets prog 216 #[vs s] w (fun v D=>v= .tuple #[vs (lb s).1, .bool (lb s).2]∧D= []):=by
 refine Rets.enterV func216 rfl (rs:= [.tmp 2, .tmp 3]) results216 ntmps216 ?_
 refine kf ?_
 refine ky @dX ?_
 unfold lb
 by_cases h4:s.length<4
 ·have e1:decide ((s.length:Int)<4)=true:=dR oM
  rw[if_pos h4]
  refine ky (aN @dX @e1) ?_
  refine⟨_,(ke @dX),trivial, ?_⟩
  rfl
 have e1:decide ((s.length:Int)<4)=false:=i1 oM
 have e2: ((s.length:Int) - 4).toNat=s.length - 4:=by omega
 rw[if_neg h4]
 refine ky (aN @dX (aN @e1 @e2)) ?_
 refine Ow.callFV rfl call209 (fun w' aB=>UN (s.take (s.length - 4)) w' (GlobC.of hG aB (by simp[keys])) (by rw[List.length_take];omega)) ?_
 refine ko @dX ?_
 cases hq: (eY (s.take (s.length - 4)) !=s)
 ·rw[if_pos (by simpa using hq)]
  refine ky (aN @dX (aN @hq @e2)) ?_
  refine⟨_,(ke @dX),trivial, ?_⟩
  rfl
 rw[if_neg (by simpa using hq)]
 refine ky (aN @dX @hq) ?_
 refine⟨_,(ke @dX),trivial, ?_⟩
 rfl
end Go.Proofs
end
section
open Go Go.Proofs Go.Sx Go.StP Go.Flo
namespace Go.Proofs
instance:DecidableEq ObL:=fun a b=>if h:a.k=b.k∧a.t=b.t then .isTrue (by cases a;cases b;simp only at h;obtain⟨rfl,rfl⟩:=h;rfl) else .isFalse (fun e=>h (by rw[e];exact⟨rfl,rfl⟩))
def Oo {D:aA} {E:TypeId} {m n:Nat} {v:Value} {cs:List Value} (h:GrI D E m v n cs) (x:Bool×Nat):eF (.sl x) v=some (vi n):=by
 obtain⟨X,-,h⟩:=h;exact h.len x
def uf {w0:World} {L X D:aA} (hC:Came w0 L X D) (hX:New w0.heap.size X):New w0.heap.size D:=New.of_le fun c hc=>by
 rcases hC.new c hc with h| ⟨-,h⟩
 ·exact hX.le c h
 exact h
instance:DecidableEq PartL:=fun a b=>if h:a.d=b.d∧a.b=b.b∧a.x=b.x then .isTrue (by cases a;cases b;simp only at h;obtain⟨rfl,rfl,rfl⟩:=h;rfl) else .isFalse (fun e=>h (by rw[e];exact⟨rfl,rfl,rfl⟩))
end Go.Proofs
end
section
open Go Go.Proofs Go.Sx Go.Dig
namespace Go.Proofs
end Go.Proofs
end
section
open Go Go.Proofs Go.Sx Go.StP Go.Flo Go.Dig
namespace Go.Proofs
section
variable {P:Program} {w0:World} {f:Fr} {L:aA} {N:Fr→aA→Prop} {ops:Array Oper} {rest:List Oper} {md:Md} {d:Option Tmp} {ty:TypeId} {ps:String} {af:Array Edge} {g:Option (Nat×Bool)}
end
end Go.Proofs
end
section
open Go Go.Proofs Go.Sx Go.StP Go.Flo
namespace Go.Proofs
abbrev m7 (w:World) (v:Value) (l:List (List UInt8)):Prop:=SlV 1 strC [] w v l
def xx {w:World} {v:Value} {l:List (List UInt8)} {b off:Nat} {arr:Array Value} {E:TypeId} {fz:Nat×Nat} (h:RowS 1 strC [] w v l b off arr E fz) {k:Nat} (hk:k<l.length) (n:Nat):
  ak (some (false,n)) (some (.cells arr E fz)) (off+k)=some (vs (l.getD k [])):=by
 have:=h.cell (j:=0) (n:=n) hk oM
 rwa [Nat.mul_one,Nat.add_zero] at this
end Go.Proofs
end
section
open Go Go.Proofs Go.Sx Go.StP
namespace Go.Proofs
def cN (s:List UInt8):Bool:= !(s== [])&&decide (s.length≤80)&& !(s.any badB)
def eO:=aN (aN (aN @bq (aN @iH @iG)) (aN (aN @iF @bl) (aN @EM @Tf))) (aN (aN (aN @Ex @Td) (aN @rf @tv)) (aN (aN @Sx.tup3_0 @Sx.tup3_1) (aN @Sx.tup3_2 @eqb)))
def Fb (c:Int) (w:World):Rets prog 171 #[fY c] w (fun v D=>v= .bool (badR c)∧D= []):=by
 refine Rets.enterV func171 rfl (rs:= [.tmp 2]) results171 ntmps171 ?_
 refine kf ?_
 unfold badR
 cases h1:decide (c<33)
 ·cases h2:decide (126<c)
  ·refine ky (aN @eO (aN @h1 @h2)) ?_
   refine⟨_,(ke @eO),trivial, ?_⟩
   simp[bw]
  refine ky (aN @eO (aN @h1 @h2)) ?_
  refine⟨_,(ke @eO),trivial, ?_⟩
  simp[bw]
 refine ky (aN @eO @h1) ?_
 refine⟨_,(ke @eO),trivial, ?_⟩
 simp[bw]
def GZ (s:List UInt8) (w:World) (hs:s.length<1099511627776):
  Rets prog 97 #[vs s] w (fun v D=>v= .bool (cN s)∧D= []):=by
 refine Rets.enterV func97 rfl (rs:= [.tmp 2]) results97 ntmps97 ?_
 refine kf ?_
 cases h0: (s != [])
 ·have e0: (s== [])=true:=by simpa using h0
  refine ky (aN @eO @h0) ?_
  refine⟨_,(ke @eO),trivial, ?_⟩
  simp[bw,cN,e0]
 have e0: (s== [])=false:=by simpa using h0
 cases h1:decide ((s.length:Int)≤80)
 ·have e1:decide (s.length≤80)=false:=i1 (by have:=of_decide_eq_false h1;omega)
  refine ky (aN @eO (aN @h0 @h1)) ?_
  refine⟨_,(ke @eO),trivial, ?_⟩
  simp only[bw,cN,e0,e1,Bool.not_false,Bool.true_and,Bool.false_and,Bool.and_false]
 have e1:decide (s.length≤80)=true:=dR (by have:=of_decide_eq_true h1;omega)
 refine ky (aN @eO (aN @h0 @h1)) ?_
 refine Ow.callFV rfl call170 (fun w' aB=>XL s 171 call171 Fb w' hs) ?_
 refine ko @eO ?_
 refine ky @eO ?_
 refine⟨_,(ke @eO),trivial, ?_⟩
 simp only[bw,cN,e0,e1,Bool.not_false,Bool.true_and]
def Jt (s:List UInt8) (w:World) (hs:s.length<1099511627776):Rets prog 207 #[vs s] w (fun v D=>v= .bool (!cN s)∧D= []):=by
 refine Rets.enterV func207 rfl (rs:= [.tmp 2]) results207 ntmps207 ?_
 refine kf ?_
 refine ky @eO ?_
 refine Ow.callFV rfl call97 (fun w' aB=>GZ s w' hs) ?_
 refine ko @eO ?_
 refine ky @eO ?_
 refine⟨_,(ke @eO),trivial, ?_⟩
 rfl
def Y4 (v:Value) (l:List (List UInt8)) (w:World) (hv:m7 w v l) (hl:l.length<1000000) (hs: ∀s,s∈l→s.length<1099511627776):Rets prog 236 #[v, .func (.func 207) #[] #[]] w (fun v D=>(∃i:Int,v=vi i∧decide (0≤i)= !(l.all cN))∧D= []):=by
 obtain⟨rb,off,arr,E,fz,hr⟩:=hv.row
 have ln:=hv.len
 refine Rets.enterV func236 rfl (rs:= [.tmp 4]) results236 ntmps236 ?_
 refine kf ?_
 refine ky (aN @eO @ln) ?_
 refine Cw.loopG (G:=Nat) [9,10,5,11,12,13,14,15,16,17,4,18,8] (fun k=> [(4,vi 0),(8,vi k)]) (fun k=> []) (fun k=>k≤l.length∧(l.take k).all cN=true) (fun k=>l.length - k) 0 rfl rfl ?_ ?_
 ·exact⟨cC _,rfl⟩
 intro k jk hk
 refine kv ?_
 obtain⟨hk,Cc⟩:=hk
 by_cases aG:k<l.length
 ·have d1:decide ((k:Int)< (l.length:Int))=true:=dR oM
  have hb:=hr.has oM
  have ix:=hr.idx false k aG
  have ld:=fun n=>xx hr aG n
  have qf:=StP.take_snoc (z:=([]:List UInt8)) aG
  have hm:l.getD k []∈l:=by rw[List.getD_eq_getElem?_getD,List.getElem?_eq_getElem aG];exact List.getElem_mem aG
  have cA:=hs _ hm
  generalize l.getD k []=s at*
  refine ky (aN @eO (aN @d1 (aN @hb (aN @ix @ld)))) ?_
  refine Ow.callFn1 (v:= .bool (!cN s)) rfl rfl rfl call207 (fun w' aB=>Jt s w' cA) ?_
  cases hn:cN s with
  |true=>
   refine ko @eO ?_
   refine Again.mk (G:=Nat) (k+1) (by show l.length - (k+1)<l.length - k;omega) ⟨aG, ?_⟩ rfl rfl
   rw[qf,List.all_append,Cc,List.all_cons,hn];rfl
  |false=>
   refine ko @eO ?_
   refine ky @eO ?_
   refine⟨_,(ke @eO),trivial, ?_⟩
   refine⟨(k:Int),rfl, ?_⟩
   rw[dR (show(0:Int)≤ (k:Int) by omega),show l.all cN=false from List.all_eq_false.2 ⟨s,hm,by rw[hn];simp⟩];rfl
 obtain rfl:k=l.length:=by omega
 have d1:decide ((l.length:Int)< (l.length:Int))=false:=i1 oM
 rw[List.take_length] at Cc
 refine ky (aN @eO @d1) ?_
 refine⟨_,(ke @eO),trivial, ?_⟩
 exact⟨-1,rfl,by rw[Cc];rfl⟩
def Wc (v:Value) (l:List (List UInt8)) (w:World) (hv:m7 w v l) (hl:l.length<1000000) (hs: ∀s,s∈l→s.length<1099511627776):Rets prog 206 #[v, .func (.func 207) #[] #[]] w (fun v D=>v= .bool (!(l.all cN))∧D= []):=by
 refine Rets.enterV func206 rfl (rs:= [.tmp 4]) results206 ntmps206 ?_
 refine kf ?_
 refine ky @eO ?_
 refine Ow.callC rfl rfl call236 (fun w' aB=>Rets.toX (Y4 v l w' (hv.oldN aB trivial) hl hs)) (fun B1 v1 D1 eR dv dT d8=> ?_)
 obtain⟨rfl,i,rfl,hi⟩:=d8
 refine ko (aN @eO @hi) ?_
 refine ky @eO ?_
 refine⟨_,(ke @eO),trivial, ?_⟩
 rfl
structure FileL where
 data:List UInt8
 stl:Nat
def d4:FileL:=⟨[],0⟩
structure CallL where
 kind:Nat
 a:List UInt8
 b:List UInt8
 n:Nat
def gr:CallL:=⟨2,[],[],0⟩
abbrev NmL:=List (List UInt8×Nat)
structure DirL where
 seen:NmL
 stl:NmL
 pend:List CallL
structure DiskL where
 dir:Nat→DirL
 files:List FileL
 max:Int
 fuse:Int
 fused:Bool
 off:Bool
def aL (l:NmL) (s:List UInt8):Option Nat:=(l.find? fun p=>s==p.1).map Prod.snd
def eD (l:NmL) (s:List UInt8):NmL:=l.filter fun p=> !(s==p.1)
def insN:NmL→List UInt8×Nat→NmL
 | [],x=> [x]
 |p::r,x=>if ltB x.1 p.1=true then x::p::r else p::insN r x
def fm (l:NmL) (x:List UInt8×Nat):NmL:=insN (eD l x.1) x
def SrtN (l:NmL):Prop:=l.Pairwise fun p q=>ltB p.1 q.1=true
def SrtN.nodup {l:NmL} (h:SrtN l): (l.map Prod.fst).Nodup:=by
 refine List.pairwise_map.2 (List.Pairwise.imp ?_ h)
 intro a b i7 e
 rw[e,BF] at i7;cases i7
theorem pv (x:List UInt8×Nat): ∀l:NmL,(insN l x).Perm (x::l)
 | []=>List.Perm.refl _
 |p::r=>by
  unfold insN
  split
  ·exact List.Perm.refl _
  exact((pv x r).cons p).trans (List.Perm.swap x p r)
theorem xU {x:List UInt8×Nat}: ∀ {l:NmL},SrtN l→(∀p,p∈l→p.1≠x.1)→SrtN (insN l x)
 | [],_,_=>List.pairwise_singleton _ _
 |p::r,h,hx=>by
  unfold SrtN at h
  rw[List.pairwise_cons] at h
  unfold insN
  split
  ·rename_i h1
   refine List.pairwise_cons.2 ⟨fun q hq=> ?_,List.pairwise_cons.2 h⟩
   rcases List.mem_cons.1 hq with rfl|hq
   ·exact h1
   exact tS h1 (h.1 q hq)
  rename_i h1
  refine List.pairwise_cons.2 ⟨fun q hq=> ?_,xU h.2 fun q hq=>hx q (aq _ hq)⟩
  rcases List.mem_cons.1 ((pv x r).mem_iff.1 hq) with rfl|hq
  ·have nE:ltB q.1 p.1=false:=by simpa using h1
   exact uc nE (fun e=>hx p ah e.symm)
  exact h.1 q hq
def BU {l:NmL} (s:List UInt8) (h:SrtN l):SrtN (eD l s):=List.Pairwise.filter _ h
def NQ {l:NmL} {s:List UInt8} {p:List UInt8×Nat} (h:p∈eD l s):p.1≠s:=by
 have:=(List.mem_filter.1 h).2
 intro e
 rw[e] at this;simp at this
def Bw {l:NmL} (x:List UInt8×Nat) (h:SrtN l):SrtN (fm l x):=xU (BU _ h) fun _ hp=>NQ hp
def gJ {l:NmL} {s:List UInt8} {n:Nat} (h:aL l s=some n): (s,n)∈l:=by
 unfold aL at h
 cases hf:l.find? fun p=>s==p.1 with
 |none=>rw[hf] at h;cases h
 |some p=>
  rw[hf] at h
  have h1:=List.find?_some hf
  have h2:=List.mem_of_find?_eq_some hf
  obtain⟨a,b⟩:=p
  cases h
  rw[show s=a from by simpa using h1];exact h2
def UR {l:NmL} {s:List UInt8} (h:aL l s=none): ∀p,p∈l→p.1≠s:=by
 intro p hp e
 unfold aL at h
 cases hf:l.find? fun p=>s==p.1 with
 |none=>
  have:=List.find?_eq_none.1 hf p hp
  rw[e] at this;simp at this
 |some q=>rw[hf] at h;cases h
def wN {α β:Type} {m:List (α×β)} (hn: (m.map Prod.fst).Nodup) {k:α} {a b:β} (h1: (k,a)∈m) (h2: (k,b)∈m):a=b:=by
 induction m with
 |nil=>cases h1
 |cons p r ih=>
  rw[List.map_cons,List.nodup_cons] at hn
  rcases List.mem_cons.1 h1 with e1|h1
  ·rcases List.mem_cons.1 h2 with e2|h2
   ·rw[←e1] at e2;exact(congrArg Prod.snd e2).symm
   exact absurd (by rw[←e1];exact List.mem_map.2 ⟨_,h2,rfl⟩) hn.1
  rcases List.mem_cons.1 h2 with e2|h2
  ·exact absurd (by rw[←e2];exact List.mem_map.2 ⟨_,h1,rfl⟩) hn.1
  exact ih hn.2 h1 h2
def vE {l:NmL} (hn: (l.map Prod.fst).Nodup) {s:List UInt8} {n:Nat} (h: (s,n)∈l):aL l s=some n:=by
 cases hf:aL l s with
 |none=>exact absurd rfl (UR hf _ h)
 |some m=>rw[wN hn (gJ hf) h]
section
variable {α β:Type} [BEq α] [LawfulBEq α]
def Ov {m:List (α×β)} (hn: (m.map Prod.fst).Nodup) {k:α} {v z:β} (h: (k,v)∈m):getG k z m=v:=by
 unfold getG
 cases hf:m.find? fun p=>k==p.1 with
 |none=>
  have:=List.find?_eq_none.1 hf _ h
  exact absurd (beq_self_eq_true k) this
 |some q=>
  have h1:=List.find?_some hf
  have h2:=List.mem_of_find?_eq_some hf
  obtain⟨a,b⟩:=q
  have e:k=a:=eq_of_beq h1
  subst e
  exact wN hn h2 h
def Np {m:List (α×β)} {k:α} {z:β} (h: ∀p,p∈m→p.1≠k):getG k z m=z:=by
 unfold getG
 cases hf:m.find? fun p=>k==p.1 with
 |none=>rfl
 |some q=>
  have h1:=List.find?_some hf
  exact absurd (eq_of_beq h1).symm (h q (List.mem_of_find?_eq_some hf))
def w5 {m:List (α×β)} {k:α} (h: ∀p,p∈m→p.1≠k):m.filter (fun p=> !(k==p.1))=m:=
 List.filter_eq_self.2 fun p hp=>by
  have:=h p hp
  cases e:k==p.1 with
  |false=>rfl
  |true=>exact absurd (eq_of_beq e).symm this
theorem vo (k:α) (v:β): ∀ {m:List (α×β)},(m.map Prod.fst).Nodup→(updG k v m).Perm ((k,v)::m.filter fun p=> !(k==p.1))
 | [],_=>List.Perm.refl _
 |p::r,hn=>by
  rw[List.map_cons,List.nodup_cons] at hn
  unfold updG
  cases hk: (k==p.1) with
  |true=>
   rw[if_pos rfl,List.filter_cons,hk]
   have e:k=p.1:=eq_of_beq hk
   have hr:r.filter (fun p=> !(k==p.1))=r:=w5 fun q hq e2=>hn.1 (List.mem_map.2 ⟨q,hq,by rw[e2,e]⟩)
   simp only[Bool.not_true,Bool.false_eq_true, ↓reduceIte,hr]
   rw[e]
  |false=>
   rw[if_neg (by simp),List.filter_cons,hk]
   simp only[Bool.not_false, ↓reduceIte]
   exact((vo k v hn.2).cons p).trans (List.Perm.swap _ _ _)
theorem y7 (k:α): ∀ {m:List (α×β)},(m.map Prod.fst).Nodup→delG k m=m.filter fun p=> !(k==p.1)
 | [],_=>rfl
 |p::r,hn=>by
  rw[List.map_cons,List.nodup_cons] at hn
  unfold delG
  cases hk: (k==p.1) with
  |true=>
   rw[if_pos rfl,List.filter_cons,hk]
   have e:k=p.1:=eq_of_beq hk
   have hr:r.filter (fun p=> !(k==p.1))=r:=w5 fun q hq e2=>hn.1 (List.mem_map.2 ⟨q,hq,by rw[e2,e]⟩)
   simp only[Bool.not_true,Bool.false_eq_true, ↓reduceIte,hr]
  |false=>
   rw[if_neg (by simp),List.filter_cons,hk,y7 k hn.2]
   simp only[Bool.not_false, ↓reduceIte]
end
def ao:Option Nat→Value
 |none=> .pointer none
 |some b=>vp b 0
def ptrN (fb:List Nat) (p:List UInt8×Nat):List UInt8×Option Nat:=(p.1,some (fb.getD p.2 0))
def NmP (fb:List Nat) (l:NmL) (m:List (List UInt8×Option Nat)):Prop:=m.Perm (l.map (ptrN fb))
def NmP.keys {fb:List Nat} {l:NmL} {m:List (List UInt8×Option Nat)} (h:NmP fb l m) (hn: (l.map Prod.fst).Nodup): (m.map Prod.fst).Nodup:=by
 refine((h.map Prod.fst).nodup_iff).2 ?_
 rw[List.map_map]
 exact hn
def NmP.get {fb:List Nat} {l:NmL} {m:List (List UInt8×Option Nat)} (h:NmP fb l m) (hn: (l.map Prod.fst).Nodup) (s:List UInt8):getG s none m=(aL l s).map fun n=>fb.getD n 0:=by
 cases hf:aL l s with
 |none=>
  refine Np fun p hp e=> ?_
  obtain⟨q,hq,rfl⟩:=List.mem_map.1 (h.mem_iff.1 hp)
  exact UR hf q hq e
 |some n=>exact Ov (h.keys hn) (h.mem_iff.2 (List.mem_map.2 ⟨_,gJ hf,rfl⟩))
def xX (fb:List Nat) (l:NmL) (s:List UInt8): (l.map (ptrN fb)).filter (fun p=> !(s==p.1))=(eD l s).map (ptrN fb):=by
 unfold eD
 rw[List.filter_map];rfl
def NmP.wipe {fb:List Nat} {l:NmL} {m:List (List UInt8×Option Nat)} (h:NmP fb l m) (hn: (l.map Prod.fst).Nodup) (s:List UInt8):NmP fb (eD l s) (delG s m):=by
 unfold NmP
 rw[y7 s (h.keys hn),←xX]
 exact h.filter _
def NmP.put {fb:List Nat} {l:NmL} {m:List (List UInt8×Option Nat)} (h:NmP fb l m) (hn: (l.map Prod.fst).Nodup) (s:List UInt8) (n:Nat):NmP fb (fm l (s,n)) (updG s (some (fb.getD n 0)) m):=by
 refine(vo s _ (h.keys hn)).trans ?_
 unfold fm
 refine List.Perm.trans ?_ ((pv (s,n) (eD l s)).map (ptrN fb)).symm
 rw[List.map_cons,←xX]
 exact(h.filter _).cons _
def NmP.mono {fb fb':List Nat} {l:NmL} {m:List (List UInt8×Option Nat)} (h:NmP fb l m) (hb: ∀p,p∈l→fb'.getD p.2 0=fb.getD p.2 0):NmP fb' l m:=by
 unfold NmP at h ⊢
 rw[show l.map (ptrN fb')=l.map (ptrN fb) from List.map_congr_left fun p hp=>by unfold ptrN;rw[hb p hp]]
 exact h
def jm:List UInt8:= [108,111,111,115,101]
def jP:List UInt8:= [112,97,99,107]
def aJ:List UInt8:= [114,101,102]
def gD (k:Nat):List UInt8:=match k with|0=>jm|1=>jP|_=>aJ
def av (s:List UInt8):Option Nat:=if s==jm then some 0 else if s==jP then some 1 else if s==aJ then some 2 else none
def cw {s:List UInt8} {k:Nat} (h:av s=some k):k<3∧s=gD k:=by
 unfold av at h
 split at h
 ·rename_i e;cases h;exact⟨by omega,eq_of_beq e⟩
 split at h
 ·rename_i e;cases h;exact⟨by omega,eq_of_beq e⟩
 split at h
 ·rename_i e;cases h;exact⟨by omega,eq_of_beq e⟩
 cases h
def qz {k:Nat} (h:k<3):av (gD k)=some k:=by
 have:k=0∨k=1∨k=2:=by omega
 rcases this with rfl|rfl|rfl<;>rfl
def cO (l:NmL) (c:CallL):NmL:=match c.kind with
 |0=>fm l (c.a,c.n)
 |1=>fm (eD l c.a) (c.b,(aL l c.a).getD 0)
 |_=>eD l c.a
def eB (S:DiskL) (k:Nat) (d:DirL):DiskL:={S with dir:=fun j=>if j=k then d else S.dir j}
def cF (S:DiskL) (dir:List UInt8) (names:List (List UInt8)):Nat:=if av dir=none∨names.all cN=false then 1 else if S.off=true then 9 else 0
def aK (S:DiskL):DiskL×Nat:=if S.fused=true∧S.fuse=0 then({S with off:=true},9) else if S.fused=true then({S with fuse:=S.fuse - 1},0) else(S,0)
def gw (S:DiskL) (l:NmL):Nat:=(l.map fun p=>(S.files.getD p.2 d4).data.length).sum
def jL (S:DiskL):Nat:=gw S (S.dir 0).seen+gw S (S.dir 1).seen+gw S (S.dir 2).seen
structure DkOk (S:DiskL):Prop where
 seen: ∀k,k<3→SrtN (S.dir k).seen
 stl: ∀k,k<3→SrtN (S.dir k).stl
 seenN: ∀k,k<3→ ∀p,p∈ (S.dir k).seen→p.2<S.files.length
 stlN: ∀k,k<3→ ∀p,p∈ (S.dir k).stl→p.2<S.files.length
 pendN: ∀k,k<3→ ∀c,c∈ (S.dir k).pend→c.kind=0→c.n<S.files.length
 file: ∀f,f∈S.files→f.data.length≤1048576∧f.stl≤f.data.length
 fuse: -9223372036854775808≤S.fuse∧S.fuse<9223372036854775808∧(S.fused=true→0≤S.fuse)
 max: -9223372036854775808≤S.max∧S.max<9223372036854775808
def cr (f:FileL):Obj:= .cells #[vs f.data,vi (f.stl:Int)] 182 (0,0)
def bh (a b:Nat) (v:Value):Obj:= .cells #[vm a,vm b,v] 175 (0,0)
def bA (bm:Nat) (S:DiskL):Obj:= .cells #[vm bm,vi S.max,vi S.fuse, .bool S.fused, .bool S.off] 168 (0,0)
def cv (s:List UInt8):Obj:= .cells #[vs s] 9 (0,0)
def g_ (b:Nat):Obj:= .cells #[vp b 0] 178 (0,0)
structure DkG where
 bd:Nat
 bm:Nat
 d:Nat→Nat
 s:Nat→Nat
 t:Nat→Nat
 p:Nat→Value
 fb:List Nat
def nu (G:DkG):List (List UInt8×Option Nat):= [(jm,some (G.d 0)),(jP,some (G.d 1)),(aJ,some (G.d 2))]
def FnP (X:aA) (fb:List Nat) (v:Value) (c:CallL):Prop:=match c.kind with
 |0=> ∃b1 b2,v= .func (.func 324) #[] #[vp b1 0,vp b2 0]∧Sx.look X b1=some (g_ (fb.getD c.n 0))∧Sx.look X b2=some (cv c.a)
 |1=> ∃b1 b2,v= .func (.func 320) #[] #[vp b1 0,vp b2 0]∧Sx.look X b1=some (cv c.a)∧Sx.look X b2=some (cv c.b)
 |_=> ∃b1,v= .func (.func 309) #[] #[vp b1 0]∧Sx.look X b1=some (cv c.a)
def NmM (X:aA) (fb:List Nat) (b:Nat) (l:NmL):Prop:= ∃o m,Sx.look X b=some o∧dg vs ao o m∧NmP fb l m
structure DkP (X:aA) (G:DkG) (S:DiskL):Prop where
 disk:Sx.look X G.bd=some (bA G.bm S)
 dirs: ∃o,Sx.look X G.bm=some o∧dg vs ao o (nu G)
 dir: ∀k,k<3→Sx.look X (G.d k)=some (bh (G.s k) (G.t k) (G.p k))
 seen: ∀k,k<3→NmM X G.fb (G.s k) (S.dir k).seen
 stl: ∀k,k<3→NmM X G.fb (G.t k) (S.dir k).stl
 pend: ∀k,k<3→ ∃vals:List Value,vals.length=(S.dir k).pend.length∧Gr X 176 1 (G.p k) vals.length vals∧ ∀i,i<vals.length→FnP X G.fb (vals.getD i undef) ((S.dir k).pend.getD i gr)
 file: ∀n,n<S.files.length→Sx.look X (G.fb.getD n 0)=some (cr (S.files.getD n d4))
 len:G.fb.length=S.files.length
 nodf:G.fb.Nodup
 nodm: [G.s 0,G.s 1,G.s 2,G.t 0,G.t 1,G.t 2].Nodup
 nodd: [G.d 0,G.d 1,G.d 2].Nodup
 nodb: ∀k,k<3→G.bm≠G.s k∧G.bm≠G.t k
 nodp: ∀i j,i<3→j<3→i≠j→ ∀b,slB (G.p i)=some b→slB (G.p j)≠some b
 ok:DkOk S
def DkW (w:World) (G:DkG) (S:DiskL):Prop:= ∃X,(∀b o,Sx.look X b=some o→w.heap[b]? =some o)∧DkP X G S
def FnP.keep {X X':aA} {fb:List Nat} {v:Value} {c:CallL} (h:FnP X fb v c) (hk: ∀b o,Sx.look X b=some o→((∃s,o=cv s)∨ ∃a,o=g_ a)→Sx.look X' b=some o):FnP X' fb v c:=by
 unfold FnP at h ⊢
 split at h
 ·obtain⟨b1,b2,h1,h2,h3⟩:=h;exact⟨b1,b2,h1,hk _ _ h2 (.inr ⟨_,rfl⟩),hk _ _ h3 (.inl ⟨_,rfl⟩)⟩
 ·obtain⟨b1,b2,h1,h2,h3⟩:=h;exact⟨b1,b2,h1,hk _ _ h2 (.inl ⟨_,rfl⟩),hk _ _ h3 (.inl ⟨_,rfl⟩)⟩
 obtain⟨b1,h1,h2⟩:=h;exact⟨b1,h1,hk _ _ h2 (.inl ⟨_,rfl⟩)⟩
def NmM.keep {X X':aA} {fb:List Nat} {b:Nat} {l:NmL} (h:NmM X fb b l) (hk: ∀o,Sx.look X b=some o→Sx.look X' b=some o):NmM X' fb b l:=by
 obtain⟨o,m,h1,h2,h3⟩:=h;exact⟨o,m,hk _ h1,h2,h3⟩
def kS {L:aA} {E:TypeId} {m n:Nat} {v:Value} {cs:List Value} (h:Gr L E m v n cs) {b:Nat} (hb:slB v=some b): ∃arr,Sx.look L b=some (.cells arr E (0,0)):=by
 rcases h with h| ⟨-,-,c,rfl,h⟩
 ·cases h with
  |nl=>cases hb
  |at_ hl=>cases hb;exact⟨_,hl⟩
 cases hb;exact⟨_,h⟩
def tyO:Obj→Option TypeId
 | .cells _ t _=>some t
 |_=>none
def iD {α β:Type} {encK:α→Value} {encV:β→Value} {o:Obj} {m:List (α×β)} (h:dg encK encV o m):tyO o=none:=by
 obtain⟨es,c,rfl,-⟩:=h;rfl
def fU {X:aA} {c b:Nat} {oc x o:Obj} (hc:Sx.look X c=some oc) (hb:Sx.look X b=some o) (ht:tyO o≠tyO oc):Sx.look (setB X c x) b=some o:=by
 rw[du (by rintro rfl;rw[hc] at hb;cases hb;exact ht rfl)];exact hb
def DkP.mono {X X':aA} {G:DkG} {S:DiskL} (h:DkP X G S) (hk: ∀b o,Sx.look X b=some o→Sx.look X' b=some o):DkP X' G S where
 disk:=hk _ _ h.disk
 dirs:=by obtain⟨o,h1,h2⟩:=h.dirs;exact⟨o,hk _ _ h1,h2⟩
 dir k bb:=hk _ _ (h.dir k bb)
 seen k bb:=(h.seen k bb).keep fun o=>hk _ o
 stl k bb:=(h.stl k bb).keep fun o=>hk _ o
 pend k bb:=by
  obtain⟨vals,h1,h2,h3⟩:=h.pend k bb
  exact⟨vals,h1,h2.keep fun b o _=>hk b o,fun i hi=>(h3 i hi).keep fun b o ho _=>hk b o ho⟩
 file n hn:=hk _ _ (h.file n hn)
 len:=h.len
 nodf:=h.nodf
 nodm:=h.nodm
 nodd:=h.nodd
 nodb:=h.nodb
 nodp:=h.nodp
 ok:=h.ok
def DkP.setDisk {X:aA} {G:DkG} {S:DiskL} (h:DkP X G S) (S':DiskL) (hd:S'.dir=S.dir) (hf:S'.files=S.files) (ok:DkOk S'):DkP (setB X G.bd (bA G.bm S')) G S' where
 disk:=iI h.disk
 dirs:=by obtain⟨o,h1,h2⟩:=h.dirs;exact⟨o,fU h.disk h1 (by rw[iD h2];intro e;cases e),h2⟩
 dir k bb:=fU h.disk (h.dir k bb) (by simp[tyO,bh,bA])
 seen k bb:=by
  rw[hd]
  obtain⟨o,m,h1,h2,h3⟩:=h.seen k bb
  exact⟨o,m,fU h.disk h1 (by rw[iD h2];intro e;cases e),h2,h3⟩
 stl k bb:=by
  rw[hd]
  obtain⟨o,m,h1,h2,h3⟩:=h.stl k bb
  exact⟨o,m,fU h.disk h1 (by rw[iD h2];intro e;cases e),h2,h3⟩
 pend k bb:=by
  rw[hd]
  obtain⟨vals,h1,h2,h3⟩:=h.pend k bb
  refine⟨vals,h1,h2.keep fun b o hb ho=> ?_,fun i hi=>(h3 i hi).keep fun b o ho hx=>fU h.disk ho ?_⟩
  ·obtain⟨arr,ha⟩:=kS h2 hb
   rw[ho] at ha;cases ha
   exact fU h.disk ho (by simp[tyO,bA])
  rcases hx with⟨s,rfl⟩ | ⟨a,rfl⟩<;>simp[tyO,bA,cv,g_]
 file n hn:=by rw[hf] at hn ⊢;exact fU h.disk (h.file n hn) (by simp[tyO,bA,cr])
 len:=by rw[hf];exact h.len
 nodf:=h.nodf
 nodm:=h.nodm
 nodd:=h.nodd
 nodb:=h.nodb
 nodp:=h.nodp
 ok:=ok
def DkP.setFile {X:aA} {G:DkG} {S:DiskL} (h:DkP X G S) {n:Nat} (hn:n<S.files.length) (f:FileL) (ok:DkOk {S with files:=S.files.set n f}):DkP (setB X (G.fb.getD n 0) (cr f)) G {S with files:=S.files.set n f} where
 disk:=fU (h.file n hn) h.disk (by simp[tyO,bA,cr])
 dirs:=by obtain⟨o,h1,h2⟩:=h.dirs;exact⟨o,fU (h.file n hn) h1 (by rw[iD h2];intro e;cases e),h2⟩
 dir k bb:=fU (h.file n hn) (h.dir k bb) (by simp[tyO,bh,cr])
 seen k bb:=by
  obtain⟨o,m,h1,h2,h3⟩:=h.seen k bb
  exact⟨o,m,fU (h.file n hn) h1 (by rw[iD h2];intro e;cases e),h2,h3⟩
 stl k bb:=by
  obtain⟨o,m,h1,h2,h3⟩:=h.stl k bb
  exact⟨o,m,fU (h.file n hn) h1 (by rw[iD h2];intro e;cases e),h2,h3⟩
 pend k bb:=by
  obtain⟨vals,h1,h2,h3⟩:=h.pend k bb
  refine⟨vals,h1,h2.keep fun b o hb ho=> ?_,fun i hi=>(h3 i hi).keep fun b o ho hx=>fU (h.file n hn) ho ?_⟩
  ·obtain⟨arr,ha⟩:=kS h2 hb
   rw[ho] at ha;cases ha
   exact fU (h.file n hn) ho (by simp[tyO,cr])
  rcases hx with⟨s,rfl⟩ | ⟨a,rfl⟩<;>simp[tyO,cr,cv,g_]
 file i hi:=by
  simp only[List.length_set] at hi
  by_cases e:i=n
  ·subst e
   rw[iI (h.file i hn),List.getD_eq_getElem?_getD,List.getElem?_set_self hn];rfl
  have hl:=h.len
  have aQ:G.fb.getD i 0≠G.fb.getD n 0:=by
   intro e2
   rw[List.getD_eq_getElem?_getD,List.getD_eq_getElem?_getD,List.getElem?_eq_getElem oM,List.getElem?_eq_getElem oM] at e2
   simp only[Option.getD_some] at e2
   rcases Nat.lt_or_gt_of_ne e with aG|aG
   ·exact(List.pairwise_iff_getElem.1 h.nodf) i n oM oM aG e2
   exact(List.pairwise_iff_getElem.1 h.nodf) n i oM oM aG e2.symm
  rw[du (Ne.symm aQ),h.file i hi,List.getD_eq_getElem?_getD,List.getD_eq_getElem?_getD,List.getElem?_set_ne (Ne.symm e)]
 len:=by rw[List.length_set];exact h.len
 nodf:=h.nodf
 nodm:=h.nodm
 nodd:=h.nodd
 nodb:=h.nodb
 nodp:=h.nodp
 ok:=ok
def DkP.world {X:aA} {G:DkG} {S:DiskL} {w0 w:World} (h:DkP X G S) (hw:Hp w0 X w):DkW w G S:=⟨X,fun _ _ hb=>hw.has _ _ (cQ hb),h⟩
theorem DkW.old {w w':World} {L:aA} {G:DkG} {S:DiskL} (h:DkW w G S) (hw:Hp w L w') (hn:New w.heap.size L):DkW w' G S:=by
 obtain⟨X,h1,h2⟩:=h
 refine⟨X,fun b o hb=> ?_,h2⟩
 have aG:=(Array.getElem?_eq_some_iff.1 (h1 b o hb)).1
 rw[hw.old b aG (hn.not aG)];exact h1 b o hb
def l9 (bm:Nat) (S:DiskL) (n:Nat):ak (some (false,n)) (some (bA bm S)) 0=some (vm bm):=(rfl)
def uS (bm:Nat) (S:DiskL) (n:Nat):ak (some (false,n)) (some (bA bm S)) 1=some (vi S.max):=(rfl)
def vv (bm:Nat) (S:DiskL) (n:Nat):ak (some (false,n)) (some (bA bm S)) 2=some (vi S.fuse):=(rfl)
def wO (bm:Nat) (S:DiskL) (n:Nat):ak (some (false,n)) (some (bA bm S)) 3=some (.bool S.fused):=(rfl)
def wL (bm:Nat) (S:DiskL) (n:Nat):ak (some (false,n)) (some (bA bm S)) 4=some (.bool S.off):=(rfl)
def Iu (bm:Nat) (S:DiskL) (x:Int) (a:Bool):bM (some (a,1)) (some (bA bm S)) 1 (vi x)=some (bA bm {S with max:=x}):=lB [vm bm] [vi S.max] [vi x] [vi S.fuse, .bool S.fused, .bool S.off] a _ 168 rfl rfl rfl rfl rfl
def J4 (bm:Nat) (S:DiskL) (x:Int) (a:Bool):bM (some (a,1)) (some (bA bm S)) 2 (vi x)=some (bA bm {S with fuse:=x}):=lB [vm bm,vi S.max] [vi S.fuse] [vi x] [.bool S.fused, .bool S.off] a _ 168 rfl rfl rfl rfl rfl
def UM (bm:Nat) (S:DiskL) (x:Bool) (a:Bool):bM (some (a,1)) (some (bA bm S)) 3 (.bool x)=some (bA bm {S with fused:=x}):=lB [vm bm,vi S.max,vi S.fuse] [.bool S.fused] [.bool x] [.bool S.off] a _ 168 rfl rfl rfl rfl rfl
def UY (bm:Nat) (S:DiskL) (x:Bool) (a:Bool):bM (some (a,1)) (some (bA bm S)) 4 (.bool x)=some (bA bm {S with off:=x}):=lB [vm bm,vi S.max,vi S.fuse, .bool S.fused] [.bool S.off] [.bool x] [] a _ 168 rfl rfl rfl rfl rfl
def mq (a b:Nat) (v:Value) (n:Nat):ak (some (false,n)) (some (bh a b v)) 0=some (vm a):=(rfl)
def mj (a b:Nat) (v:Value) (n:Nat):ak (some (false,n)) (some (bh a b v)) 1=some (vm b):=(rfl)
def ml (a b:Nat) (v:Value) (n:Nat):ak (some (false,n)) (some (bh a b v)) 2=some v:=(rfl)
def ud (f:FileL) (n:Nat):ak (some (false,n)) (some (cr f)) 0=some (vs f.data):=(rfl)
def uh (f:FileL) (n:Nat):ak (some (false,n)) (some (cr f)) 1=some (vi (f.stl:Int)):=(rfl)
def E5 (f:FileL) (x:List UInt8) (a:Bool):bM (some (a,1)) (some (cr f)) 0 (vs x)=some (cr {f with data:=x}):=lB [] [vs f.data] [vs x] [vi (f.stl:Int)] a _ 182 rfl rfl rfl rfl rfl
def Dz (f:FileL) (x:Nat) (a:Bool):bM (some (a,1)) (some (cr f)) 1 (vi (x:Int))=some (cr {f with stl:=x}):=lB [vs f.data] [vi (f.stl:Int)] [vi (x:Int)] [] a _ 182 rfl rfl rfl rfl rfl
def ob (b o:Nat):ac prog .eql 82 (vp b o) (.pointer none)=some (.bool false):=by
 simp[ac,eqX,eM,eX,underlying82,vp]
def yh (b o:Nat):ac prog .neq 82 (vp b o) (.pointer none)=some (.bool true):=by
 simp[ac,eqX,eM,eX,underlying82,vp]
def kX (b o:Nat):ac prog .eql 171 (vp b o) (.pointer none)=some (.bool false):=by
 simp[ac,eqX,eM,eX,underlying171,vp]
def tw:ac prog .eql 171 (.pointer none) (.pointer none)=some (.bool true):=by
 simp[ac,eqX,eM,eX,underlying171]
def mC (b o:Nat):ac prog .eql 178 (vp b o) (.pointer none)=some (.bool false):=by
 simp[ac,eqX,eM,eX,underlying178,vp]
def ly:ac prog .eql 178 (.pointer none) (.pointer none)=some (.bool true):=by
 simp[ac,eqX,eM,eX,underlying178]
def zrPd:bL prog 171=some (ao none):=id kR
def zrPf:bL prog 178=some (ao none):=id kR
def j0:KeyOk prog 9 vs:=KeyOk.str underlying9
def EW (G:DkG) (s:List UInt8):getG s none (nu G)=(av s).map G.d:=by
 unfold getG nu av
 rw[List.find?_cons,List.find?_cons,List.find?_cons,List.find?_nil]
 cases h1:s==jm
 ·cases h2:s==jP
  ·cases h3:s==aJ<;>rfl
  rfl
 rfl
def pw:=aN (aN (aN @bq (aN @bl @l9)) (aN @uS (aN @vv @wO))) (aN (aN @wL (aN @Iu @J4)) (aN (aN @UM @UY) (aN @ob @yh)))
def BB (b bm:Nat) (S:DiskL) (w:World) (hf: -9223372036854775808≤S.fuse∧S.fuse<9223372036854775808∧(S.fused=true→0≤S.fuse)) (ho:w.heap[b]? =some (bA bm S)):
  Rets prog 153 #[vp b 0] w (fun v D=> ∃o,D= [(b,o)]∧v=vi (aK S).2∧o=bA bm (aK S).1):=by
 refine Rets.enterM func153 rfl (rs:= [.tmp 2]) results153 ntmps153 ho ?_
 refine kf ?_
 unfold aK
 cases mM:S.fused with
 |false=>
  rw[if_neg (by simp),if_neg (by simp)]
  refine ky (aN @pw @mM) ?_
  refine⟨_,_,_,(ke @pw),rfl,trivial, ?_⟩
  exact⟨rfl,rfl⟩
 |true=>
  by_cases h0:S.fuse=0
  ·have e0: (S.fuse==0)=true:=beq_iff_eq.2 h0
   rw[if_pos ⟨rfl,h0⟩]
   refine ky (aN @pw (aN @mM @e0)) ?_
   refine⟨_,_,_,(ke @pw),rfl,trivial, ?_⟩
   exact⟨rfl,rfl⟩
  have e0: (S.fuse==0)=false:=beq_eq_false_iff_ne.2 h0
  have h1:=hf.2.2 mM
  rw[if_neg (fun h=>h0 h.2),if_pos rfl]
  refine ky (aN @pw (aN @mM @e0)) ?_
  refine⟨_,_,_,(ke @pw),rfl,trivial, ?_⟩
  exact⟨rfl,rfl⟩
def I0 (b bm:Nat) (S:DiskL) (n:Int) (w:World) (ho:w.heap[b]? =some (bA bm S)):
  Rets prog 47 #[vp b 0,vi n] w (fun v D=> ∃o,D= [(b,o)]∧v=bw []∧o=bA bm {S with fuse:=n,fused:=decide (0≤n)}):=by
 refine Rets.enterM func47 rfl (rs:= []) results47 ntmps47 ho ?_
 refine kf ?_
 refine ky @pw ?_
 refine⟨_,_,_,(ke @pw),rfl,trivial, ?_⟩
 exact⟨rfl,rfl⟩
def yz (G:DkG) (S:DiskL) (dir:List UInt8) (names:List (List UInt8)) (v:Value):Prop:=
 (cF S dir names≠0∧v= .tuple #[.pointer none,vi (cF S dir names:Nat)])∨(cF S dir names=0∧ ∃k,av dir=some k∧v= .tuple #[vp (G.d k) 0,vi 0])
def kK:=aN (aN (aN @bq @bl) (aN @l9 (aN @uS @vv))) (aN (aN @wO (aN @wL @ob)) (aN @yh (aN @kX @tw)))
def rA (w:World) (G:DkG) (S:DiskL) (dir:List UInt8) (v:Value) (names:List (List UInt8)) (hD:DkW w G S) (hv:m7 w v names) (hl:names.length<1000000) (hs: ∀s,s∈names→s.length<1099511627776):
  Rets prog 151 #[vp G.bd 0,vs dir,v] w (fun v D=>yz G S dir names v∧D= []):=by
 obtain⟨X,hX,hP⟩:=hD
 have hd:=hX _ _ hP.disk
 obtain⟨om,kw,hM⟩:=hP.dirs
 have hb:=hX _ _ kw
 refine Rets.enterV func151 rfl (rs:= [.tmp 6, .tmp 7]) results151 ntmps151 ?_
 refine kf ?_
 refine ky (aN @kK @hd) ?_
 refine Ow.mapGetG (encK:=vs) (encV:=ao) (k:=dir) (z:=none) rfl rfl underlying166 j0 zrPd rfl rfl hb hM ?_
 rw[EW]
 unfold yz cF
 cases hw:av dir with
 |none=>
  rw[if_pos (.inl rfl)]
  have iY:ao none= .pointer none:=rfl
  refine ko (aN @kK @iY) ?_
  refine ky @kK ?_
  refine⟨_,(ke @kK),trivial, ?_⟩
  exact .inl ⟨by decide,rfl⟩
 |some k=>
  have hp: ∀q:Nat,ao (some q)=vp q 0:=fun _=>rfl
  refine ko (aN @kK @hp) ?_
  refine Ow.callFV rfl call206 (fun w' aB=>Wc v names w' (hv.oldN aB trivial) hl hs) ?_
  cases Cc:names.all cN with
  |false=>
   rw[if_pos (.inr rfl)]
   refine ko @kK ?_
   refine ky @kK ?_
   refine⟨_,(ke @kK),trivial, ?_⟩
   exact .inl ⟨by decide,rfl⟩
  |true=>
   rw[if_neg (by simp)]
   cases Vw:S.off with
   |true=>
    rw[if_pos rfl]
    refine ko @kK ?_
    refine ky (aN @kK (aN @hd @Vw)) ?_
    refine⟨_,(ke @kK),trivial, ?_⟩
    exact .inl ⟨by decide,rfl⟩
   |false=>
    rw[if_neg (by simp)]
    refine ko @kK ?_
    refine ky (aN @kK (aN @hd @Vw)) ?_
    refine⟨_,(ke @kK),trivial, ?_⟩
    exact .inr ⟨rfl,k,rfl,rfl⟩
def lz {w:World} {b:Nat} {s:List UInt8} {E:TypeId} (h:w.heap[b]? =some (.cells #[vs s] E (0,0))):m7 w (vsl b 0 1 1) [s]:=
 SlV.sl (l:= [s]) h (fun k hk j hj=>by
  obtain rfl:k=0:=by simpa using hk
  obtain rfl:j=0:=by omega
  rfl) (ag _) (by simp)
def Pj {w:World} {b:Nat} {s u:List UInt8} {E:TypeId} (h:w.heap[b]? =some (.cells #[vs s,vs u] E (0,0))):m7 w (vsl b 0 2 2) [s,u]:=
 SlV.sl (l:= [s,u]) h (fun k hk j hj=>by
  obtain rfl:j=0:=by omega
  have:k=0∨k=1:=by simp at hk;omega
  rcases this with rfl|rfl<;>rfl) (ag _) (by simp)
def J0 {S:DiskL} {dir:List UInt8} {names:List (List UInt8)} (h:cF S dir names=0):av dir≠none∧names.all cN=true∧S.off=false:=by
 unfold cF at h
 split at h
 ·cases h
 split at h
 ·cases h
 rename_i h1 h2
 refine⟨fun e=>h1 (.inl e), ?_,by simpa using h2⟩
 cases e:names.all cN with
 |true=>rfl
 |false=>exact absurd (.inr e) h1
def cj (S:DiskL) (dir name:List UInt8):List UInt8×Nat:=
 if cF S dir [name]≠0 then([],cF S dir [name]) else match(av dir).bind fun k=>aL (S.dir k).seen name with
  |none=>([],6)
  |some n=>((S.files.getD n d4).data,0)
def lH {n:Nat} (h:n≠0): ((n:Int) !=0)=true:=bne_iff_ne.2 oM
def lE:=aN (aN (aN (aN @bq @bl) (aN @l9 @mq)) (aN (aN @mj @ml) (aN @ud (aN @uh @kX)))) (aN (aN (aN @tw @mC) (aN @ly @Sx.tup2_0)) (aN (aN @Sx.tup2_1 @tv) (aN @Sx.tup3_0 (aN @Sx.tup3_1 @Sx.tup3_2))))
def Ud (w:World) (G:DkG) (S:DiskL) (dir name:List UInt8) (hD:DkW w G S) (hn:name.length<1099511627776):
  Rets prog 94 #[vp G.bd 0,vs dir,vs name] w (fun v D=>v= .tuple #[vs (cj S dir name).1,vi ((cj S dir name).2:Nat)]∧D= []):=by
 have RB:=hD
 obtain⟨X,hX,hP⟩:=hD
 refine Rets.enterV func94 rfl (rs:= [.tmp 6, .tmp 7]) results94 ntmps94 ?_
 refine kf ?_
 refine ky @lE ?_
 refine Ow.buildSlice (e:=9) #[vs name] rfl rfl kR fun b1 aP aY=> ?_
 refine ko @lE ?_
 have dT:New w.heap.size [(b1,Obj.cells #[vs name] 9 (0,0))]:=⟨aY,trivial⟩
 refine Ow.callC rfl rfl call151 (fun w' aB=>Rets.toX (rA w' G S dir (vsl b1 0 1 1) [name] (RB.old aB dT) (lz (aB.has _ _ ah)) (by simp) (by simpa using hn))) (fun B2 v2 D2 cU cX d7 an=> ?_)
 obtain⟨rfl,an⟩:=an
 rw[List.append_nil]
 unfold cj
 rcases an with⟨he,rfl⟩ | ⟨he,k,hk,rfl⟩
 ·rw[if_pos he]
  have e1:=lH he
  refine ko @lE ?_
  refine ky (aN @lE @e1) ?_
  refine⟨_,(ke @lE),dT, ?_⟩
  rfl
 rw[if_neg (by rw[he];simp),hk]
 have am:=(cw hk).1
 have gh:=hX _ _ (hP.dir k am)
 obtain⟨os,ms,gH,fG,gk⟩:=hP.seen k am
 have jF:=hX _ _ gH
 have pF:=(Array.getElem?_eq_some_iff.1 gh).1
 have gR:=(Array.getElem?_eq_some_iff.1 jF).1
 have k7:aS w [(b1,Obj.cells #[vs name] 9 (0,0))] (G.d k)=some (bh (G.s k) (G.t k) (G.p k)):=by rw[lA (dT.not pF)];exact gh
 have gn:aS w [(b1,Obj.cells #[vs name] 9 (0,0))] (G.s k)=some os:=by rw[lA (dT.not gR)];exact jF
 have e1: ((0:Int) !=0)=false:=rfl
 refine ko @lE ?_
 refine ky (aN @lE (aN @e1 (aN @gh @k7))) ?_
 refine Ow.mapGetG (encK:=vs) (encV:=ao) (k:=name) (z:=none) rfl rfl underlying173 j0 zrPf rfl rfl gn fG ?_
 rw[gk.get (hP.ok.seen k am).nodup]
 show Ow _ _ _ _ _ _ _ _
 cases hf:aL (S.dir k).seen name with
 |none=>
  have jW: (some k).bind (fun k=>aL (S.dir k).seen name)=none:=hf
  rw[jW]
  have iY:ao none= .pointer none:=rfl
  refine ko (aN @lE @iY) ?_
  refine ky @lE ?_
  refine⟨_,(ke @lE),dT, ?_⟩
  rfl
 |some n=>
  have jW: (some k).bind (fun k=>aL (S.dir k).seen name)=some n:=hf
  rw[jW]
  have bC:=hP.ok.seenN k am _ (gJ hf)
  have dL:=hX _ _ (hP.file n bC)
  have AH:=(Array.getElem?_eq_some_iff.1 dL).1
  have nQ:aS w [(b1,Obj.cells #[vs name] 9 (0,0))] (G.fb.getD n 0)=some (cr (S.files.getD n d4)):=by rw[lA (dT.not AH)];exact dL
  have hp: ∀q:Nat,ao (some q)=vp q 0:=fun _=>rfl
  refine ko (aN @lE @hp) ?_
  refine ky (aN @lE (aN @dL @nQ)) ?_
  refine⟨_,(ke @lE),dT, ?_⟩
  rfl
def uDir (S:DiskL) (p:List UInt8×Option Nat):Nat:=match av p.1 with|some k=>gw S (S.dir k).seen|none=>0
def kP (S:DiskL) (l:NmL) (p:List UInt8×Option Nat):Nat:=match aL l p.1 with|some n=>(S.files.getD n d4).data.length|none=>0
def MK (S:DiskL) (G:DkG): ((nu G).map (uDir S)).sum=jL S:=by
 unfold nu jL
 simp only[List.map_cons,List.map_nil,List.sum_cons,List.sum_nil]
 show gw S (S.dir 0).seen+ (gw S (S.dir 1).seen+ (gw S (S.dir 2).seen+0))=_
 omega
def Kw (S:DiskL) {fb:List Nat} {l:NmL} {m:List (List UInt8×Option Nat)} (h:NmP fb l m) (hn: (l.map Prod.fst).Nodup): (m.map (kP S l)).sum=gw S l:=by
 rw[(h.map (kP S l)).sum_nat,List.map_map]
 unfold gw
 congr 1
 refine List.map_congr_left fun p hp=> ?_
 show kP S l (ptrN fb p)=_
 unfold kP ptrN
 rw[vE hn hp]
def xH {α:Type} (f:α→Nat) {a b m:List α} (h: (a++b).Perm m): (a.map f).sum≤ (m.map f).sum:=by
 rw[← (h.map f).sum_nat,List.map_append,List.sum_append]
 omega
def ui {α β:Type} {encK:α→Value} {encV:β→Value} {o:Obj} {bm:Nat} {om:Obj} {m dn lf:List (α×β)} (h:ItG encK encV o bm om m dn lf): (dn++lf).Perm m:=by
 obtain⟨es,clock,ds,-,-,-,-,-,-,hp⟩:=h;exact hp
def KP {G:DkG} {p:List UInt8×Option Nat} (h:p∈nu G): ∃k,k<3∧p=(gD k,some (G.d k)):=by
 unfold nu at h
 simp only[List.mem_cons,List.not_mem_nil,or_false] at h
 rcases h with rfl|rfl|rfl
 ·exact⟨0,by omega,rfl⟩
 ·exact⟨1,by omega,rfl⟩
 exact⟨2,by omega,rfl⟩
structure UsG where
 dn:List (List UInt8×Option Nat)
 lf:List (List UInt8×Option Nat)
 it:Obj
 DG:aA
def iK:=aN (aN (aN (aN @bq @bl) (aN @l9 @mq)) (aN (aN @mj @ml) (aN @ud (aN @uh @ob)))) (aN (aN (aN @kX @tw) (aN @mC (aN @ly @Sx.tup2_0))) (aN (aN @Sx.tup2_1 @tv) (aN @Sx.tup3_0 (aN @Sx.tup3_1 @Sx.tup3_2))))
def UB (w:World) (G:DkG) (S:DiskL) (hD:DkW w G S) (hb:jL S<4611686018427387904):Rets prog 152 #[vp G.bd 0] w (fun v D=>v=vi (jL S:Nat)∧D= []):=by
 obtain⟨X,hX,hP⟩:=hD
 have hd:=hX _ _ hP.disk
 obtain⟨om,kw,hM⟩:=hP.dirs
 have sR:=hX _ _ kw
 have jZ:=(Array.getElem?_eq_some_iff.1 sR).1
 have hU:=MK S G
 have old: ∀b o,w.heap[b]? =some o→ ∀Y,New w.heap.size Y→aS w Y b=some o:=fun b o hb Y hY=>by
  rw[lA (hY.not (Array.getElem?_eq_some_iff.1 hb).1)];exact hb
 refine Rets.enterV func152 rfl (rs:= [.tmp 2]) results152 ntmps152 ?_
 refine kf ?_
 refine ky (aN @iK @hd) ?_
 refine Ow.rangeMapG (encK:=vs) (encV:=ao) rfl rfl underlying166 rfl sR hM fun bi oi u9 jG hI=> ?_
 rw[List.nil_append]
 refine ko @iK ?_
 refine ky @iK ?_
 refine Cw.loopG (G:=UsG) [15,16,17,18,5,19,20,21,22,23,24,25,26,27,7,28,29,30,31,32,33,34,3] (fun g=> [(3,vi ((g.dn.map (uDir S)).sum:Nat))]) (fun g=>(bi,g.it)::g.DG) (fun g=>ItG vs ao g.it G.bm om (nu G) g.dn g.lf∧New w.heap.size g.DG) (fun g=>g.lf.length) ⟨[],nu G,oi,[]⟩ rfl rfl ?_ ?_
 ·exact⟨hI,trivial⟩
 intro g j hg
 refine kv ?_
 clear hI
 obtain⟨dn,lf,it,DG⟩:=g
 simp only at hg ⊢
 obtain⟨hI,hN⟩:=hg
 have o_: ∀x,New w.heap.size ((bi,x)::DG):=fun x=>⟨jG,hN⟩
 refine ky @iK ?_
 refine Ow.nextMapG rfl rfl rfl (er _ _ _) (old _ _ sR _ (o_ it)) hI (fun gS=> ?_) (fun p it' lf' mS iO=> ?_)
 ·subst gS
  have hp:=ui hI
  rw[List.append_nil] at hp
  rw[(hp.map (uDir S)).sum_nat,hU]
  refine ko @iK ?_
  refine ky @iK ?_
  refine⟨_,(ke @iK),o_ it, ?_⟩
  rfl
 refine kn ?_
 refine ko @iK ?_
 refine ky @iK ?_
 refine Ow.entryMapG (encK:=vs) (encV:=ao) rfl rfl rfl (mo _ _ _ _) (old _ _ sR _ (o_ it')) iO ?_
 have hp:=ui iO
 obtain⟨k,am,rfl⟩:=KP (hp.mem_iff.1 (bQ _ (dS _ ah)))
 have eU:=xH (uDir S) hp
 rw[hU,List.map_append,List.sum_append] at eU
 have kA: ([(gD k,some (G.d k))].map (uDir S)).sum=gw S (S.dir k).seen:=by
  show uDir S (gD k,some (G.d k))+0=_
  unfold uDir
  simp only[qz am,Nat.add_zero]
 rw[kA] at eU
 have Z8: ((dn++ [(gD k,some (G.d k))]).map (uDir S)).sum=(dn.map (uDir S)).sum+gw S (S.dir k).seen:=by rw[List.map_append,List.sum_append,kA]
 generalize (dn.map (uDir S)).sum=A at*
 have gh:=hX _ _ (hP.dir k am)
 obtain⟨os,ms,gH,fG,gk⟩:=hP.seen k am
 have jF:=hX _ _ gH
 have hs:=Kw S gk (hP.ok.seen k am).nodup
 have Rr:=old _ _ gh _ (o_ it')
 have sZ:=old _ _ gh _ hN
 have pJ: ∀q:Nat,ao (some q)=vp q 0:=fun _=>rfl
 refine ko (aN @iK (aN @pJ (aN @Rr @sZ))) ?_
 refine Ow.rangeMapG (encK:=vs) (encV:=ao) rfl rfl underlying173 rfl (old _ _ jF _ (o_ it')) fG fun bj oj hbj DH hJ=> ?_
 refine Ow.permL (M:=(bj,oj):: (bi,it')::DG) pM ?_
 refine ko @iK ?_
 refine ky @iK ?_
 refine Cw.loopG (G:=UsG) [24,25,26,27,7,28,29,30,31,32,33,34,3] (fun p=> [(3,vi ((A+ (p.dn.map (kP S (S.dir k).seen)).sum:Nat):Int))]) (fun p=>(bj,p.it):: (bi,it')::DG) (fun p=>ItG vs ao p.it (G.s k) os ms p.dn p.lf) (fun p=>p.lf.length) ⟨[],ms,oj,[]⟩ rfl rfl ?_ ?_
 ·exact hJ
 intro p jp hp
 refine kv ?_
 clear hJ
 obtain⟨dn2,lf2,jt,DX⟩:=p
 simp only at hp ⊢
 refine ky @iK ?_
 refine Ow.nextMapG rfl rfl rfl (er _ _ _) (old _ _ jF _ ⟨DH,o_ it'⟩) hp (fun gS=> ?_) (fun p jt' lf2' Zg ou=> ?_)
 ·subst gS
  have hq:=ui hp
  rw[List.append_nil] at hq
  rw[(hq.map (kP S (S.dir k).seen)).sum_nat,hs]
  refine Ow.permL (M:=(bi,it'):: (bj,jt)::DG) pM ?_
  refine ko @iK ?_
  refine ky @iK ?_
  exact Again.mk ⟨dn++ [(gD k,some (G.d k))],lf',it',(bj,jt)::DG⟩ (by show lf'.length<lf.length;omega) ⟨iO,DH,hN⟩ rfl (by simp only[Z8];rfl)
 refine kn ?_
 refine ko @iK ?_
 refine ky @iK ?_
 have hq:=ui ou
 have AJ:=xH (kP S (S.dir k).seen) hq
 rw[hs] at AJ
 have uI:p∈ (S.dir k).seen.map (ptrN G.fb):=gk.mem_iff.1 (hq.mem_iff.1 (bQ _ (dS _ ah)))
 obtain⟨⟨s,n⟩,nU,rfl⟩:=List.mem_map.1 uI
 have W9: ([ptrN G.fb (s,n)].map (kP S (S.dir k).seen)).sum=(S.files.getD n d4).data.length:=by
  show kP S (S.dir k).seen (s,some (G.fb.getD n 0))+0=_
  unfold kP
  simp only[vE (hP.ok.seen k am).nodup nU,Nat.add_zero]
 rw[List.map_append,List.sum_append,W9] at AJ
 have sM: ((dn2++ [ptrN G.fb (s,n)]).map (kP S (S.dir k).seen)).sum=(dn2.map (kP S (S.dir k).seen)).sum+ (S.files.getD n d4).data.length:=by rw[List.map_append,List.sum_append,W9]
 have dL:=hX _ _ (hP.file n (hP.ok.seenN k am _ nU))
 have ZL:=old _ _ dL _ (show New w.heap.size ((bj,jt'):: (bi,it')::DG) from⟨DH,o_ it'⟩)
 have A1:=old _ _ dL _ (o_ it')
 have ZM:=old _ _ dL _ hN
 generalize (dn2.map (kP S (S.dir k).seen)).sum=B at*
 refine Ow.entryMapG (encK:=vs) (encV:=ao) rfl rfl rfl (mo _ _ _ _) (old _ _ jF _ ⟨DH,o_ it'⟩) ou ?_
 unfold ptrN at ou sM ⊢
 simp only at ou sM ⊢
 generalize G.fb.getD n 0=fbn at*
 generalize S.files.getD n d4=fl at*
 refine ko (aN @iK (aN @pJ (aN @ZL (aN @A1 @ZM)))) ?_
 refine ky @iK ?_
 exact Again.mk ⟨dn2++ [(s,some fbn)],lf2',jt',DX⟩ (by show lf2'.length<lf2.length;omega) ou rfl (by simp only[sM,←Nat.add_assoc,Int.natCast_add];rfl)
def atD (S:DiskL) (dir name:List UInt8):Option Nat:=(av dir).bind fun k=>aL (S.dir k).seen name
def aF (S:DiskL) (n:Nat):FileL:=S.files.getD n d4
def en (S:DiskL) (n:Nat) (f:FileL):DiskL:={S with files:=S.files.set n f}
def bF (S:DiskL) (dir name:List UInt8):DiskL×Nat:=
 if cF S dir [name]≠0 then(S,cF S dir [name]) else match atD S dir name with
  |none=>(S,6)
  |some n=>if(aK S).2≠0 then aK S else(en (aK S).1 n ⟨(aF S n).data,(aF S n).data.length⟩,0)
def dj (S:DiskL): (aK S).1.dir=S.dir∧(aK S).1.files=S.files∧(aK S).1.max=S.max:=by
 unfold aK
 split
 ·exact⟨rfl,rfl,rfl⟩
 split
 ·exact⟨rfl,rfl,rfl⟩
 exact⟨rfl,rfl,rfl⟩
def mu {S:DiskL} (h:DkOk S):DkOk (aK S).1:=by
 obtain⟨h1,h2,h3⟩:=dj S
 refine⟨by rw[h1];exact h.seen,by rw[h1];exact h.stl,by rw[h1,h2];exact h.seenN,by rw[h1,h2];exact h.stlN,by rw[h1,h2];exact h.pendN,by rw[h2];exact h.file, ?_,by rw[h3];exact h.max⟩
 have hf:=h.fuse
 unfold aK
 split
 ·exact hf
 split
 ·rename_i h4 h5
  have:=hf.2.2 h5
  have h6:S.fuse≠0:=fun e=>h4 ⟨h5,e⟩
  exact⟨by show _≤S.fuse - 1;omega,by show S.fuse - 1<_;omega,fun _=>by show 0≤S.fuse - 1;omega⟩
 exact hf
def uo {S:DiskL} (h:DkOk S) {n:Nat} {f:FileL} (hf:f.data.length≤1048576∧f.stl≤f.data.length):DkOk (en S n f):=by
 refine⟨h.seen,h.stl,fun k hk p hp=>by show p.2< (S.files.set n f).length;rw[List.length_set];exact h.seenN k hk p hp,fun k hk p hp=>by show p.2< (S.files.set n f).length;rw[List.length_set];exact h.stlN k hk p hp,fun k hk c hc h0=>by show c.n< (S.files.set n f).length;rw[List.length_set];exact h.pendN k hk c hc h0,fun g hg=> ?_,h.fuse,h.max⟩
 rcases List.mem_or_eq_of_mem_set hg with hg|rfl
 ·exact h.file g hg
 exact hf
def tj {S:DiskL} (h:DkOk S) {n:Nat} (hn:n<S.files.length): (aF S n).data.length≤1048576∧(aF S n).stl≤ (aF S n).data.length:=by
 unfold aF
 rw[List.getD_eq_getElem?_getD,List.getElem?_eq_getElem hn]
 exact h.file _ (List.getElem_mem hn)
def ic:=aN (aN (aN (aN @bq @bl) (aN @l9 @uS)) (aN (aN @mq @mj) (aN @ml @ud))) (aN (aN (aN @uh @E5) (aN @Dz @kX)) (aN (aN @tw @mC) (aN @ly (aN @Sx.tup2_0 @Sx.tup2_1))))
def Uh (X:aA) (G:DkG) (S:DiskL) (dir name:List UInt8) (w:World) (hX: ∀p,p∈X→w.heap[p.1]? =some p.2) (hn: (keys X).Nodup) (hP:DkP X G S) (ce:name.length<1099511627776):
  Rets prog 85 #[vp G.bd 0,vs dir,vs name] w (XS w X (fun v D=>v=vi ((bF S dir name).2:Nat)∧DkP D G (bF S dir name).1)):=by
 refine Rets.enterX func85 rfl (rs:= [.tmp 6]) results85 ntmps85 hX hn ?_
 refine kf ?_
 refine ky @ic ?_
 refine Ow.buildSlice (e:=9) #[vs name] rfl rfl kR fun b1 aP aY=> ?_
 have aj:=hP.mono (X':=X++ [(b1,Obj.cells #[vs name] 9 (0,0))]) fun b o h=>cT h
 have bN:=(Ext.refl w X).app (o:=Obj.cells #[vs name] 9 (0,0)) aY
 have eK: (b1,Obj.cells #[vs name] 9 (0,0))∈X++ [(b1,Obj.cells #[vs name] 9 (0,0))]:=by simp
 generalize X++ [(b1,Obj.cells #[vs name] 9 (0,0))]=L1 at*
 refine ko @ic ?_
 refine Ow.callC rfl rfl call151 (fun w' aB=>Rets.toX (rA w' G S dir (vsl b1 0 1 1) [name] (aj.world aB) (lz (aB.has _ _ eK)) (by simp) (by simpa using ce))) (fun B2 v2 D2 cU cX d7 an=> ?_)
 obtain⟨rfl,an⟩:=an
 rw[List.append_nil]
 clear eK cU d7
 unfold bF atD
 rcases an with⟨he,rfl⟩ | ⟨he,k,hk,rfl⟩
 ·rw[if_pos he]
  have e1:=lH he
  refine ko @ic ?_
  refine ky (aN @ic @e1) ?_
  refine⟨_,(ke @ic), ?_⟩
  exact⟨bN,rfl,aj⟩
 rw[if_neg (by rw[he];simp),hk]
 have am:=(cw hk).1
 have gh:=ad (w0:=w) (aj.dir k am)
 obtain⟨os,ms,gH,fG,gk⟩:=aj.seen k am
 have jF:=ad (w0:=w) gH
 have e1: ((0:Int) !=0)=false:=rfl
 refine ko @ic ?_
 refine ky (aN @ic (aN @e1 @gh)) ?_
 refine Ow.mapGetG (encK:=vs) (encV:=ao) (k:=name) (z:=none) rfl rfl underlying173 j0 zrPf rfl rfl jF fG ?_
 rw[gk.get (hP.ok.seen k am).nodup]
 show Ow _ _ _ _ _ _ _ _
 cases hf:aL (S.dir k).seen name with
 |none=>
  have jW: (some k).bind (fun k=>aL (S.dir k).seen name)=none:=hf
  rw[jW]
  have iY:ao none= .pointer none:=rfl
  refine ko (aN @ic @iY) ?_
  refine ky @ic ?_
  refine⟨_,(ke @ic), ?_⟩
  exact⟨bN,rfl,aj⟩
 |some n=>
  have jW: (some k).bind (fun k=>aL (S.dir k).seen name)=some n:=hf
  rw[jW]
  have bC:=hP.ok.seenN k am _ (gJ hf)
  have hp: ∀q:Nat,ao (some q)=vp q 0:=fun _=>rfl
  have bG:G.bd∈keys L1:=bX aj.disk
  refine ko (aN @ic @hp) ?_
  refine ky @ic ?_
  refine Ow.callM rfl rfl call153 bG (fun w' aB=>BB G.bd G.bm S w' hP.ok.fuse (aB.has _ _ (cQ aj.disk))) ?_
  obtain⟨aP,ar,gd⟩:=dj S
  have cd:=aj.setDisk (aK S).1 aP ar (mu hP.ok)
  have bO:=bN.setB (b:=G.bd) (o:=bA G.bm (aK S).1)
  generalize setB L1 G.bd (bA G.bm (aK S).1)=L2 at*
  by_cases f4: (aK S).2=0
  ·have cJ:=cd.file n (by rw[ar];exact bC)
   have bv:=ad (w0:=w) cJ
   have e2: (((aK S).2:Int) !=0)=false:=by rw[f4];rfl
   rw[if_neg (by rw[f4];simp)]
   have A3:=tj hP.ok bC
   have nH:=cd.setFile (n:=n) (by rw[ar];exact bC) ⟨(aF S n).data,(aF S n).data.length⟩ (uo (mu hP.ok) ⟨A3.1,ag _⟩)
   have gF: (aK S).1.files.getD n d4=aF S n:=by rw[ar];rfl
   rw[gF] at cJ bv
   refine ko (aN @ic @e2) ?_
   refine ky (aN @ic (aN @bv @cJ)) ?_
   refine⟨_,(ke @ic), ?_⟩
   exact⟨bO.setB,rfl,nH⟩
  have e2:=lH f4
  rw[if_pos f4]
  refine ko (aN @ic @e2) ?_
  refine ky @ic ?_
  refine⟨_,(ke @ic), ?_⟩
  exact⟨bO,rfl,cd⟩
def jx (S:DiskL) (n:Nat) (s:List UInt8):Bool:=decide ((1048576:Int) - ((aF S n).data.length:Int)< (s.length:Int)) ||decide (S.max< (jL S:Int)) ||decide (S.max - (jL S:Int)< (s.length:Int))
def bD (S:DiskL) (dir name s:List UInt8):DiskL×Nat:=
 if cF S dir [name]≠0 then(S,cF S dir [name]) else match atD S dir name with
  |none=>(S,6)
  |some n=>if jx S n s=true then(S,8) else if(aK S).2≠0 then aK S else(en (aK S).1 n ⟨(aF S n).data++s,(aF S n).stl⟩,0)
def eA:=aN (aN (aN (aN @bq @bl) (aN @l9 @uS)) (aN (aN @mq @mj) (aN @ml @ud))) (aN (aN (aN @uh @E5) (aN @Dz @kX)) (aN (aN @tw @mC) (aN @ly (aN @Sx.tup2_0 @Sx.tup2_1))))
def U3 (X:aA) (G:DkG) (S:DiskL) (dir name s:List UInt8) (w:World) (hX: ∀p,p∈X→w.heap[p.1]? =some p.2) (hn: (keys X).Nodup) (hP:DkP X G S) (ce:name.length<1099511627776) (cA:s.length<1099511627776) (hu:jL S<4611686018427387904):
  Rets prog 84 #[vp G.bd 0,vs dir,vs name,vs s] w (XS w X (fun v D=>v=vi ((bD S dir name s).2:Nat)∧DkP D G (bD S dir name s).1)):=by
 refine Rets.enterX func84 rfl (rs:= [.tmp 8]) results84 ntmps84 hX hn ?_
 refine kf ?_
 refine ky @eA ?_
 refine Ow.buildSlice (e:=9) #[vs name] rfl rfl kR fun b1 aP aY=> ?_
 have aj:=hP.mono (X':=X++ [(b1,Obj.cells #[vs name] 9 (0,0))]) fun b o h=>cT h
 have bN:=(Ext.refl w X).app (o:=Obj.cells #[vs name] 9 (0,0)) aY
 have eK: (b1,Obj.cells #[vs name] 9 (0,0))∈X++ [(b1,Obj.cells #[vs name] 9 (0,0))]:=by simp
 generalize X++ [(b1,Obj.cells #[vs name] 9 (0,0))]=L1 at*
 refine ko @eA ?_
 refine Ow.callC rfl rfl call151 (fun w' aB=>Rets.toX (rA w' G S dir (vsl b1 0 1 1) [name] (aj.world aB) (lz (aB.has _ _ eK)) (by simp) (by simpa using ce))) (fun B2 v2 D2 cU cX d7 an=> ?_)
 obtain⟨rfl,an⟩:=an
 rw[List.append_nil]
 clear eK cU d7
 unfold bD atD
 rcases an with⟨he,rfl⟩ | ⟨he,k,hk,rfl⟩
 ·rw[if_pos he]
  have e1:=lH he
  refine ko @eA ?_
  refine ky (aN @eA @e1) ?_
  refine⟨_,(ke @eA), ?_⟩
  exact⟨bN,rfl,aj⟩
 rw[if_neg (by rw[he];simp),hk]
 have am:=(cw hk).1
 have gh:=ad (w0:=w) (aj.dir k am)
 obtain⟨os,ms,gH,fG,gk⟩:=aj.seen k am
 have jF:=ad (w0:=w) gH
 have e1: ((0:Int) !=0)=false:=rfl
 refine ko @eA ?_
 refine ky (aN @eA (aN @e1 @gh)) ?_
 refine Ow.mapGetG (encK:=vs) (encV:=ao) (k:=name) (z:=none) rfl rfl underlying173 j0 zrPf rfl rfl jF fG ?_
 rw[gk.get (hP.ok.seen k am).nodup]
 show Ow _ _ _ _ _ _ _ _
 cases hf:aL (S.dir k).seen name with
 |none=>
  have jW: (some k).bind (fun k=>aL (S.dir k).seen name)=none:=hf
  rw[jW]
  have iY:ao none= .pointer none:=rfl
  refine ko (aN @eA @iY) ?_
  refine ky @eA ?_
  refine⟨_,(ke @eA), ?_⟩
  exact⟨bN,rfl,aj⟩
 |some n=>
  have jW: (some k).bind (fun k=>aL (S.dir k).seen name)=some n:=hf
  rw[jW]
  have bC:n<S.files.length:=hP.ok.seenN k am _ (gJ hf)
  have A3:=tj hP.ok bC
  have hp: ∀q:Nat,ao (some q)=vp q 0:=fun _=>rfl
  have bG:G.bd∈keys L1:=bX aj.disk
  have C':=ad (w0:=w) (aj.file n bC)
  have qX:=ad (w0:=w) aj.disk
  have Ag:aS w L1 (G.fb.getD n 0)=some (cr (aF S n)):=C'
  have AR:=hP.ok.max
  refine ko (aN @eA @hp) ?_
  refine ky @eA ?_
  refine Cw.regionS [G.fb.getD n 0,G.bd] [0,1,2,3,4,5,6,7,8,9,10,12,13,14,15,11,16,17,18,19,20,21,22,23,25,24,26,27,28,29,30] [] kR kR kR ?_
  simp only[cR, ↓cS, ↓bz, ↓cG, ↓cH,b_]
  cases h1:decide ((1048576:Int) - ((aF S n).data.length:Int)< (s.length:Int)) with
  |true=>
   refine kq (aN @eA (aN @Ag (aN @qX @h1))) ?_
   have hF:jx S n s=true:=by unfold jx;rw[h1];simp
   rw[if_pos hF]
   try with_reducible refine Ow.nil ?_
   refine ky @eA ?_
   refine⟨_,(ke @eA), ?_⟩
   exact⟨bN,rfl,aj⟩
  |false=>
   refine kq (aN @eA (aN @Ag (aN @qX @h1))) ?_
   refine Ow.soft rfl rfl rfl ?_
   refine Ow.callFV rfl call152 (fun w' aB=>UB w' G S (aj.world aB) hu) ?_
   with_reducible refine Ow.nil ?_
   refine⟨by intro b hb;simp only[List.mem_cons,List.not_mem_nil,or_false] at hb;(try subst hb);rfl, ?_⟩
   cases h2:decide (S.max< (jL S:Int)) with
   |true=>
    refine kq (aN @eA (aN @qX @h2)) ?_
    have hF:jx S n s=true:=by unfold jx;rw[h2];simp
    rw[if_pos hF]
    try with_reducible refine Ow.nil ?_
    refine ky @eA ?_
    refine⟨_,(ke @eA), ?_⟩
    exact⟨bN,rfl,aj⟩
   |false=>
    have p_:=of_decide_eq_false h2
    refine kq (aN @eA (aN @qX @h2)) ?_
    refine Ow.soft rfl rfl rfl ?_
    refine Ow.callFV rfl call152 (fun w' aB=>UB w' G S (aj.world aB) hu) ?_
    with_reducible refine Ow.nil ?_
    refine⟨by intro b hb;simp only[List.mem_cons,List.not_mem_nil,or_false] at hb;(try subst hb);rfl, ?_⟩
    cases h3:decide (S.max - (jL S:Int)< (s.length:Int)) with
    |true=>
     refine kq (aN @eA (aN @qX @h3)) ?_
     have hF:jx S n s=true:=by unfold jx;rw[h3];simp
     rw[if_pos hF]
     try with_reducible refine Ow.nil ?_
     refine ky @eA ?_
     refine⟨_,(ke @eA), ?_⟩
     exact⟨bN,rfl,aj⟩
    |false=>
     have hF:jx S n s=false:=by unfold jx;rw[h1,h2,h3];rfl
     rw[if_neg (by rw[hF];simp)]
     have nE:=of_decide_eq_false h1
     refine kq (aN @eA (aN @qX @h3)) ?_
     try with_reducible refine Ow.nil ?_
     refine ky @eA ?_
     refine Ow.callM rfl rfl call153 bG (fun w' aB=>BB G.bd G.bm S w' hP.ok.fuse (aB.has _ _ (cQ aj.disk))) ?_
     obtain⟨aP,ar,gd⟩:=dj S
     have cd:=aj.setDisk (aK S).1 aP ar (mu hP.ok)
     have bO:=bN.setB (b:=G.bd) (o:=bA G.bm (aK S).1)
     generalize setB L1 G.bd (bA G.bm (aK S).1)=L2 at*
     by_cases f4: (aK S).2=0
     ·have cJ:=cd.file n (by rw[ar];exact bC)
      have bv:=ad (w0:=w) cJ
      have e2: (((aK S).2:Int) !=0)=false:=by rw[f4];rfl
      rw[if_neg (by rw[f4];simp)]
      have nH:=cd.setFile (n:=n) (by rw[ar];exact bC) ⟨(aF S n).data++s,(aF S n).stl⟩ (uo (mu hP.ok) ⟨by simp only[List.length_append];omega,by simp only[List.length_append];omega⟩)
      have gF: (aK S).1.files.getD n d4=aF S n:=by rw[ar];rfl
      rw[gF] at cJ bv
      refine ko (aN @eA @e2) ?_
      refine ky (aN @eA (aN @bv @cJ)) ?_
      refine⟨_,(ke @eA), ?_⟩
      exact⟨bO.setB,rfl,nH⟩
     have e2:=lH f4
     rw[if_pos f4]
     refine ko (aN @eA @e2) ?_
     refine ky @eA ?_
     refine⟨_,(ke @eA), ?_⟩
     exact⟨bO,rfl,cd⟩
structure Only (X D:aA) (bs:Nat) (o:Obj):Prop where
 keys:Sx.keys D=Sx.keys X
 at_:Sx.look D bs=some o
 rest: ∀b,b≠bs→Sx.look D b=Sx.look X b
def Only.set {X:aA} {bs:Nat} {o o':Obj} (h:Sx.look X bs=some o):Only X (setB X bs o') bs o':=⟨ni _ _ _,iI h,fun _ hb=>du (Ne.symm hb)⟩
theorem Only.trans {X D D':aA} {bs:Nat} {o o':Obj} (h:Only X D bs o) (h':Only D D' bs o'):Only X D' bs o':=⟨h'.keys.trans h.keys,h'.at_,fun b hb=>(h'.rest b hb).trans (h.rest b hb)⟩
def vX (s:List UInt8) (n:Nat):ak (some (false,n)) (some (cv s)) 0=some (vs s):=(rfl)
def M2 (b:Nat) (n:Nat):ak (some (false,n)) (some (g_ b)) 0=some (vp b 0):=(rfl)
def lj:=aN (aN @bq @bl) (aN @vX @M2)
def Xy (X:aA) (b1 b2 bs fbn:Nat) (a:List UInt8) (o:Obj) (m:List (List UInt8×Option Nat)) (w:World) (hX: ∀p,p∈X→w.heap[p.1]? =some p.2) (hn: (keys X).Nodup)
  (h1:Sx.look X b1=some (g_ fbn)) (h2:Sx.look X b2=some (cv a)) (hs:Sx.look X bs=some o) (hm:dg vs ao o m):
  Rets prog 324 #[vm bs,vp b1 0,vp b2 0] w (XS w X (fun v D=>v=bw []∧ ∃o',Only X D bs o'∧dg vs ao o' (updG a (some fbn) m))):=by
 have r1:=ad (w0:=w) h1
 have r2:=ad (w0:=w) h2
 refine Rets.enterX func324 rfl (rs:= []) results324 ntmps324 hX hn ?_
 refine kf ?_
 refine ky (aN @lj (aN @r1 @r2)) ?_
 refine Ow.mapUpdateG (encK:=vs) (encV:=ao) (k:=a) (v:=some fbn) rfl rfl underlying173 j0 rfl rfl rfl hs hm (fun o' eJ=> ?_)
 refine ko @lj ?_
 refine⟨_,(ke @lj), ?_⟩
 exact⟨(Ext.refl w X).setB,rfl,o',Only.set hs,eJ⟩
def XO (X:aA) (b1 bs:Nat) (a:List UInt8) (o:Obj) (m:List (List UInt8×Option Nat)) (w:World) (hX: ∀p,p∈X→w.heap[p.1]? =some p.2) (hn: (keys X).Nodup)
  (h1:Sx.look X b1=some (cv a)) (hs:Sx.look X bs=some o) (hm:dg vs ao o m):
  Rets prog 309 #[vm bs,vp b1 0] w (XS w X (fun v D=>v=bw []∧ ∃o',Only X D bs o'∧dg vs ao o' (delG a m))):=by
 have r1:=ad (w0:=w) h1
 refine Rets.enterX func309 rfl (rs:= []) results309 ntmps309 hX hn ?_
 refine kf ?_
 refine ky (aN @lj @r1) ?_
 refine Ow.mapDeleteG (encK:=vs) (encV:=ao) (k:=a) rfl rfl underlying173 j0 rfl rfl hs hm (fun o' eJ=> ?_)
 refine ko @lj ?_
 refine⟨_,(ke @lj), ?_⟩
 exact⟨(Ext.refl w X).setB,rfl,o',Only.set hs,eJ⟩
def GW (X:aA) (b1 b2 bs:Nat) (a b:List UInt8) (o:Obj) (m:List (List UInt8×Option Nat)) (w:World) (hX: ∀p,p∈X→w.heap[p.1]? =some p.2) (hn: (keys X).Nodup)
  (h1:Sx.look X b1=some (cv a)) (h2:Sx.look X b2=some (cv b)) (hs:Sx.look X bs=some o) (hm:dg vs ao o m):
  Rets prog 320 #[vm bs,vp b1 0,vp b2 0] w (XS w X (fun v D=>v=bw []∧ ∃o',Only X D bs o'∧dg vs ao o' (delG a (updG b (getG a none m) m)))):=by
 have r1:=ad (w0:=w) h1
 have r2:=ad (w0:=w) h2
 refine Rets.enterX func320 rfl (rs:= []) results320 ntmps320 hX hn ?_
 refine kf ?_
 refine ky (aN @lj (aN @r1 @r2)) ?_
 refine Ow.mapGetG (encK:=vs) (encV:=ao) (k:=a) (z:=none) rfl rfl underlying173 j0 zrPf rfl rfl (ad hs) hm ?_
 refine ko @lj ?_
 refine Ow.mapUpdateG (encK:=vs) (encV:=ao) (k:=b) (v:=getG a none m) rfl rfl underlying173 j0 rfl rfl rfl hs hm (fun o1 eK=> ?_)
 have sx:Only X (setB X bs o1) bs o1:=Only.set hs
 have aQ:b1≠bs:=by
  rintro rfl
  rw[hs] at h1;cases h1
  obtain⟨es,c,h,-⟩:=hm;cases h
 have r3:=ad (w0:=w) ((sx.rest b1 aQ).trans h1)
 have hE:=(Ext.refl w X).setB (b:=bs) (o:=o1)
 generalize setB X bs o1=L1 at*
 refine ko @lj ?_
 refine ky (aN @lj @r3) ?_
 refine Ow.mapDeleteG (encK:=vs) (encV:=ao) (k:=a) rfl rfl underlying173 j0 rfl rfl sx.at_ eK (fun o' eJ=> ?_)
 refine ko @lj ?_
 refine⟨_,(ke @lj), ?_⟩
 exact⟨hE.setB,rfl,o',sx.trans (Only.set sx.at_),eJ⟩
def okC (l:NmL) (c:CallL):Prop:=c.kind=1→aL l c.a≠none∧c.a≠c.b
def NmP.ren {fb:List Nat} {l:NmL} {m:List (List UInt8×Option Nat)} (h:NmP fb l m) (hs:SrtN l) {a b:List UInt8} {n:Nat} (i7:a≠b):NmP fb (fm (eD l a) (b,n)) (delG a (updG b (some (fb.getD n 0)) m)):=by
 have h1:=h.put hs.nodup b n
 have h2:=h1.wipe (Bw (b,n) hs).nodup a
 refine h2.trans (List.Perm.map _ ?_)
 unfold fm
 refine(List.Perm.filter _ (pv (b,n) (eD l b))).trans ?_
 refine List.Perm.trans ?_ (pv (b,n) (eD (eD l a) b)).symm
 have e: (a==b)=false:=beq_eq_false_iff_ne.2 i7
 rw[List.filter_cons]
 simp only[e,Bool.not_false, ↓reduceIte]
 unfold eD
 rw[List.filter_filter,List.filter_filter]
 refine List.Perm.cons _ (List.Perm.of_eq (List.filter_congr fun p _=>Bool.and_comm _ _))
def Bg {l:NmL} (c:CallL) (h:SrtN l):SrtN (cO l c):=by
 unfold cO
 split
 ·exact Bw _ h
 ·exact Bw _ (BU _ h)
 exact BU _ h
def Df {X:aA} {fb:List Nat} {v:Value} {c:CallL} {bs:Nat} {l:NmL} (hv:FnP X fb v c) (hN:NmM X fb bs l) (hs:SrtN l) (cK:okC l c):
  ∃k cap,v= .func (.func k) #[] cap∧(∀a w,(callFunc k a).run prog w= .ok (.enter k a) w)∧ ∀w,(∀p,p∈X→w.heap[p.1]? =some p.2)→(keys X).Nodup→Rets prog k (#[vm bs]++cap) w (XS w X (fun r D=>r=bw []∧ ∃o',Only X D bs o'∧NmM D fb bs (cO l c))):=by
 obtain⟨o,m,ho,hm,hp⟩:=hN
 unfold FnP at hv
 split at hv
 ·rename_i hk
  obtain⟨b1,b2,rfl,h1,h2⟩:=hv
  refine⟨_,_,rfl,call324,fun w hX hn=>Rets.mono (Xy X b1 b2 bs _ c.a o m w hX hn h1 h2 ho hm) ?_⟩
  rintro r D ⟨hE,hr,o',hO,eJ⟩
  refine⟨hE,hr,o',hO,o',_,hO.at_,eJ, ?_⟩
  unfold cO
  rw[hk]
  exact hp.put hs.nodup c.a c.n
 ·rename_i hk
  obtain⟨b1,b2,rfl,h1,h2⟩:=hv
  obtain⟨hf,i7⟩:=cK hk
  refine⟨_,_,rfl,call320,fun w hX hn=>Rets.mono (GW X b1 b2 bs c.a c.b o m w hX hn h1 h2 ho hm) ?_⟩
  rintro r D ⟨hE,hr,o',hO,eJ⟩
  refine⟨hE,hr,o',hO,o',_,hO.at_,eJ, ?_⟩
  unfold cO
  rw[hk,hp.get hs.nodup]
  cases e:aL l c.a with
  |none=>exact absurd e hf
  |some n=>exact hp.ren hs i7
 rename_i h0 nE
 obtain⟨b1,rfl,h1⟩:=hv
 refine⟨_,_,rfl,call309,fun w hX hn=>Rets.mono (XO X b1 bs c.a o m w hX hn h1 ho hm) ?_⟩
 rintro r D ⟨hE,hr,o',hO,eJ⟩
 refine⟨hE,hr,o',hO,o',_,hO.at_,eJ, ?_⟩
 have e:cO l c=eD l c.a:=by
  unfold cO
  split
  ·rename_i e;exact absurd e h0
  ·rename_i e;exact absurd e nE
  rfl
 rw[e]
 exact hp.wipe hs.nodup c.a
def tn {α:Type} {a b:List α} (z:α) (k:Nat) (h:k<a.length): (a++b).getD k z=a.getD k z:=by
 rw[List.getD_eq_getElem?_getD,List.getElem?_append_left h,←List.getD_eq_getElem?_getD]
def tp {α:Type} {a:List α} (z x:α) {k:Nat} (h:a.length=k): (a++ [x]).getD k z=x:=by
 subst h
 rw[List.getD_eq_getElem?_getD,List.getElem?_append_right (ag _),Nat.sub_self];rfl
def setP (G:DkG) (k:Nat) (v:Value):DkG:={G with p:=fun j=>if j=k then v else G.p j}
def EK {l:NmL} {c:CallL} {n:Nat} (hl: ∀p,p∈l→p.2<n) (cK:okC l c) (hc:c.kind=0→c.n<n): ∀p,p∈cO l c→p.2<n:=by
 intro p hp
 have hput: ∀ {l:NmL} {x:List UInt8×Nat},(∀p,p∈l→p.2<n)→x.2<n→p∈fm l x→p.2<n:=by
  intro l x h1 h2 h3
  rcases List.mem_cons.1 ((pv x (eD l x.1)).mem_iff.1 h3) with rfl|h3
  ·exact h2
  exact h1 _ ((List.mem_filter.1 h3).1)
 unfold cO at hp
 split at hp
 ·rename_i hk;exact hput hl (hc hk) hp
 ·rename_i hk
  refine hput (fun q hq=>hl q ((List.mem_filter.1 hq).1)) ?_ hp
  cases e:aL l c.a with
  |none=>exact absurd e (cK hk).1
  |some m=>
   have:=hl _ (gJ e)
   exact this
 exact hl _ ((List.mem_filter.1 hp).1)
def BM {S:DiskL} (h:DkOk S) {k:Nat} (d:DirL) (h1:SrtN d.seen) (h2:SrtN d.stl) (h3: ∀p,p∈d.seen→p.2<S.files.length) (h4: ∀p,p∈d.stl→p.2<S.files.length) (h5: ∀c,c∈d.pend→c.kind=0→c.n<S.files.length):DkOk (eB S k d):=by
 refine⟨fun j hj=> ?_,fun j hj=> ?_,fun j hj=> ?_,fun j hj=> ?_,fun j hj=> ?_,h.file,h.fuse,h.max⟩<;>unfold eB<;>simp only<;>by_cases e:j=k
 ·rw[if_pos e];exact h1
 ·rw[if_neg e];exact h.seen j hj
 ·rw[if_pos e];exact h2
 ·rw[if_neg e];exact h.stl j hj
 ·rw[if_pos e];exact h3
 ·rw[if_neg e];exact h.seenN j hj
 ·rw[if_pos e];exact h4
 ·rw[if_neg e];exact h.stlN j hj
 ·rw[if_pos e];exact h5
 rw[if_neg e];exact h.pendN j hj
def nv {G:DkG} (h: [G.s 0,G.s 1,G.s 2,G.t 0,G.t 1,G.t 2].Nodup) {i j:Nat} (hi:i<3) (hj:j<3): (i≠j→G.s i≠G.s j)∧(i≠j→G.t i≠G.t j)∧G.s i≠G.t j:=by
 simp only[List.nodup_cons,List.mem_cons,List.not_mem_nil,not_or,or_false,List.nodup_nil,and_true,not_false_eq_true] at h
 have a:i=0∨i=1∨i=2:=by omega
 have b:j=0∨j=1∨j=2:=by omega
 rcases a with rfl|rfl|rfl<;>rcases b with rfl|rfl|rfl<;>refine⟨fun aQ=> ?_,fun aQ=> ?_, ?_⟩<;>first|omega| (exact absurd rfl aQ)
def yr {G:DkG} (h: [G.d 0,G.d 1,G.d 2].Nodup) {i j:Nat} (hi:i<3) (hj:j<3):i≠j→G.d i≠G.d j:=by
 simp only[List.nodup_cons,List.mem_cons,List.not_mem_nil,not_or,or_false,List.nodup_nil,and_true,not_false_eq_true] at h
 have a:i=0∨i=1∨i=2:=by omega
 have b:j=0∨j=1∨j=2:=by omega
 rcases a with rfl|rfl|rfl<;>rcases b with rfl|rfl|rfl<;>intro aQ<;>first|omega| (exact absurd rfl aQ)
structure DkP.Turn (X L:aA) (G:DkG) (k:Nat):Prop where
 keep: ∀b o,Sx.look X b=some o→b≠G.s k→b≠G.d k→slB (G.p k)≠some b→Sx.look L b=some o
def DkP.turn {X L:aA} {G:DkG} {S:DiskL} (h:DkP X G S) {k:Nat} (hk:k<3) {c:CallL} {v v2:Value} {vals:List Value} (hT:DkP.Turn X L G k)
  (hs:NmM L G.fb (G.s k) (cO (S.dir k).seen c)) (hd:Sx.look L (G.d k)=some (bh (G.s k) (G.t k) v2)) (hv:vals.length=(S.dir k).pend.length)
  (hF: ∀i,i<vals.length→FnP X G.fb (vals.getD i undef) ((S.dir k).pend.getD i gr)) (Yq:Gr X 176 1 (G.p k) vals.length vals)
  (i4:Gr L 176 1 v2 (vals.length+1) (vals++ [v])) (Yo:FnP X G.fb v c) (cA:slB v2=slB (G.p k)∨ ∃b,slB v2=some b∧b∉keys X) (cK:okC (S.dir k).seen c) (sW:c.kind=0→c.n<S.files.length):
  DkP L (setP G k v2) (eB S k ⟨cO (S.dir k).seen c,(S.dir k).stl,(S.dir k).pend++ [c]⟩):=by
 have t6: ∀b o,Sx.look X b=some o→tyO o≠some 176→slB (G.p k)≠some b:=by
  intro b o hb ht e
  obtain⟨arr,ha⟩:=kS Yq e
  rw[hb] at ha;cases ha;exact ht rfl
 obtain⟨osk,msk,sy,sq,-⟩:=h.seen k hk
 have cg: ∀b o,Sx.look X b=some o→tyO o≠none→b≠G.s k:=by
  rintro b o hb ht rfl
  rw[sy] at hb;cases hb;exact ht (iD sq)
 have ay: ∀b o,Sx.look X b=some o→tyO o≠some 175→b≠G.d k:=by
  rintro b o hb ht rfl
  rw[h.dir k hk] at hb;cases hb;exact ht rfl
 have K: ∀b o,Sx.look X b=some o→tyO o≠none→tyO o≠some 175→tyO o≠some 176→Sx.look L b=some o:=fun b o hb h1 h2 h3=>hT.keep b o hb (cg b o hb h1) (ay b o hb h2) (t6 b o hb h3)
 have KM: ∀b o,Sx.look X b=some o→tyO o=none→b≠G.s k→Sx.look L b=some o:=fun b o hb h1 h2=>hT.keep b o hb h2 (ay b o hb (by rw[h1];intro e;cases e)) (t6 b o hb (by rw[h1];intro e;cases e))
 have KF: ∀ {w c},FnP X G.fb w c→FnP L G.fb w c:=fun hw=>hw.keep fun b o hb hx=>K b o hb (by rcases hx with⟨s,rfl⟩ | ⟨a,rfl⟩<;>simp[tyO,cv,g_]) (by rcases hx with⟨s,rfl⟩ | ⟨a,rfl⟩<;>simp[tyO,cv,g_]) (by rcases hx with⟨s,rfl⟩ | ⟨a,rfl⟩<;>simp[tyO,cv,g_])
 refine⟨?_, ?_, ?_, ?_, ?_, ?_, ?_,h.len,h.nodf,h.nodm,h.nodd,h.nodb, ?_, ?_⟩
 ·exact K _ _ h.disk (by simp[tyO,bA]) (by simp[tyO,bA]) (by simp[tyO,bA])
 ·obtain⟨o,h1,h2⟩:=h.dirs
  exact⟨o,KM _ _ h1 (iD h2) (h.nodb k hk).1,h2⟩
 ·intro j hj
  by_cases e:j=k
  ·subst e
   show Sx.look L (G.d j)=some (bh (G.s j) (G.t j) (if j=j then v2 else G.p j))
   rw[if_pos rfl];exact hd
  show Sx.look L (G.d j)=some (bh (G.s j) (G.t j) (if j=k then v2 else G.p j))
  rw[if_neg e]
  exact hT.keep _ _ (h.dir j hj) (cg _ _ (h.dir j hj) (by simp[tyO,bh])) (yr h.nodd hj hk e) (t6 _ _ (h.dir j hj) (by simp[tyO,bh]))
 ·intro j hj
  show NmM L G.fb (G.s j) (if j=k then _ else S.dir j).seen
  by_cases e:j=k
  ·subst e;rw[if_pos rfl];exact hs
  rw[if_neg e]
  obtain⟨o,m,h1,h2,h3⟩:=h.seen j hj
  exact⟨o,m,KM _ _ h1 (iD h2) ((nv h.nodm hj hk).1 e),h2,h3⟩
 ·intro j hj
  show NmM L G.fb (G.t j) (if j=k then _ else S.dir j).stl
  have e2: (if j=k then⟨cO (S.dir k).seen c,(S.dir k).stl,(S.dir k).pend++ [c]⟩ else S.dir j:DirL).stl=(S.dir j).stl:=by
   by_cases e:j=k
   ·subst e;rw[if_pos rfl]
   rw[if_neg e]
  rw[e2]
  obtain⟨o,m,h1,h2,h3⟩:=h.stl j hj
  exact⟨o,m,KM _ _ h1 (iD h2) (Ne.symm (nv h.nodm hk hj).2.2),h2,h3⟩
 ·intro j hj
  by_cases e:j=k
  ·subst e
   refine⟨vals++ [v], ?_, ?_, ?_⟩
   ·show(vals++ [v]).length=(if j=j then _ else S.dir j:DirL).pend.length
    rw[if_pos rfl,List.length_append,List.length_append,hv];rfl
   ·show Gr L _ 1 (if j=j then v2 else G.p j) (vals++ [v]).length (vals++ [v])
    rw[if_pos rfl,List.length_append];exact i4
   intro i hi
   show FnP L G.fb ((vals++ [v]).getD i undef) ((if j=j then _ else S.dir j:DirL).pend.getD i gr)
   rw[if_pos rfl]
   rw[List.length_append,List.length_singleton] at hi
   by_cases ei:i=vals.length
   ·subst ei
    rw[tp _ _ rfl,tp _ _ hv.symm]
    exact KF Yo
   rw[tn _ _ oM,tn _ _ oM]
   exact KF (hF i oM)
  obtain⟨vj,h1,h2,h3⟩:=h.pend j hj
  refine⟨vj, ?_, ?_, ?_⟩
  ·show vj.length=(if j=k then _ else S.dir j:DirL).pend.length
   rw[if_neg e];exact h1
  ·show Gr L _ 1 (if j=k then v2 else G.p j) vj.length vj
   rw[if_neg e]
   refine h2.keep fun b o hb ho=> ?_
   obtain⟨arr,ha⟩:=kS h2 hb
   rw[ho] at ha;cases ha
   exact hT.keep _ _ ho (cg _ _ ho (by simp[tyO])) (ay _ _ ho (by simp[tyO])) (h.nodp j k hj hk e b hb)
  intro i hi
  show FnP L G.fb (vj.getD i undef) ((if j=k then _ else S.dir j:DirL).pend.getD i gr)
  rw[if_neg e]
  exact KF (h3 i hi)
 ·intro n hn
  exact K _ _ (h.file n hn) (by simp[tyO,cr]) (by simp[tyO,cr]) (by simp[tyO,cr])
 ·intro i j hi hj kr b hb
  have key: ∀j,j<3→ ∀b,slB (G.p j)=some b→b∈keys X:=fun j hj b hb=>by
   obtain⟨vj,-,h2,-⟩:=h.pend j hj
   obtain⟨arr,ha⟩:=kS h2 hb
   exact bX ha
  show slB (if j=k then v2 else G.p j)≠some b
  have dI:slB (if i=k then v2 else G.p i)=some b:=hb
  by_cases ei:i=k
  ·subst ei
   rw[if_pos rfl] at dI
   rw[if_neg (Ne.symm kr)]
   rcases cA with e| ⟨b',e,ar⟩
   ·exact h.nodp i j hi hj kr b (by rw[←e];exact dI)
   rw[e] at dI;cases dI
   exact fun h'=>ar (key j hj _ h')
  rw[if_neg ei] at dI
  by_cases ej:j=k
  ·subst ej
   rw[if_pos rfl]
   rcases cA with e| ⟨b',e,ar⟩
   ·rw[e];exact h.nodp i j hi hj kr b dI
   rw[e]
   intro h';cases h'
   exact ar (key i hi _ dI)
  rw[if_neg ej];exact h.nodp i j hi hj kr b dI
 exact BM h.ok _ (Bg c (h.ok.seen k hk)) (h.ok.stl k hk) (EK (h.ok.seenN k hk) cK sW) (h.ok.stlN k hk) (fun d hd h0=>by
  rcases List.mem_append.1 hd with hd|hd
  ·exact h.ok.pendN k hk d hd h0
  rw[List.mem_singleton.1 hd] at h0 ⊢;exact sW h0)
def cL (S:DiskL) (k:Nat) (c:CallL):DiskL:=eB S k ⟨cO (S.dir k).seen c,(S.dir k).stl,(S.dir k).pend++ [c]⟩
def Dv (a b:Nat) (v q:Value) (x:Bool) (hq:Value.oneCell' q=true∧q.cells= #[q]):bM (some (x,1)) (some (bh a b v)) 2 q=some (bh a b q):=lB [vm a,vm b] [v] [q] [] x _ 175 rfl rfl hq.2 rfl (by simp[hq.1])
def lk:=aN (aN @bq (aN @bl @l9)) (aN (aN @uS @mq) (aN @mj @ml))
def Te (X:aA) (G:DkG) (S:DiskL) (k:Nat) (c:CallL) (v:Value) (w:World) (hX: ∀p,p∈X→w.heap[p.1]? =some p.2) (hn: (keys X).Nodup) (hP:DkP X G S) (hk:k<3) (hv:FnP X G.fb v c) (cK:okC (S.dir k).seen c) (sW:c.kind=0→c.n<S.files.length) (fc: (S.dir k).pend.length<1000000):
  Rets prog 279 #[vp G.bd 0,vp (G.d k) 0,v] w (XS w X (fun r D=>r=vi ((aK S).2:Nat)∧if(aK S).2≠0 then D=setB X G.bd (bA G.bm (aK S).1) else∃v2,DkP D (setP G k v2) (cL (aK S).1 k c))):=by
 obtain⟨fk,cap,rfl,-,-⟩:=Df hv (hP.seen k hk) (hP.ok.seen k hk) cK
 refine Rets.enterX func279 rfl (rs:= [.tmp 6]) results279 ntmps279 hX hn ?_
 refine kf ?_
 refine ky @lk ?_
 refine Ow.callM rfl rfl call153 (bX hP.disk) (fun w' aB=>BB G.bd G.bm S w' hP.ok.fuse (aB.has _ _ (cQ hP.disk))) ?_
 obtain⟨aP,ar,gd⟩:=dj S
 have aj:=hP.setDisk (aK S).1 aP ar (mu hP.ok)
 have bN:=(Ext.refl w X).setB (b:=G.bd) (o:=bA G.bm (aK S).1)
 have uO:FnP (setB X G.bd (bA G.bm (aK S).1)) G.fb (.func (.func fk) #[] cap) c:=hv.keep fun b o ho hx=>fU hP.disk ho (by rcases hx with⟨s,rfl⟩ | ⟨a,rfl⟩<;>simp[tyO,bA,cv,g_])
 generalize hL1:setB X G.bd (bA G.bm (aK S).1)=L1 at*
 by_cases f4: (aK S).2=0
 ·have e2: (((aK S).2:Int) !=0)=false:=by rw[f4];rfl
  have qZ:SrtN ((aK S).1.dir k).seen:=aj.ok.seen k hk
  have pI:okC ((aK S).1.dir k).seen c:=by rw[aP];exact cK
  obtain⟨fk',cap',he,dK,mK⟩:=Df uO (aj.seen k hk) qZ pI
  cases he
  have gh:=ad (w0:=w) (aj.dir k hk)
  obtain⟨os,ms,gH,fG,-⟩:=aj.seen k hk
  have Cm:G.d k≠G.s k:=by
   intro e
   have h1:=aj.dir k hk
   rw[e,gH] at h1;cases h1
   obtain⟨es,cl,h,-⟩:=fG;cases h
  obtain⟨vals,qh,i4,hF⟩:=aj.pend k hk
  refine ko (aN @lk @e2) ?_
  refine ky (aN @lk @gh) ?_
  refine Ow.callFnXC (b:=vm (G.s k)) (cap:=cap) (ars:= #[vm (G.s k)]++cap) rfl (X:=L1) (Y:= []) (List.append_nil _).symm rfl rfl rfl rfl dK (fun w' aB ab aX=>mK w' ab aX) (fun r D hC hS=> ?_)
  rw[List.append_nil]
  obtain⟨rfl,o',hO,d7⟩:=hS
  have bO:=bN.came0 hC
  have iv:Sx.look D (G.d k)=some (bh (G.s k) (G.t k) (G.p k)):=(hO.rest _ Cm).trans (aj.dir k hk)
  have sZ:=ad (w0:=w) iv
  have VS:Gr D 176 1 (G.p k) vals.length vals:=i4.keep fun b o hb ho=>by
   obtain⟨arr,ha⟩:=kS i4 hb
   rw[ho] at ha;cases ha
   refine(hO.rest b ?_).trans ho
   rintro rfl
   rw[gH] at ho;cases ho
   obtain⟨es,cl,h,-⟩:=fG;cases h
  refine ko @lk ?_
  refine ky (aN @lk @sZ) ?_
  refine Ow.buildSlice (e:=176) #[.func (.func fk) #[] cap] rfl rfl kR fun ba hba hwa=> ?_
  refine ko @lk ?_
  refine Ow.appendG (e:=176) (k:=1) (new:= [.func (.func fk) #[] cap]) (G.p k) rfl rfl rfl underlying172 (id kR:aM prog 176=some (false,1)) kR (id kR:bL prog 176=some .nilFunc) rfl underlying172 (by intro k h;cases h) VS.app (fun w' aB=>AppX.one1 (aB.has _ _ (dS _ ah)) rfl rfl) rfl (by rw[qh,aP];omega) (fun v2 L2 cX _ qK eV=> ?_)
  have kb:=(bO.app (o:= .cells #[.func (.func fk) #[] cap] 176 (0,0)) hwa).grew qK
  have je:slB (G.p k)≠some (G.d k):=fun e=>by
   obtain⟨arr,ha⟩:=kS VS e
   rw[iv] at ha
   simp[bh] at ha
  have eH:Sx.look L2 (G.d k)=some (bh (G.s k) (G.t k) (G.p k)):=qK.look _ _ je (cT iv)
  have gn:=ad (w0:=w) eH
  have st:=fun x=>Dv (G.s k) (G.t k) (G.p k) v2 x cX.cell
  refine ko @lk ?_
  refine ky (aN @lk (aN @eH @st)) ?_
  refine⟨_,(ke @lk), ?_⟩
  refine⟨kb.setB,by rw[f4];rfl, ?_⟩
  rw[if_neg (by rw[f4];simp)]
  have VM: ∀b,dq (D++ [(ba, .cells #[.func (.func fk) #[] cap] 176 (0,0))]) b→b∉keys L1:=fun b hb hm=>by
   have:=ae hb (b:=b) (by rw[aZ,hO.keys];exact bQ _ hm)
   omega
  have SK: ∀b o,Sx.look L1 b=some o→b≠G.s k→b≠G.d k→slB (G.p k)≠some b→Sx.look (setB L2 (G.d k) (bh (G.s k) (G.t k) v2)) b=some o:=fun b o hb h1 h2 h3=>by
   rw[du (Ne.symm h2)]
   exact qK.look _ _ h3 (cT ((hO.rest b h1).trans hb))
  obtain⟨oN,mN,iP,mG,iQ⟩:=d7
  have T7:slB (G.p k)≠some (G.s k):=fun e=>by
   obtain⟨arr,ha⟩:=kS i4 e
   rw[gH] at ha;cases ha
   obtain⟨es,cl,h,-⟩:=fG;cases h
  have TS:slB v2≠some (G.d k):=fun e=>by
   rcases eV with h| ⟨b',h,ha⟩
   ·exact je (by rw[←h];exact e)
   rw[h] at e;cases e
   exact VM _ ha (bX (aj.dir k hk))
  refine⟨v2,aj.turn hk (c:=c) (v:= .func (.func fk) #[] cap) (v2:=v2) (vals:=vals) ⟨SK⟩ ⟨oN,mN, ?_,mG,iQ⟩ (iI eH) qh hF i4 (cX.keep fun b o hb ho=> ?_) uO (eV.imp id fun⟨b',h,ha⟩=>⟨b',h,VM _ ha⟩) pI (by rw[ar];exact sW)⟩
  ·rw[du Cm]
   exact qK.look _ _ T7 (cT iP)
  rw[du (by rintro rfl;exact TS hb)];exact ho
 have e2:=lH f4
 refine ko (aN @lk @e2) ?_
 refine ky @lk ?_
 refine⟨_,(ke @lk), ?_⟩
 refine⟨bN,rfl, ?_⟩
 rw[if_pos f4]
def addF (G:DkG) (bf:Nat):DkG:={G with fb:=G.fb++ [bf]}
def eP (S:DiskL) (f:FileL):DiskL:={S with files:=S.files++ [f]}
def x4 {S:DiskL} (h:DkOk S) {f:FileL} (hf:f.data.length≤1048576∧f.stl≤f.data.length):DkOk (eP S f):=by
 have e: (eP S f).files.length=S.files.length+1:=by unfold eP;simp
 refine⟨h.seen,h.stl,fun k hk p hp=>by rw[e];exact Nat.lt_succ_of_lt (h.seenN k hk p hp),fun k hk p hp=>by rw[e];exact Nat.lt_succ_of_lt (h.stlN k hk p hp),fun k hk c hc h0=>by rw[e];exact Nat.lt_succ_of_lt (h.pendN k hk c hc h0),fun g hg=> ?_,h.fuse,h.max⟩
 rcases List.mem_append.1 hg with hg|hg
 ·exact h.file g hg
 rw[List.mem_singleton.1 hg];exact hf
def yW {fb:List Nat} {bf n:Nat} (h:n<fb.length): (fb++ [bf]).getD n 0=fb.getD n 0:=tn 0 n h
def DkP.addFile {X:aA} {G:DkG} {S:DiskL} (h:DkP X G S) {bf:Nat} {f:FileL} (hb:Sx.look X bf=some (cr f)) (hn:bf∉G.fb) (hf:f.data.length≤1048576∧f.stl≤f.data.length):DkP X (addF G bf) (eP S f):=by
 have hl:=h.len
 have VV: ∀ {b:Nat} {l:NmL},(∀p,p∈l→p.2<S.files.length)→NmM X G.fb b l→NmM X (G.fb++ [bf]) b l:=by
  rintro b l aG ⟨o,m,h1,h2,h3⟩
  exact⟨o,m,h1,h2,h3.mono fun p hp=>yW (by have:=aG p hp;omega)⟩
 refine⟨h.disk,h.dirs,h.dir,fun k hk=>VV (h.ok.seenN k hk) (h.seen k hk),fun k hk=>VV (h.ok.stlN k hk) (h.stl k hk),fun k hk=> ?_,fun n aX=> ?_, ?_, ?_,h.nodm,h.nodd,h.nodb,h.nodp,x4 h.ok hf⟩
 ·obtain⟨vals,h1,h2,h3⟩:=h.pend k hk
  refine⟨vals,h1,h2,fun i hi=> ?_⟩
  have hF:=h3 i hi
  have hm: ((S.dir k).pend.getD i gr)∈ (S.dir k).pend:=by
   rw[List.getD_eq_getElem?_getD,List.getElem?_eq_getElem oM];exact List.getElem_mem _
  have hc:=h.ok.pendN k hk _ hm
  show FnP X (G.fb++ [bf]) (vals.getD i undef) ((S.dir k).pend.getD i gr)
  generalize (S.dir k).pend.getD i gr=c at*
  unfold FnP at hF ⊢
  split at hF
  ·rename_i AF
   rw[yW (by have:=hc AF;omega)]
   exact hF
  ·exact hF
  exact hF
 ·have j':n<S.files.length+1:=by
   have: (eP S f).files.length=S.files.length+1:=by unfold eP;simp
   omega
  show Sx.look X ((G.fb++ [bf]).getD n 0)=some (cr ((S.files++ [f]).getD n d4))
  by_cases e:n=S.files.length
  ·subst e
   rw[tp _ _ hl,tp _ _ rfl];exact hb
  rw[tn _ _ oM,tn _ _ oM]
  exact h.file n oM
 ·show(G.fb++ [bf]).length=(S.files++ [f]).length
  rw[List.length_append,List.length_append,hl];rfl
 show(G.fb++ [bf]).Nodup
 refine List.nodup_append.2 ⟨h.nodf,by simp,fun a ha b dI=> ?_⟩
 rw[List.mem_singleton.1 dI]
 rintro rfl;exact hn ha
def KH:iL (fX prog 182) (bL prog 182) []=some (.agg #[vs [],vi 0]):=by
 rw[show fX prog 182=some [(0,1),(1,1)] from id kR,show bL prog 182=some (.agg #[vs [],vi 0]) from id kR];rfl
def Qe:bL prog 178=some (.pointer none):=zrPf
def LH (b:Nat) (a:Bool):bM (some (a,1)) (some (.cells (Value.pointer none).cells 178 (0,0))) 0 (vp b 0)=some (g_ b):=
 lB [] [.pointer none] [vp b 0] [] a _ 178 rfl rfl rfl rfl rfl
def lg:=aN @bq (aN @bl @LH)
def X0 (name:List UInt8) (w:World):Rets prog 319 #[vs name] w (XS w [] (fun v D=> ∃bp bn bf,v= .func (.func 324) #[] #[vp bp 0,vp bn 0]∧Sx.look D bp=some (g_ bf)∧Sx.look D bn=some (cv name)∧Sx.look D bf=some (cr d4))):=by
 refine Rets.enterX func319 rfl (rs:= [.tmp 2]) results319 ntmps319 (fun p hp=>by cases hp) (by simp[keys]) ?_
 refine kf ?_
 refine ky @lg ?_
 refine Ow.box rfl rfl fun bn f4 mg=> ?_
 simp only[df,dC,dW,List.nil_append]
 refine ko @lg ?_
 refine ky @lg ?_
 refine Ow.build (.agg #[vs [],vi 0]) rfl KH ?_
 refine ko @lg ?_
 refine Ow.box rfl rfl fun bf Ce hwf=> ?_
 simp only[df,dC,dW,bI]
 refine ko @lg ?_
 refine Ow.alloc rfl rfl Qe fun bp Cf hwp=> ?_
 have h1:bn<bf:=ae Ce (by simp[keys])
 have h2:bn<bp:=ae Cf (by simp[keys])
 have h3:bf<bp:=ae Cf (by simp[keys])
 refine Ow.permL (M:= [(bp, .cells (Value.pointer none).cells 178 (0,0)),(bf, .cells #[vs [],vi 0] 182 (0,0)),(bn, .cells (vs name).cells 9 (0,0))]) pM ?_
 refine ko @lg ?_
 refine ky @lg ?_
 refine⟨_,(ke @lg), ?_⟩
 refine⟨Ext.of_new ⟨hwp,hwf,mg,trivial⟩,bp,bn,bf, ?_, ?_, ?_, ?_⟩
 ·simp only[bw,List.map_toArray,List.map_cons,List.map_nil,df,dC,dW]
 ·simp[Sx.look]
 ·simp[Sx.look,show bp≠bn by omega,show bf≠bn by omega];rfl
 simp[Sx.look,show bp≠bf by omega];rfl
def Wi (name:List UInt8) (w:World):Rets prog 280 #[vs name] w (XS w [] (fun v D=> ∃bn,v= .func (.func 309) #[] #[vp bn 0]∧Sx.look D bn=some (cv name))):=by
 refine Rets.enterX func280 rfl (rs:= [.tmp 2]) results280 ntmps280 (fun p hp=>by cases hp) (by simp[keys]) ?_
 refine kf ?_
 refine ky @lg ?_
 refine Ow.box rfl rfl fun bn f4 mg=> ?_
 simp only[df,dC,dW,List.nil_append]
 refine ko @lg ?_
 refine ky @lg ?_
 refine⟨_,(ke @lg), ?_⟩
 exact⟨Ext.of_new ⟨mg,trivial⟩,bn,by simp only[bw,List.map_toArray,List.map_cons,List.map_nil,df,dC,dW],by simp[Sx.look];rfl⟩
def cI (S:DiskL) (dir name:List UInt8):DiskL×Nat:=
 if cF S dir [name]≠0 then(S,cF S dir [name]) else match atD S dir name with
  |some _=>(S,7)
  |none=>if(aK S).2≠0 then aK S else(cL (eP (aK S).1 d4) ((av dir).getD 0) ⟨0,name,[],S.files.length⟩,0)
def fA (S:DiskL) (dir name:List UInt8):DiskL×Nat:=
 if cF S dir [name]≠0 then(S,cF S dir [name]) else match atD S dir name with
  |none=>(S,6)
  |some _=>if(aK S).2≠0 then aK S else(cL (aK S).1 ((av dir).getD 0) ⟨2,name,[],0⟩,0)
def cm (S:DiskL) (dir name to:List UInt8):DiskL×Nat:=
 if cF S dir [name,to]≠0 then(S,cF S dir [name,to]) else match atD S dir name with
  |none=>(S,6)
  |some _=>if name=to then aK S else if(aK S).2≠0 then aK S else(cL (aK S).1 ((av dir).getD 0) ⟨1,name,to,0⟩,0)
def IP (S:DiskL) (f:FileL):aK (eP S f)=(eP (aK S).1 f,(aK S).2):=by
 unfold aK
 by_cases h1:S.fused=true∧S.fuse=0
 ·rw[if_pos h1,if_pos (by exact h1)];rfl
 rw[if_neg h1,if_neg (by exact h1)]
 by_cases h2:S.fused=true
 ·rw[if_pos h2,if_pos (by exact h2)];rfl
 rw[if_neg h2,if_neg (by exact h2)]
def Py (b o:Nat):ac prog .neq 178 (vp b o) (.pointer none)=some (.bool true):=by
 simp[ac,eqX,eM,eX,underlying178,vp]
def Ou:ac prog .neq 178 (.pointer none) (.pointer none)=some (.bool false):=by
 simp[ac,eqX,eM,eX,underlying178]
def CG {L D:aA} {B:Nat} (hA:dq L B) (hN:New B D) {b:Nat} {o:Obj} (h:Sx.look D b=some o):Sx.look (L++D) b=some o:=by
 rw[gO (fun hm=>by have:=ae hA hm;have:=hN.le b (bX h);omega)];exact h
def DkP.fb_key {X:aA} {G:DkG} {S:DiskL} (h:DkP X G S) {b:Nat} (hb:b∈G.fb):b∈keys X:=by
 obtain⟨n,hn,rfl⟩:=List.getElem_of_mem hb
 have:=h.file n (by rw[←h.len];exact hn)
 rw[List.getD_eq_getElem?_getD,List.getElem?_eq_getElem hn] at this
 exact bX this
def bP:=aN (aN (aN (aN @bq @bl) (aN @l9 @uS)) (aN (aN @mq @mj) (aN @ml (aN @ud @uh)))) (aN (aN (aN @vX @kX) (aN @tw @mC)) (aN (aN @ly @Py) (aN @Ou (aN @Sx.tup2_0 @Sx.tup2_1))))
def Fl (X:aA) (G:DkG) (S:DiskL) (dir name:List UInt8) (w:World) (hX: ∀p,p∈X→w.heap[p.1]? =some p.2) (hn: (keys X).Nodup) (hP:DkP X G S) (ce:name.length<1099511627776) (fc: ∀k,k<3→(S.dir k).pend.length<1000000):
  Rets prog 306 #[vp G.bd 0,vs dir,vs name] w (XS w X (fun v D=>v=vi ((cI S dir name).2:Nat)∧ ∃G',G'.bd=G.bd∧DkP D G' (cI S dir name).1)):=by
 refine Rets.enterX func306 rfl (rs:= [.tmp 6]) results306 ntmps306 hX hn ?_
 refine kf ?_
 refine ky @bP ?_
 refine Ow.buildSlice (e:=9) #[vs name] rfl rfl kR fun b1 aP aY=> ?_
 have aj:=hP.mono (X':=X++ [(b1,Obj.cells #[vs name] 9 (0,0))]) fun b o h=>cT h
 have bN:=(Ext.refl w X).app (o:=Obj.cells #[vs name] 9 (0,0)) aY
 have eK: (b1,Obj.cells #[vs name] 9 (0,0))∈X++ [(b1,Obj.cells #[vs name] 9 (0,0))]:=by simp
 generalize X++ [(b1,Obj.cells #[vs name] 9 (0,0))]=L1 at*
 refine ko @bP ?_
 refine Ow.callC rfl rfl call151 (fun w' aB=>Rets.toX (rA w' G S dir (vsl b1 0 1 1) [name] (aj.world aB) (lz (aB.has _ _ eK)) (by simp) (by simpa using ce))) (fun B2 v2 D2 cU cX d7 an=> ?_)
 obtain⟨rfl,an⟩:=an
 rw[List.append_nil]
 clear eK cU d7
 unfold cI atD
 rcases an with⟨he,rfl⟩ | ⟨he,k,hk,rfl⟩
 ·have e1:=lH he
  refine ko @bP ?_
  refine ky (aN @bP @e1) ?_
  refine⟨_,(ke @bP), ?_⟩
  rw[if_pos he]
  exact⟨bN,rfl,G,rfl,aj⟩
 have lR: ¬ (cF S dir [name]≠0):=by rw[he];simp
 have am:=(cw hk).1
 have gh:=ad (w0:=w) (aj.dir k am)
 obtain⟨os,ms,gH,fG,gk⟩:=aj.seen k am
 have jF:=ad (w0:=w) gH
 have e1: ((0:Int) !=0)=false:=rfl
 refine ko @bP ?_
 refine ky (aN @bP (aN @e1 @gh)) ?_
 refine Ow.mapGetG (encK:=vs) (encV:=ao) (k:=name) (z:=none) rfl rfl underlying173 j0 zrPf rfl rfl jF fG ?_
 rw[gk.get (hP.ok.seen k am).nodup]
 show Ow _ _ _ _ _ _ _ _
 have hq: (av dir).bind (fun k=>aL (S.dir k).seen name)=aL (S.dir k).seen name:=by rw[hk];rfl
 cases hf:aL (S.dir k).seen name with
 |some n=>
  have hp: ∀q:Nat,ao (some q)=vp q 0:=fun _=>rfl
  refine ko (aN @bP @hp) ?_
  refine ky @bP ?_
  refine⟨_,(ke @bP), ?_⟩
  rw[if_neg lR,hq,hf]
  exact⟨bN,rfl,G,rfl,aj⟩
 |none=>
  have iY:ao none= .pointer none:=rfl
  refine ko (aN @bP @iY) ?_
  refine ky @bP ?_
  refine Ow.callC rfl rfl call319 (fun w' aB=>X0 name w') (fun B3 v3 D3 e_ jA iP jD=> ?_)
  obtain⟨bp,bn,bf,rfl,Cf,f4,Ce⟩:=jD
  have cd:=aj.mono (X':=L1++D3) fun b o h=>cT h
  have Rl:=CG e_ iP Cf
  have sS:=CG e_ iP f4
  have Rh:=CG e_ iP Ce
  have Zn:bf∉G.fb:=fun hm=>by
   have h1:=ae e_ (aj.fb_key hm)
   have h2:=iP.le bf (bX Ce)
   omega
  have nH:=cd.addFile Rh Zn (f:=d4) ⟨by decide,by decide⟩
  have bO:Ext w X (L1++D3):=⟨fun c hc=>by
   rw[aZ] at hc
   rcases List.mem_append.1 hc with hc|hc
   ·exact bN.new c hc
   exact .inr (Nat.le_trans jA (iP.le c hc)),fun c hc=>by rw[aZ];exact bQ _ (bN.all c hc)⟩
  generalize L1++D3=L3 at*
  refine ko @bP ?_
  refine Ow.callX (X:=L3) (Y:= []) (List.append_nil _).symm rfl rfl call279 (fun w' aB ab aX=>Te L3 (addF G bf) (eP S d4) k ⟨0,name,[],S.files.length⟩ _ w' ab aX nH am ⟨bp,bn,rfl,by show Sx.look L3 bp=some (g_ ((G.fb++ [bf]).getD S.files.length 0));rw[tp _ _ hP.len];exact Rl,sS⟩ (fun h=>by cases h) (fun _=>by show S.files.length< (S.files++ [d4]).length;simp) (fc k am)) (fun v4 D4 dH bE=> ?_)
  rw[IP] at bE
  obtain⟨rfl,bE⟩:=bE
  simp only at bE
  have gb:=bO.came0 dH
  rw[List.append_nil]
  refine ko @bP ?_
  refine ky @bP ?_
  refine⟨_,(ke @bP), ?_⟩
  rw[if_neg lR,hq,hf]
  simp only
  by_cases dJ: (aK S).2=0
  ·rw[if_neg (by rw[dJ];simp)] at bE
   rw[if_neg (by rw[dJ];simp)]
   obtain⟨v5,jB⟩:=bE
   rw[hk]
   exact⟨gb,by rw[dJ];rfl,setP (addF G bf) k v5,rfl,jB⟩
  rw[if_pos dJ] at bE
  rw[if_pos dJ]
  subst bE
  obtain⟨aP,ar,gd⟩:=dj S
  exact⟨gb,rfl,G,rfl,cd.setDisk (aK S).1 aP ar (mu hP.ok)⟩
def Tt (X:aA) (G:DkG) (S:DiskL) (dir name:List UInt8) (w:World) (hX: ∀p,p∈X→w.heap[p.1]? =some p.2) (hn: (keys X).Nodup) (hP:DkP X G S) (ce:name.length<1099511627776) (fc: ∀k,k<3→(S.dir k).pend.length<1000000):
  Rets prog 240 #[vp G.bd 0,vs dir,vs name] w (XS w X (fun v D=>v=vi ((fA S dir name).2:Nat)∧ ∃G',G'.bd=G.bd∧DkP D G' (fA S dir name).1)):=by
 refine Rets.enterX func240 rfl (rs:= [.tmp 6]) results240 ntmps240 hX hn ?_
 refine kf ?_
 refine ky @bP ?_
 refine Ow.buildSlice (e:=9) #[vs name] rfl rfl kR fun b1 aP aY=> ?_
 have aj:=hP.mono (X':=X++ [(b1,Obj.cells #[vs name] 9 (0,0))]) fun b o h=>cT h
 have bN:=(Ext.refl w X).app (o:=Obj.cells #[vs name] 9 (0,0)) aY
 have eK: (b1,Obj.cells #[vs name] 9 (0,0))∈X++ [(b1,Obj.cells #[vs name] 9 (0,0))]:=by simp
 generalize X++ [(b1,Obj.cells #[vs name] 9 (0,0))]=L1 at*
 refine ko @bP ?_
 refine Ow.callC rfl rfl call151 (fun w' aB=>Rets.toX (rA w' G S dir (vsl b1 0 1 1) [name] (aj.world aB) (lz (aB.has _ _ eK)) (by simp) (by simpa using ce))) (fun B2 v2 D2 cU cX d7 an=> ?_)
 obtain⟨rfl,an⟩:=an
 rw[List.append_nil]
 clear eK cU d7
 unfold fA atD
 rcases an with⟨he,rfl⟩ | ⟨he,k,hk,rfl⟩
 ·have e1:=lH he
  refine ko @bP ?_
  refine ky (aN @bP @e1) ?_
  refine⟨_,(ke @bP), ?_⟩
  rw[if_pos he]
  exact⟨bN,rfl,G,rfl,aj⟩
 have lR: ¬ (cF S dir [name]≠0):=by rw[he];simp
 have am:=(cw hk).1
 have gh:=ad (w0:=w) (aj.dir k am)
 obtain⟨os,ms,gH,fG,gk⟩:=aj.seen k am
 have jF:=ad (w0:=w) gH
 have e1: ((0:Int) !=0)=false:=rfl
 refine ko @bP ?_
 refine ky (aN @bP (aN @e1 @gh)) ?_
 refine Ow.mapGetG (encK:=vs) (encV:=ao) (k:=name) (z:=none) rfl rfl underlying173 j0 zrPf rfl rfl jF fG ?_
 rw[gk.get (hP.ok.seen k am).nodup]
 show Ow _ _ _ _ _ _ _ _
 have hq: (av dir).bind (fun k=>aL (S.dir k).seen name)=aL (S.dir k).seen name:=by rw[hk];rfl
 cases hf:aL (S.dir k).seen name with
 |none=>
  have iY:ao none= .pointer none:=rfl
  refine ko (aN @bP @iY) ?_
  refine ky @bP ?_
  refine⟨_,(ke @bP), ?_⟩
  rw[if_neg lR,hq,hf]
  exact⟨bN,rfl,G,rfl,aj⟩
 |some n=>
  have hp: ∀q:Nat,ao (some q)=vp q 0:=fun _=>rfl
  refine ko (aN @bP @hp) ?_
  refine ky @bP ?_
  refine Ow.callC rfl rfl call280 (fun w' aB=>Wi name w') (fun B3 v3 D3 e_ jA iP jD=> ?_)
  obtain⟨bn,rfl,f4⟩:=jD
  have cd:=aj.mono (X':=L1++D3) fun b o h=>cT h
  have sS:=CG e_ iP f4
  have bO:Ext w X (L1++D3):=⟨fun c hc=>by
   rw[aZ] at hc
   rcases List.mem_append.1 hc with hc|hc
   ·exact bN.new c hc
   exact .inr (Nat.le_trans jA (iP.le c hc)),fun c hc=>by rw[aZ];exact bQ _ (bN.all c hc)⟩
  generalize L1++D3=L3 at*
  refine ko @bP ?_
  refine Ow.callX (X:=L3) (Y:= []) (List.append_nil _).symm rfl rfl call279 (fun w' aB ab aX=>Te L3 G S k ⟨2,name,[],0⟩ _ w' ab aX cd am ⟨bn,rfl,sS⟩ (fun h=>by cases h) (fun h=>by cases h) (fc k am)) (fun v4 D4 dH bE=> ?_)
  obtain⟨rfl,bE⟩:=bE
  have gb:=bO.came0 dH
  rw[List.append_nil]
  refine ko @bP ?_
  refine ky @bP ?_
  refine⟨_,(ke @bP), ?_⟩
  rw[if_neg lR,hq,hf]
  simp only
  by_cases dJ: (aK S).2=0
  ·rw[if_neg (by rw[dJ];simp)] at bE
   rw[if_neg (by rw[dJ];simp)]
   obtain⟨v5,jB⟩:=bE
   rw[hk]
   exact⟨gb,by rw[dJ];rfl,setP G k v5,rfl,jB⟩
  rw[if_pos dJ] at bE
  rw[if_pos dJ]
  subst bE
  obtain⟨aP,ar,gd⟩:=dj S
  exact⟨gb,rfl,G,rfl,cd.setDisk (aK S).1 aP ar (mu hP.ok)⟩
def FW (X:aA) (G:DkG) (S:DiskL) (dir name to:List UInt8) (w:World) (hX: ∀p,p∈X→w.heap[p.1]? =some p.2) (hn: (keys X).Nodup) (hP:DkP X G S) (ce:name.length<1099511627776) (DC:to.length<1099511627776) (fc: ∀k,k<3→(S.dir k).pend.length<1000000):
  Rets prog 307 #[vp G.bd 0,vs dir,vs name,vs to] w (XS w X (fun v D=>v=vi ((cm S dir name to).2:Nat)∧ ∃G',G'.bd=G.bd∧DkP D G' (cm S dir name to).1)):=by
 refine Rets.enterX func307 rfl (rs:= [.tmp 8]) results307 ntmps307 hX hn ?_
 refine kf ?_
 refine ky @bP ?_
 refine Ow.box rfl rfl fun b6 gQ fK=> ?_
 simp only[df,dC,dW]
 refine ko @bP ?_
 refine Ow.box rfl rfl fun b7 gf gp=> ?_
 simp only[df,dC,dW]
 refine Ow.permL (M:=X++ [(b6,cv name)]++ [(b7,cv to)]) (List.Perm.refl _) ?_
 have jV:=hP.mono (X':=X++ [(b6,cv name)]++ [(b7,cv to)]) fun b o h=>cT (cT h)
 have fZ:=((Ext.refl w X).app (o:=cv name) fK).app (o:=cv to) gp
 have AI:Sx.look (X++ [(b6,cv name)]++ [(b7,cv to)]) b6=some (cv name):=cT (iE gQ)
 have sh:Sx.look (X++ [(b6,cv name)]++ [(b7,cv to)]) b7=some (cv to):=iE gf
 generalize X++ [(b6,cv name)]++ [(b7,cv to)]=L0 at*
 have pL:=ad (w0:=w) AI
 have nR:=ad (w0:=w) sh
 refine ko @bP ?_
 refine ky (aN @bP (aN @pL @nR)) ?_
 refine Ow.buildSlice (e:=9) #[vs name,vs to] rfl rfl kR fun b1 aP aY=> ?_
 have aj:=jV.mono (X':=L0++ [(b1,Obj.cells #[vs name,vs to] 9 (0,0))]) fun b o h=>cT h
 have bN:=fZ.app (o:=Obj.cells #[vs name,vs to] 9 (0,0)) aY
 have eK: (b1,Obj.cells #[vs name,vs to] 9 (0,0))∈L0++ [(b1,Obj.cells #[vs name,vs to] 9 (0,0))]:=by simp
 have AI:=cT (M:= [(b1,Obj.cells #[vs name,vs to] 9 (0,0))]) AI
 have sh:=cT (M:= [(b1,Obj.cells #[vs name,vs to] 9 (0,0))]) sh
 generalize L0++ [(b1,Obj.cells #[vs name,vs to] 9 (0,0))]=L1 at*
 have pL:=ad (w0:=w) AI
 have nR:=ad (w0:=w) sh
 have AV: ∀s,s∈ [name,to]→s.length<1099511627776:=by
  intro s hs
  simp only[List.mem_cons,List.not_mem_nil,or_false] at hs
  rcases hs with rfl|rfl
  ·exact ce
  exact DC
 refine ko @bP ?_
 refine Ow.callC rfl rfl call151 (fun w' aB=>Rets.toX (rA w' G S dir (vsl b1 0 2 2) [name,to] (aj.world aB) (Pj (aB.has _ _ eK)) (by simp) AV)) (fun B2 v2 D2 cU cX d7 an=> ?_)
 obtain⟨rfl,an⟩:=an
 rw[List.append_nil]
 clear eK cU d7 AV
 unfold cm atD
 rcases an with⟨he,rfl⟩ | ⟨he,k,hk,rfl⟩
 ·have e1:=lH he
  refine ko @bP ?_
  refine ky (aN @bP @e1) ?_
  refine⟨_,(ke @bP), ?_⟩
  rw[if_pos he]
  exact⟨bN,rfl,G,rfl,aj⟩
 have lR: ¬ (cF S dir [name,to]≠0):=by rw[he];simp
 have am:=(cw hk).1
 have gh:=ad (w0:=w) (aj.dir k am)
 obtain⟨os,ms,gH,fG,gk⟩:=aj.seen k am
 have jF:=ad (w0:=w) gH
 have e1: ((0:Int) !=0)=false:=rfl
 have hq: (av dir).bind (fun k=>aL (S.dir k).seen name)=aL (S.dir k).seen name:=by rw[hk];rfl
 refine ko @bP ?_
 refine ky (aN @bP @e1) ?_
 refine Cw.regionS [G.d k,b6] [0,1,2,3,4,5,6,7] [] kR kR kR ?_
 simp only[cR, ↓cS, ↓bz, ↓cG, ↓cH,b_]
 refine kq (aN @bP (aN @gh @pL)) ?_
 refine Ow.soft rfl rfl rfl ?_
 refine Ow.mapGetG (encK:=vs) (encV:=ao) (k:=name) (z:=none) rfl rfl underlying173 j0 zrPf rfl rfl jF fG ?_
 with_reducible refine Ow.nil ?_
 refine⟨by intro b hb;simp only[List.mem_cons,List.not_mem_nil,or_false] at hb;(try subst hb);rfl, ?_⟩
 rw[gk.get (hP.ok.seen k am).nodup]
 show Ow _ _ _ _ _ _ _ _
 cases hf:aL (S.dir k).seen name with
 |none=>
  have iY:ao none= .pointer none:=rfl
  refine kq (aN @bP @iY) ?_
  try with_reducible refine Ow.nil ?_
  refine ky @bP ?_
  refine⟨_,(ke @bP), ?_⟩
  rw[if_neg lR,hq,hf]
  exact⟨bN,rfl,G,rfl,aj⟩
 |some n=>
  have hp: ∀q:Nat,ao (some q)=vp q 0:=fun _=>rfl
  have bG:G.bd∈keys L1:=bX aj.disk
  obtain⟨aP,ar,gd⟩:=dj S
  refine kq (aN @bP @hp) ?_
  try with_reducible refine Ow.nil ?_
  cases ci: (name==to) with
  |true=>
   have pH:name=to:=eq_of_beq ci
   refine ky (aN @bP (aN @pL (aN @nR @ci))) ?_
   refine Ow.callM rfl rfl call153 bG (fun w' aB=>BB G.bd G.bm S w' hP.ok.fuse (aB.has _ _ (cQ aj.disk))) ?_
   have cd:=aj.setDisk (aK S).1 aP ar (mu hP.ok)
   have bO:=bN.setB (b:=G.bd) (o:=bA G.bm (aK S).1)
   generalize setB L1 G.bd (bA G.bm (aK S).1)=L2 at*
   refine ko @bP ?_
   refine ky @bP ?_
   refine⟨_,(ke @bP), ?_⟩
   rw[if_neg lR,hq,hf]
   simp only
   rw[if_pos pH]
   exact⟨bO,rfl,G,rfl,cd⟩
  |false=>
   have pH:name≠to:=fun e=>by rw[e] at ci;simp at ci
   refine ky (aN @bP (aN @pL (aN @nR @ci))) ?_
   simp only[List.map_toArray,List.map_cons,List.map_nil,df,dC,dW]
   refine Ow.callX (X:=L1) (Y:= []) (List.append_nil _).symm rfl rfl call279 (fun w' aB ab aX=>Te L1 G S k ⟨1,name,to,0⟩ (.func (.func 320) #[] #[vp b6 0,vp b7 0]) w' ab aX aj am ⟨b6,b7,rfl,AI,sh⟩ (fun _=>⟨by rw[hf];simp,pH⟩) (fun h=>by cases h) (fc k am)) (fun v4 D4 dH bE=> ?_)
   obtain⟨rfl,bE⟩:=bE
   have gb:=bN.came0 dH
   rw[List.append_nil]
   refine ko @bP ?_
   refine ky @bP ?_
   refine⟨_,(ke @bP), ?_⟩
   rw[if_neg lR,hq,hf]
   simp only
   rw[if_neg pH]
   by_cases dJ: (aK S).2=0
   ·rw[if_neg (by rw[dJ];simp)] at bE
    rw[if_neg (by rw[dJ];simp)]
    obtain⟨v5,jB⟩:=bE
    rw[hk]
    exact⟨gb,by rw[dJ];rfl,setP G k v5,rfl,jB⟩
   rw[if_pos dJ] at bE
   rw[if_pos dJ]
   subst bE
   exact⟨gb,rfl,G,rfl,aj.setDisk (aK S).1 aP ar (mu hP.ok)⟩
structure CpG where
 L:aA
 it:Obj
 o:Obj
 dn:List (List UInt8×Option Nat)
 lf:List (List UInt8×Option Nat)
theorem Ep {α β:Type} [BEq α] [LawfulBEq α] {k:α} {v:β}: ∀ {m:List (α×β)},(∀p,p∈m→p.1≠k)→updG k v m=m++ [(k,v)]
 | [],_=>rfl
 |p::r,h=>by
  have h1: (k==p.1)=false:=beq_eq_false_iff_ne.2 fun e=>h p ah e.symm
  unfold updG
  rw[if_neg (by rw[h1];simp),Ep fun q hq=>h q (aq _ hq)];rfl
def lF:=aN (aN (aN @bq @bl) (aN @Sx.tup2_0 @Sx.tup2_1)) (aN (aN @tv @Sx.tup3_0) (aN @Sx.tup3_1 @Sx.tup3_2))
def Jj (X:aA) (bt bs:Nat) (ot os:Obj) (m:List (List UInt8×Option Nat)) (w:World) (hX: ∀p,p∈X→w.heap[p.1]? =some p.2) (hn: (keys X).Nodup)
  (ht:Sx.look X bt=some ot) (mX:dg vs ao ot ([]:List (List UInt8×Option Nat))) (hs:Sx.look X bs=some os) (fG:dg vs ao os m) (aQ:bt≠bs) (ay: (m.map Prod.fst).Nodup):
  Rets prog 172 #[vm bt,vm bs] w (XS w X (fun v D=>v=bw []∧(∀b o,b≠bt→Sx.look X b=some o→Sx.look D b=some o)∧ ∃o' m',Sx.look D bt=some o'∧dg vs ao o' m'∧m'.Perm m)):=by
 refine Rets.enterX func172 rfl (rs:= []) results172 ntmps172 hX hn ?_
 refine kf ?_
 refine ky @lF ?_
 refine Ow.rangeMapG (encK:=vs) (encV:=ao) rfl rfl underlying173 rfl (ad hs) fG fun bi oi u9 jG hI=> ?_
 have sP: ∀b o,Sx.look X b=some o→b≠bi:=fun b o hb e=>by
  have:=ae u9 (bX hb)
  omega
 refine ko @lF ?_
 refine ky @lF ?_
 refine Cw.loopG (G:=CpG) [8,9,10,11,12,4,5,13,14,15] (fun g=> []) (fun g=>g.L) (fun g=>Sx.look g.L bi=some g.it∧Sx.look g.L bt=some g.o∧dg vs ao g.o g.dn∧(∀b o,b≠bt→Sx.look X b=some o→Sx.look g.L b=some o)∧Ext w X g.L∧ItG vs ao g.it bs os m g.dn g.lf) (fun g=>g.lf.length) ⟨X++ [(bi,oi)],oi,ot,[],m⟩ rfl rfl ?_ ?_
 ·exact⟨iE u9,cT ht,mX,fun b o _ hb=>cT hb,(Ext.refl w X).app jG,hI⟩
 intro g j hg
 refine kv ?_
 clear hI
 obtain⟨L,it,o,dn,lf⟩:=g
 simp only at hg ⊢
 obtain⟨Vn,aG,mW,gj,hE,hI⟩:=hg
 have sm:=gj bs os (Ne.symm aQ) hs
 have cY:bt≠bi:=sP _ _ ht
 have TJ:bs≠bi:=sP _ _ hs
 refine ky @lF ?_
 refine Ow.nextMapG rfl rfl rfl Vn (ad sm) hI (fun gS=> ?_) (fun p it' lf' mS iO=> ?_)
 ·subst gS
  have hp:=ui hI
  rw[List.append_nil] at hp
  refine ko @lF ?_
  refine ky @lF ?_
  refine⟨_,(ke @lF), ?_⟩
  exact⟨hE,rfl,gj,o,dn,aG,mW,hp⟩
 have h1:Sx.look (setB L bi it') bi=some it':=iI Vn
 have h2:Sx.look (setB L bi it') bt=some o:=by rw[du (Ne.symm cY)];exact aG
 have h3:Sx.look (setB L bi it') bs=some os:=by rw[du (Ne.symm TJ)];exact sm
 have h4: ∀b o,b≠bt→Sx.look X b=some o→Sx.look (setB L bi it') b=some o:=fun b o hb hx=>by rw[du (Ne.symm (sP _ _ hx))];exact gj b o hb hx
 have bN:=hE.setB (b:=bi) (o:=it')
 generalize setB L bi it'=L1 at*
 refine ko @lF ?_
 refine ky @lF ?_
 refine Ow.entryMapG (encK:=vs) (encV:=ao) rfl rfl rfl (ad h1) (ad h3) iO ?_
 obtain⟨s,q⟩:=p
 have hp:=ui iO
 have Cm: ∀p,p∈dn→p.1≠s:=by
  have h5:=((hp.map Prod.fst).nodup_iff).2 ay
  rw[List.map_append,List.map_append,List.nodup_append] at h5
  have h6:=h5.1
  rw[List.nodup_append] at h6
  intro p pJ e
  exact h6.2.2 p.1 (List.mem_map_of_mem pJ) s (by simp) e
 refine ko @lF ?_
 refine ky @lF ?_
 refine Ow.mapUpdateG (encK:=vs) (encV:=ao) (k:=s) (v:=q) rfl rfl underlying173 j0 rfl rfl rfl h2 mW (fun o2 gG=> ?_)
 rw[Ep Cm] at gG
 refine ko @lF ?_
 refine ky @lF ?_
 exact Again.mk ⟨setB L1 bt o2,it',o2,dn++ [(s,q)],lf'⟩ (by show lf'.length<lf.length;omega) ⟨by show Sx.look (setB L1 bt o2) bi=_;rw[du cY];exact h1,iI h2,gG,fun b o hb hx=>by show Sx.look (setB L1 bt o2) b=_;rw[du (Ne.symm hb)];exact h4 b o hb hx,bN.setB,iO⟩ rfl rfl
def oV (G:DkG) (k s':Nat):DkG:={G with s:=fun j=>if j=k then s' else G.s j,p:=fun j=>if j=k then .slice none 0 0 else G.p j}
def DkP.calm {X L:aA} {G:DkG} {S:DiskL} (h:DkP X G S) {k:Nat} (hk:k<3) {s':Nat} (d:DirL) (Ck:d.pend= [])
  (keep: ∀b o,Sx.look X b=some o→b≠G.t k→b≠G.d k→Sx.look L b=some o) (hs:NmM L G.fb s' d.seen) (ht:NmM L G.fb (G.t k) d.stl)
  (hd:Sx.look L (G.d k)=some (bh s' (G.t k) (.slice none 0 0))) (nU:s'=G.s k∨s'∉keys X) (h1:SrtN d.seen) (h2:SrtN d.stl) (h3: ∀p,p∈d.seen→p.2<S.files.length) (h4: ∀p,p∈d.stl→p.2<S.files.length):
  DkP L (oV G k s') (eB S k d):=by
 obtain⟨otk,mtk,Sy,Sh,-⟩:=h.stl k hk
 have ci: ∀b o,Sx.look X b=some o→tyO o≠none→b≠G.t k:=by
  rintro b o hb ht rfl
  rw[Sy] at hb;cases hb;exact ht (iD Sh)
 have ay: ∀b o,Sx.look X b=some o→tyO o≠some 175→b≠G.d k:=by
  rintro b o hb ht rfl
  rw[h.dir k hk] at hb;cases hb;exact ht rfl
 have K: ∀b o,Sx.look X b=some o→tyO o≠none→tyO o≠some 175→Sx.look L b=some o:=fun b o hb h1 h2=>keep b o hb (ci b o hb h1) (ay b o hb h2)
 have KM: ∀b o,Sx.look X b=some o→tyO o=none→b≠G.t k→Sx.look L b=some o:=fun b o hb h1 h2=>keep b o hb h2 (ay b o hb (by rw[h1];intro e;cases e))
 have KF: ∀ {w c},FnP X G.fb w c→FnP L G.fb w c:=fun hw=>hw.keep fun b o hb hx=>K b o hb (by rcases hx with⟨s,rfl⟩ | ⟨a,rfl⟩<;>simp[tyO,cv,g_]) (by rcases hx with⟨s,rfl⟩ | ⟨a,rfl⟩<;>simp[tyO,cv,g_])
 have pP: ∀j,j<3→j≠k→s'≠G.s j:=fun j hj uD=>by
  rcases nU with e|e
  ·rw[e];exact(nv h.nodm hk hj).1 (Ne.symm uD)
  obtain⟨o,m,ho,-⟩:=h.seen j hj
  rintro rfl;exact e (bX ho)
 have eV: ∀j,j<3→s'≠G.t j:=fun j hj=>by
  rcases nU with e|e
  ·rw[e];exact(nv h.nodm hk hj).2.2
  obtain⟨o,m,ho,-⟩:=h.stl j hj
  rintro rfl;exact e (bX ho)
 have hs3:G.bm≠s':=by
  rcases nU with e|e
  ·rw[e];exact(h.nodb k hk).1
  obtain⟨o,ho,-⟩:=h.dirs
  rintro rfl;exact e (bX ho)
 refine⟨?_, ?_, ?_, ?_, ?_, ?_, ?_,h.len,h.nodf, ?_,h.nodd, ?_, ?_, ?_⟩
 ·exact K _ _ h.disk (by simp[tyO,bA]) (by simp[tyO,bA])
 ·obtain⟨o,h1,h2⟩:=h.dirs
  exact⟨o,KM _ _ h1 (iD h2) (h.nodb k hk).2,h2⟩
 ·intro j hj
  show Sx.look L (G.d j)=some (bh (if j=k then s' else G.s j) (G.t j) (if j=k then .slice none 0 0 else G.p j))
  by_cases e:j=k
  ·subst e;rw[if_pos rfl,if_pos rfl];exact hd
  rw[if_neg e,if_neg e]
  exact keep _ _ (h.dir j hj) (ci _ _ (h.dir j hj) (by simp[tyO,bh])) (yr h.nodd hj hk e)
 ·intro j hj
  show NmM L G.fb (if j=k then s' else G.s j) (if j=k then d else S.dir j).seen
  by_cases e:j=k
  ·subst e;rw[if_pos rfl,if_pos rfl];exact hs
  rw[if_neg e,if_neg e]
  obtain⟨o,m,h1,h2,h3⟩:=h.seen j hj
  exact⟨o,m,KM _ _ h1 (iD h2) (nv h.nodm hj hk).2.2,h2,h3⟩
 ·intro j hj
  show NmM L G.fb (G.t j) (if j=k then d else S.dir j).stl
  by_cases e:j=k
  ·subst e;rw[if_pos rfl];exact ht
  rw[if_neg e]
  obtain⟨o,m,h1,h2,h3⟩:=h.stl j hj
  exact⟨o,m,KM _ _ h1 (iD h2) ((nv h.nodm hj hk).2.1 e),h2,h3⟩
 ·intro j hj
  by_cases e:j=k
  ·subst e
   refine⟨[], ?_, ?_,fun i hi=>absurd hi (Nat.not_lt_zero _)⟩
   ·show 0=(if j=j then d else S.dir j:DirL).pend.length
    rw[if_pos rfl,Ck];rfl
   show Gr L _ 1 (if j=j then .slice none 0 0 else G.p j) 0 []
   rw[if_pos rfl];exact Gr.nl
  obtain⟨vj,h1,h2,h3⟩:=h.pend j hj
  refine⟨vj, ?_, ?_, ?_⟩
  ·show vj.length=(if j=k then _ else S.dir j:DirL).pend.length
   rw[if_neg e];exact h1
  ·show Gr L _ 1 (if j=k then .slice none 0 0 else G.p j) vj.length vj
   rw[if_neg e]
   refine h2.keep fun b o hb ho=> ?_
   obtain⟨arr,ha⟩:=kS h2 hb
   rw[ho] at ha;cases ha
   exact K _ _ ho (by simp[tyO]) (by simp[tyO])
  intro i hi
  show FnP L G.fb (vj.getD i undef) ((if j=k then _ else S.dir j:DirL).pend.getD i gr)
  rw[if_neg e]
  exact KF (h3 i hi)
 ·intro n hn
  exact K _ _ (h.file n hn) (by simp[tyO,cr]) (by simp[tyO,cr])
 ·have hn:=h.nodm
  have bb:k=0∨k=1∨k=2:=by omega
  rcases bb with rfl|rfl|rfl
  ·show [s',G.s 1,G.s 2,G.t 0,G.t 1,G.t 2].Nodup
   exact List.nodup_cons.2 ⟨by simp only[List.mem_cons,List.not_mem_nil,or_false,not_or];exact⟨pP 1 oM oM,pP 2 oM oM,eV 0 oM,eV 1 oM,eV 2 oM⟩,(List.nodup_cons.1 hn).2⟩
  ·show [G.s 0,s',G.s 2,G.t 0,G.t 1,G.t 2].Nodup
   refine(List.Perm.swap (G.s 0) s' _).nodup_iff.1 ?_
   exact List.nodup_cons.2 ⟨by simp only[List.mem_cons,List.not_mem_nil,or_false,not_or];exact⟨pP 0 oM oM,pP 2 oM oM,eV 0 oM,eV 1 oM,eV 2 oM⟩,(List.nodup_cons.1 ((List.Perm.swap (G.s 0) (G.s 1) _).nodup_iff.2 hn)).2⟩
  show [G.s 0,G.s 1,s',G.t 0,G.t 1,G.t 2].Nodup
  have hp: ∀x:Nat,(x:: [G.s 0,G.s 1,G.t 0,G.t 1,G.t 2]).Perm [G.s 0,G.s 1,x,G.t 0,G.t 1,G.t 2]:=fun x=>((List.perm_middle (l₁:= [G.s 0,G.s 1]) (a:=x) (l₂:= [G.t 0,G.t 1,G.t 2]))).symm
  refine(hp s').nodup_iff.1 ?_
  exact List.nodup_cons.2 ⟨by simp only[List.mem_cons,List.not_mem_nil,or_false,not_or];exact⟨pP 0 oM oM,pP 1 oM oM,eV 0 oM,eV 1 oM,eV 2 oM⟩,(List.nodup_cons.1 ((hp (G.s 2)).nodup_iff.2 hn)).2⟩
 ·intro j hj
  show G.bm≠ (if j=k then s' else G.s j)∧G.bm≠G.t j
  by_cases e:j=k
  ·rw[if_pos e];exact⟨hs3,(h.nodb j hj).2⟩
  rw[if_neg e];exact h.nodb j hj
 ·intro i j hi hj kr b hb
  show slB (if j=k then .slice none 0 0 else G.p j)≠some b
  have dI:slB (if i=k then .slice none 0 0 else G.p i)=some b:=hb
  by_cases ei:i=k
  ·rw[if_pos ei] at dI;cases dI
  rw[if_neg ei] at dI
  by_cases ej:j=k
  ·rw[if_pos ej];intro e;cases e
  rw[if_neg ej];exact h.nodp i j hi hj kr b dI
 exact BM h.ok _ h1 h2 h3 h4 (fun c hc=>by rw[Ck] at hc;cases hc)
def rG:=aN (aN (aN @bq @bl) (aN @l9 @mq)) (aN (aN @mj @ml) (aN @Sx.tup2_0 @Sx.tup2_1))
def jN (S:DiskL) (k:Nat):DiskL:=eB S k ⟨(S.dir k).seen,(S.dir k).seen,[]⟩
def GT (X:aA) (G:DkG) (S:DiskL) (k:Nat) (w:World) (hX: ∀p,p∈X→w.heap[p.1]? =some p.2) (hn: (keys X).Nodup) (hP:DkP X G S) (hk:k<3):
  Rets prog 98 #[vp (G.d k) 0] w (XS w X (fun v D=>v=bw []∧DkP D (oV G k (G.s k)) (jN S k)∧ ∀b o,Sx.look X b=some o→b≠G.t k→b≠G.d k→Sx.look D b=some o)):=by
 obtain⟨ot,mt,nP,mX,ci⟩:=hP.stl k hk
 obtain⟨os,ms,gH,fG,cg⟩:=hP.seen k hk
 have iv:=hP.dir k hk
 have bH:G.s k≠G.t k:=(nv hP.nodm hk hk).2.2
 have ce: ∀ {b:Nat} {o:Obj} {m:List (List UInt8×Option Nat)},Sx.look X b=some o→dg vs ao o m→G.d k≠b:=by
  rintro b o m hb hm rfl
  rw[iv] at hb;cases hb
  obtain⟨es,cl,h,-⟩:=hm;cases h
 have z':=ce nP mX
 refine Rets.enterX func98 rfl (rs:= []) results98 ntmps98 hX hn ?_
 refine kf ?_
 ((try with_reducible refine Cw.go [] ?_);(try simp(disch:=first|exact dD|fail) only[↓Sx.S0,Sx.S1,fx,rG,Nat.reduceAdd,Nat.reducePow,Int.reducePow,Nat.reduceBEq, ↓reduceIte,UInt8.reduceToNat,UInt16.reduceToNat,UInt32.reduceToNat,UInt64.reduceToNat,Int.reduceToNat,(ad (w0:=w) iv)]))
 refine Ow.mapClearG (encK:=vs) (encV:=ao) rfl rfl underlying173 rfl nP mX (fun o1 eK=> ?_)
 have hO:Only X (setB X (G.t k) o1) (G.t k) o1:=Only.set nP
 have bN:=(Ext.refl w X).setB (b:=G.t k) (o:=o1)
 generalize setB X (G.t k) o1=L1 at*
 have zz:Sx.look L1 (G.d k)=some (bh (G.s k) (G.t k) (G.p k)):=(hO.rest _ z').trans iv
 have Aa:Sx.look L1 (G.s k)=some os:=(hO.rest _ bH).trans gH
 have k7:=ad (w0:=w) zz
 refine ko @rG ?_
 refine ky @rG ?_
 refine Cw.regionS [G.d k] [0,1,2,4,5,6,3,7,8] [] kR kR kR ?_
 simp only[cR, ↓cS, ↓bz, ↓cG, ↓cH,b_]
 refine kq (aN @rG @k7) ?_
 refine Ow.soft rfl rfl rfl ?_
 refine Ow.callX (X:=L1) (Y:= []) (List.append_nil _).symm rfl rfl call172 (fun w' aB ab aX=>Jj L1 (G.t k) (G.s k) o1 os ms w' ab aX hO.at_ eK Aa fG (Ne.symm bH) (cg.keys (hP.ok.seen k hk).nodup)) (fun v4 D4 dH bE=> ?_)
 obtain⟨rfl,sf,o2,m2,gR,gG,fH⟩:=bE
 have bO:=bN.came0 dH
 rw[List.append_nil]
 have iw:=sf _ _ z' zz
 have gn:=ad (w0:=w) iw
 with_reducible refine Ow.nil ?_
 refine⟨fun b hb=>by rw[List.mem_singleton] at hb;subst hb;rw[k7,gn], ?_⟩
 refine kq @rG ?_
 try with_reducible refine Ow.nil ?_
 have st:=fun x=>Dv (G.s k) (G.t k) (G.p k) (.slice none 0 0) x ⟨rfl,rfl⟩
 refine ky (aN @rG (aN @iw @st)) ?_
 refine⟨_,(ke @rG), ?_⟩
 have gj: ∀b o,Sx.look X b=some o→b≠G.t k→b≠G.d k→Sx.look (setB D4 (G.d k) (bh (G.s k) (G.t k) (.slice none 0 0))) b=some o:=fun b o hb h1 h2=>by
  rw[du (Ne.symm h2)]
  exact sf _ _ h1 ((hO.rest _ h1).trans hb)
 refine⟨bO.setB,rfl, ?_,gj⟩
 have Sw:=sf _ _ bH Aa
 refine hP.calm hk ⟨(S.dir k).seen,(S.dir k).seen,[]⟩ rfl gj ⟨os,ms, ?_,fG,cg⟩ ⟨o2,m2, ?_,gG,fH.trans cg⟩ (iI iw) (.inl rfl) (hP.ok.seen k hk) (hP.ok.seen k hk) (hP.ok.seenN k hk) (hP.ok.seenN k hk)
 ·rw[du (ce gH fG)];exact Sw
 rw[du z'];exact gR
def eb (S:DiskL) (dir:List UInt8):DiskL×Nat:=
 if cF S dir []≠0 then(S,cF S dir []) else if(aK S).2≠0 then aK S else(jN (aK S).1 ((av dir).getD 0),0)
def kN:=aN (aN (aN @bq @bl) (aN @l9 @mq)) (aN (aN @mj @ml) (aN @Sx.tup2_0 @Sx.tup2_1))
def Xt (X:aA) (G:DkG) (S:DiskL) (dir:List UInt8) (w:World) (hX: ∀p,p∈X→w.heap[p.1]? =some p.2) (hn: (keys X).Nodup) (hP:DkP X G S):
  Rets prog 308 #[vp G.bd 0,vs dir] w (XS w X (fun v D=>v=vi ((eb S dir).2:Nat)∧ ∃G',G'.bd=G.bd∧DkP D G' (eb S dir).1)):=by
 refine Rets.enterX func308 rfl (rs:= [.tmp 4]) results308 ntmps308 hX hn ?_
 refine kf ?_
 refine ky @kN ?_
 refine Ow.callC rfl rfl call151 (fun w' aB=>Rets.toX (rA w' G S dir (.slice none 0 0) [] (hP.world aB) (SlV.nil w') (by simp) (fun s hs=>by cases hs))) (fun B2 v2 D2 cU cX d7 an=> ?_)
 obtain⟨rfl,an⟩:=an
 rw[List.append_nil]
 unfold eb
 rcases an with⟨he,rfl⟩ | ⟨he,k,hk,rfl⟩
 ·have e1:=lH he
  refine ko @kN ?_
  refine ky (aN @kN @e1) ?_
  refine⟨_,(ke @kN), ?_⟩
  rw[if_pos he]
  exact⟨Ext.refl w X,rfl,G,rfl,hP⟩
 have lR: ¬ (cF S dir []≠0):=by rw[he];simp
 have am:=(cw hk).1
 have e1: ((0:Int) !=0)=false:=rfl
 obtain⟨aP,ar,gd⟩:=dj S
 refine ko @kN ?_
 refine ky (aN @kN @e1) ?_
 refine Ow.callM rfl rfl call153 (bX hP.disk) (fun w' aB=>BB G.bd G.bm S w' hP.ok.fuse (aB.has _ _ (cQ hP.disk))) ?_
 have cd:=hP.setDisk (aK S).1 aP ar (mu hP.ok)
 have bO:=(Ext.refl w X).setB (b:=G.bd) (o:=bA G.bm (aK S).1)
 generalize setB X G.bd (bA G.bm (aK S).1)=L2 at*
 by_cases f4: (aK S).2=0
 ·have e2: (((aK S).2:Int) !=0)=false:=by rw[f4];rfl
  refine ko (aN @kN @e2) ?_
  refine ky @kN ?_
  refine Ow.callX (X:=L2) (Y:= []) (List.append_nil _).symm rfl rfl call98 (fun w' aB ab aX=>GT L2 G (aK S).1 k w' ab aX cd am) (fun v4 D4 dH bE=> ?_)
  obtain⟨rfl,bE,-⟩:=bE
  have gb:=bO.came0 dH
  rw[List.append_nil]
  refine ko @kN ?_
  refine ky @kN ?_
  refine⟨_,(ke @kN), ?_⟩
  rw[if_neg lR,if_neg (by rw[f4];simp),hk]
  exact⟨gb,rfl,oV G k (G.s k),rfl,bE⟩
 have e2:=lH f4
 refine ko (aN @kN @e2) ?_
 refine ky @kN ?_
 refine⟨_,(ke @kN), ?_⟩
 rw[if_neg lR,if_pos f4]
 exact⟨bO,rfl,G,rfl,cd⟩
def n8 (w:World):Prop:= ∃e fz,w.heap[0]? =some (.cells #[vs jm,vs jP,vs aJ] e fz)
def cq (quota:Int):DiskL:=⟨fun _=>⟨[],[],[]⟩,[],quota,0,false,false⟩
def Jw (b:Nat) (q:Int):iL (fX prog 168) (bL prog 168) [(0,vm b),(1,vi q)]=some (.agg #[vm b,vi q,vi 0, .bool false, .bool false]):=by
 rw[show fX prog 168=some [(0,1),(1,1),(2,1),(3,1),(4,1)] from id kR,show bL prog 168=some (.agg #[.map none,vi 0,vi 0, .bool false, .bool false]) from id kR];rfl
def Kj (a b:Nat):iL (fX prog 175) (bL prog 175) [(0,vm a),(1,vm b)]=some (.agg #[vm a,vm b, .slice none 0 0]):=by
 rw[show fX prog 175=some [(0,1),(1,1),(2,1)] from id kR,show bL prog 175=some (.agg #[.map none, .map none, .slice none 0 0]) from id kR];rfl
def Tg (e:TypeId) (fz:Nat×Nat):ak (some (true,3)) (some (.cells #[vs jm,vs jP,vs aJ] e fz)) 0=some (.agg #[vs jm,vs jP,vs aJ]):=uk _ e fz 3 rfl
def Ef {k:Nat} (hk:k<3):mz (.arr 3 (false,1)) (.agg #[vs jm,vs jP,vs aJ]) (some (k:Int))=some (vs (gD k)):=by
 have:k=0∨k=1∨k=2:=by omega
 rcases this with rfl|rfl|rfl<;>rfl
def pz (d:Nat→Nat):Nat→List (List UInt8×Option Nat)
 |0=> []
 |k+1=>pz d k++ [(gD k,some (d k))]
theorem Uu {d d':Nat→Nat}: ∀ {k:Nat},(∀j,j<k→d' j=d j)→pz d' k=pz d k
 |0,_=>rfl
 |k+1,h=>by
  unfold pz
  rw[Uu fun j hj=>h j oM,h k oM]
theorem xG {d:Nat→Nat} {j:Nat} (hj:j<3): ∀ {k:Nat},k≤j→ ∀p,p∈pz d k→p.1≠gD j
 |0,_,_,hp=>by cases hp
 |k+1,hk,p,hp=>by
  rcases List.mem_append.1 hp with hp|hp
  ·exact xG hj oM p hp
  rw[List.mem_singleton.1 hp]
  intro e
  have h1:=qz (k:=k) oM
  have h2:=qz hj
  have e':gD k=gD j:=e
  rw[e',h2] at h1
  cases h1;omega
structure NwG where
 L:aA
 o:Obj
 k:Nat
 d:Nat→Nat
 s:Nat→Nat
 t:Nat→Nat
def mtM (L:aA) (b:Nat):Prop:= ∃o,Sx.look L b=some o∧dg vs ao o ([]:List (List UInt8×Option Nat))
def kM:=aN (aN @bq (aN @bl @l9)) (aN @mq (aN @mj @ml))
def vr (quota:Int) (w:World) (hq: -9223372036854775808≤quota∧quota<9223372036854775808) (hG:n8 w):
  Rets prog 80 #[vi quota] w (XS w [] (fun v D=> ∃G,v=vp G.bd 0∧DkP D G (cq quota))):=by
 obtain⟨e,fz,hg⟩:=hG
 refine Rets.enterX func80 rfl (rs:= [.tmp 2]) results80 ntmps80 (fun p hp=>by cases hp) (by simp[keys]) ?_
 refine kf ?_
 refine ky @kM ?_
 refine Ow.makeMapG (encK:=vs) (encV:=ao) rfl rfl (fun bm om sR kC hM=> ?_)
 rw[List.nil_append]
 refine ko @kM ?_
 refine Ow.build (.agg #[vm bm,vi quota,vi 0, .bool false, .bool false]) rfl (Jw bm quota) ?_
 refine ko @kM ?_
 refine Ow.box rfl rfl fun bd dU hwd=> ?_
 simp only[df,dC,dW,bI]
 have mV:bm<bd:=ae dU (by simp[keys])
 refine Ow.permL (M:= [(bm,om)]++ [(bd,bA bm (cq quota))]) (List.Perm.refl _) ?_
 have h0:Sx.look ([(bm,om)]++ [(bd,bA bm (cq quota))]) bm=some om:=by simp[Sx.look]
 have h1:Sx.look ([(bm,om)]++ [(bd,bA bm (cq quota))]) bd=some (bA bm (cq quota)):=iE dU
 have hN:New w.heap.size ([(bm,om)]++ [(bd,bA bm (cq quota))]):=⟨kC,hwd,trivial⟩
 generalize [(bm,om)]++ [(bd,bA bm (cq quota))]=L0 at*
 have A5:=(Array.getElem?_eq_some_iff.1 hg).1
 have TC:aS w L0 0=some (.cells #[vs jm,vs jP,vs aJ] e fz):=by rw[lA (hN.not A5)];exact hg
 refine ko @kM ?_
 refine ky (aN @kM (aN @TC @Tg)) ?_
 refine Cw.loopG (G:=NwG) [12,13,5,14,15,16,17,18,19,20,21,22,23,11] (fun g=> [(11,vi g.k)]) (fun g=>g.L) (fun g=>g.k≤3∧Sx.look g.L bm=some g.o∧dg vs ao g.o (pz g.d g.k)∧Sx.look g.L bd=some (bA bm (cq quota))∧New w.heap.size g.L∧ ∀j,j<g.k→Sx.look g.L (g.d j)=some (bh (g.s j) (g.t j) (.slice none 0 0))∧mtM g.L (g.s j)∧mtM g.L (g.t j)∧g.s j<g.t j∧g.t j<g.d j∧bd<g.s j∧ ∀i,i<j→g.d i<g.s j) (fun g=>3 - g.k) ⟨L0,om,0,fun _=>0,fun _=>0,fun _=>0⟩ rfl rfl ?_ ?_
 ·exact⟨cC _,h0,hM,h1,hN,fun j hj=>absurd hj (Nat.not_lt_zero _)⟩
 intro g j hg
 refine kv ?_
 clear h0 hM h1 hN TC
 obtain⟨L,o,k,d,s,t⟩:=g
 simp only at hg ⊢
 obtain⟨hk,jZ,hM,jY,hN,c_⟩:=hg
 by_cases aG:k<3
 ·have d1:decide ((k:Int)<3)=true:=dR oM
  have ixk:=Ef aG
  have rdd:=ad (w0:=w) jY
  refine ky (aN @kM (aN @d1 (aN @ixk @rdd))) ?_
  refine Ow.makeMapG (encK:=vs) (encV:=ao) rfl rfl (fun bs os Cg hws Yt=> ?_)
  refine ko @kM ?_
  refine Ow.makeMapG (encK:=vs) (encV:=ao) rfl rfl (fun bt ot Rm hwt Yu=> ?_)
  refine ko @kM ?_
  refine Ow.build (.agg #[vm bs,vm bt, .slice none 0 0]) rfl (Kj bs bt) ?_
  refine ko @kM ?_
  refine Ow.box rfl rfl fun br dy g6=> ?_
  simp only[df,dC,dW,bI]
  refine Ow.permL (M:=L++ [(bs,os)]++ [(bt,ot)]++ [(br,bh bs bt (.slice none 0 0))]) (List.Perm.refl _) ?_
  have up: ∀b x,Sx.look L b=some x→Sx.look (L++ [(bs,os)]++ [(bt,ot)]++ [(br,bh bs bt (.slice none 0 0))]) b=some x:=fun b x h=>cT (cT (cT h))
  have ls:Sx.look (L++ [(bs,os)]++ [(bt,ot)]++ [(br,bh bs bt (.slice none 0 0))]) bs=some os:=cT (cT (iE Cg))
  have lt:Sx.look (L++ [(bs,os)]++ [(bt,ot)]++ [(br,bh bs bt (.slice none 0 0))]) bt=some ot:=cT (iE Rm)
  have lr:Sx.look (L++ [(bs,os)]++ [(bt,ot)]++ [(br,bh bs bt (.slice none 0 0))]) br=some (bh bs bt (.slice none 0 0)):=iE dy
  have dT:New w.heap.size (L++ [(bs,os)]++ [(bt,ot)]++ [(br,bh bs bt (.slice none 0 0))]):=((hN.app (show New w.heap.size [(bs,os)] from⟨hws,trivial⟩)).app (show New w.heap.size [(bt,ot)] from⟨hwt,trivial⟩)).app (show New w.heap.size [(br,bh bs bt (.slice none 0 0))] from⟨g6,trivial⟩)
  have c1:bs<bt:=ae Rm (by rw[aZ];simp[keys])
  have c2:bt<br:=ae dy (by rw[aZ];simp[keys])
  have c3:bd<bs:=ae Cg (bX jY)
  have c4: ∀j,j<k→d j<bs:=fun j hj=>ae Cg (bX (c_ j hj).1)
  have c5:bm<bs:=ae Cg (bX jZ)
  generalize L++ [(bs,os)]++ [(bt,ot)]++ [(br,bh bs bt (.slice none 0 0))]=L1 at*
  refine ko @kM ?_
  refine Ow.mapUpdateG (encK:=vs) (encV:=ao) (k:=gD k) (v:=some br) rfl rfl underlying166 j0 rfl rfl rfl (up _ _ jZ) hM (fun o2 gG=> ?_)
  rw[Ep (xG aG (ag _))] at gG
  have ne: ∀b x,b≠bm→Sx.look L1 b=some x→Sx.look (setB L1 bm o2) b=some x:=fun b x h1 h2=>by rw[du (Ne.symm h1)];exact h2
  refine ko @kM ?_
  refine ky @kM ?_
  refine Again.mk ⟨setB L1 bm o2,o2,k+1,fun j=>if j=k then br else d j,fun j=>if j=k then bs else s j,fun j=>if j=k then bt else t j⟩ (by show 3 - (k+1)<3 - k;omega) ⟨aG,iI (up _ _ jZ), ?_,ne _ _ oM (up _ _ jY),New.of_le fun q hq=>dT.le q (by rwa [ni] at hq),fun j hj=> ?_⟩ rfl rfl
  ·show dg vs ao o2 (pz (fun j=>if j=k then br else d j) (k+1))
   unfold pz
   rw[Uu (d:=d) fun j hj=>if_neg oM,if_pos rfl]
   exact gG
  show Sx.look (setB L1 bm o2) (if j=k then br else d j)=some (bh (if j=k then bs else s j) (if j=k then bt else t j) (.slice none 0 0))∧mtM (setB L1 bm o2) (if j=k then bs else s j)∧mtM (setB L1 bm o2) (if j=k then bt else t j)∧(if j=k then bs else s j)< (if j=k then bt else t j)∧(if j=k then bt else t j)< (if j=k then br else d j)∧bd< (if j=k then bs else s j)∧ ∀i,i<j→(if i=k then br else d i)< (if j=k then bs else s j)
  by_cases e:j=k
  ·subst e
   simp only[if_pos]
   refine⟨ne _ _ oM lr,⟨os,ne _ _ oM ls,Yt⟩,⟨ot,ne _ _ oM lt,Yu⟩,c1,c2,c3,fun i hi=> ?_⟩
   rw[if_neg oM];exact c4 i hi
  simp only[if_neg e]
  have eT:j<k:=by have:j<k+1:=hj;omega
  obtain⟨q1,⟨oo,q2,q3⟩,⟨oo2,q4,q5⟩,q6,q7,q8,q9⟩:=c_ j eT
  refine⟨ne _ _ oM (up _ _ q1),⟨oo,ne _ _ oM (up _ _ q2),q3⟩,⟨oo2,ne _ _ oM (up _ _ q4),q5⟩,q6,q7,q8,fun i hi=> ?_⟩
  rw[if_neg oM];exact q9 i hi
 obtain rfl:k=3:=by omega
 have d1:decide (((3:Nat):Int)<3)=false:=rfl
 refine ky (aN @kM @d1) ?_
 refine⟨_,(ke @kM), ?_⟩
 obtain⟨a1,a2,a3,a4,a5,a6,a7⟩:=c_ 0 oM
 obtain⟨b1,b2,b3,b4,b5,b6,b7⟩:=c_ 1 oM
 obtain⟨c1,c2,c3,c4,c5,c6,c7⟩:=c_ 2 oM
 have b8:=b7 0 oM
 have c8:=c7 1 oM
 refine⟨Ext.of_new hN,⟨bd,bm,d,s,t,fun _=> .slice none 0 0,[]⟩,rfl,jY,⟨o,jZ,hM⟩,fun k hk=>(c_ k hk).1,fun k hk=> ?_,fun k hk=> ?_,fun k hk=>⟨[],rfl,Gr.nl,fun i hi=>absurd hi (Nat.not_lt_zero _)⟩,fun n hn=>absurd hn (Nat.not_lt_zero _),rfl,List.nodup_nil, ?_, ?_,fun k hk=> ?_,fun i j hi hj kr b hb=>(by cases hb), ?_⟩
 ·obtain⟨x,y,z⟩:=(c_ k hk).2.1
  exact⟨x,[],y,z,List.Perm.nil⟩
 ·obtain⟨x,y,z⟩:=(c_ k hk).2.2.1
  exact⟨x,[],y,z,List.Perm.nil⟩
 ·show [s 0,s 1,s 2,t 0,t 1,t 2].Nodup
  simp only[List.nodup_cons,List.mem_cons,List.not_mem_nil,not_or,or_false,List.nodup_nil,and_true,not_false_eq_true]
  refine⟨⟨?_, ?_, ?_, ?_, ?_⟩,⟨?_, ?_, ?_, ?_⟩,⟨?_, ?_, ?_⟩,⟨?_, ?_⟩, ?_⟩<;>omega
 ·show [d 0,d 1,d 2].Nodup
  simp only[List.nodup_cons,List.mem_cons,List.not_mem_nil,not_or,or_false,List.nodup_nil,and_true,not_false_eq_true]
  refine⟨⟨?_, ?_⟩, ?_⟩<;>omega
 ·have:=(c_ k hk).2.2.2
  show bm≠s k∧bm≠t k
  omega
 exact⟨fun _ _=>List.Pairwise.nil,fun _ _=>List.Pairwise.nil,fun _ _ p hp=>(by cases hp),fun _ _ p hp=>(by cases hp),fun _ _ c hc=>(by cases hc),fun f hf=>(by cases hf),⟨show(-9223372036854775808:Int)≤0 by decide,show(0:Int)<9223372036854775808 by decide,fun _=>show(0:Int)≤0 by decide⟩,hq⟩
structure FiL where
 dir:List UInt8
 name:List UInt8
 data:List UInt8
def jo (S:DiskL) (f:FiL):DiskL:=match av f.dir with
 |some k=>if cN f.name=true∧f.data.length≤1048576 then eB (eP S ⟨f.data,f.data.length⟩) k ⟨fm (S.dir k).seen (f.name,S.files.length),(S.dir k).stl,(S.dir k).pend⟩ else S
 |none=>S
def setV (S:DiskL) (vis:List Nat):DiskL:={S with dir:=fun k=>if k∈vis then⟨(S.dir k).seen,(S.dir k).seen,[]⟩ else S.dir k}
def ofD (quota:Int) (l:List FiL):DiskL:=setV (l.foldl jo (cq quota)) [0,1,2]
end Go.Proofs
end
section
namespace Go.Proofs
open Go Go.Sx Go.StP Go.Shelf
def keysL_ren:Go.Shelf.Ren:=⟨fun|7=>163|10=>215|n=>n,fun|23=>173|26=>9|3=>178|28=>278|0=>0|27=>277|33=>188|4=>4|n=>n,fun|n=>n⟩
def keysL:Go.Proofs.SlLaysZ.n7 prog keysL_ren:={
 mixed:=by kernel_rfl
 f7:=⟨Tryz.f163.name,by decide,Tryz.func163.trans (congrArg some kR)⟩
 f10:=⟨Tryz.f215.name,by decide,Tryz.func215.trans (congrArg some kR)⟩
 t0:=underlying0
 a0:=isAgg0
 z0:=sizeOf0
 v0:=zeroValue0
 t4:=underlying4
 a4:=isAgg4
 z4:=sizeOf4
 v4:=zeroValue4
 t23:=underlying173
 a23:=isAgg173
 z23:=sizeOf173
 v23:=zeroValue173
 t26:=underlying9
 a26:=isAgg9
 z26:=sizeOf9
 v26:=zeroValue9
 t27:=underlying277
 a27:=isAgg277
 z27:=sizeOf277
 v27:=zeroValue277
 t28:=underlying278
 a28:=isAgg278
 z28:=sizeOf278
 v28:=zeroValue278
 t33:=underlying188
 a33:=isAgg188
 z33:=sizeOf188
 v33:=zeroValue188}
def sortedL_ren:Go.Shelf.Ren:=⟨fun|6=>162|8=>213|9=>214|11=>251|13=>212|12=>252|23=>249|24=>250|14=>286|15=>287|16=>288|17=>289|18=>290|19=>291|20=>292|21=>293|22=>294|25=>311|26=>282|27=>283|28=>312|29=>313|30=>190|31=>321|n=>n,fun|26=>9|28=>278|24=>179|0=>0|3=>3|37=>253|48=>250|50=>296|4=>4|40=>352|39=>351|45=>356|5=>5|9=>9|51=>382|55=>386|57=>403|58=>404|33=>188|n=>n,fun|n=>n⟩
def sortedL:Go.Proofs.SlLaysZ.n6 prog sortedL_ren:={
 mixed:=by kernel_rfl
 f6:=⟨Tryz.f162.name,by decide,Tryz.func162.trans (congrArg some kR)⟩
 f8:=⟨Tryz.f213.name,by decide,Tryz.func213.trans (congrArg some kR)⟩
 f11:=⟨Tryz.f251.name,by decide,Tryz.func251.trans (congrArg some kR)⟩
 t0:=underlying0
 a0:=isAgg0
 z0:=sizeOf0
 v0:=zeroValue0
 t24:=underlying179
 a24:=isAgg179
 z24:=sizeOf179
 v24:=zeroValue179
 t26:=underlying9
 a26:=isAgg9
 z26:=sizeOf9
 v26:=zeroValue9
 t28:=underlying278
 a28:=isAgg278
 z28:=sizeOf278
 v28:=zeroValue278
 i26:=by kernel_rfl}
def sortL_ren:Go.Shelf.Ren:=⟨fun|6=>214|8=>212|9=>252|19=>249|20=>250|21=>286|22=>287|23=>288|24=>289|25=>290|26=>291|27=>292|28=>293|29=>294|36=>311|31=>282|32=>283|37=>312|38=>313|39=>190|41=>321|n=>n,fun|27=>179|29=>9|3=>3|32=>253|26=>179|0=>0|44=>250|46=>296|4=>4|36=>352|35=>351|41=>356|5=>5|9=>9|53=>382|57=>386|63=>403|64=>404|n=>n,fun|n=>n⟩
def sortL:Go.Proofs.SlLaysM.n6 prog sortL_ren:={
 mixed:=by kernel_rfl
 f6:=⟨Tryz.f214.name,by decide,Tryz.func214.trans (congrArg some kR)⟩
 f8:=Tryz.func212.trans (congrArg some kR)
 f9:=⟨Tryz.f252.name,by decide,Tryz.func252.trans (congrArg some kR)⟩
 f19:=Tryz.func249.trans (congrArg some kR)
 f20:=Tryz.func250.trans (congrArg some kR)
 f21:=⟨Tryz.f286.name,by decide,Tryz.func286.trans (congrArg some kR)⟩
 f22:=⟨Tryz.f287.name,by decide,Tryz.func287.trans (congrArg some kR)⟩
 f23:=⟨Tryz.f288.name,by decide,Tryz.func288.trans (congrArg some kR)⟩
 f24:=⟨Tryz.f289.name,by decide,Tryz.func289.trans (congrArg some kR)⟩
 f25:=⟨Tryz.f290.name,by decide,Tryz.func290.trans (congrArg some kR)⟩
 f26:=⟨Tryz.f291.name,by decide,Tryz.func291.trans (congrArg some kR)⟩
 f27:=⟨Tryz.f292.name,by decide,Tryz.func292.trans (congrArg some kR)⟩
 f28:=⟨Tryz.f293.name,by decide,Tryz.func293.trans (congrArg some kR)⟩
 f29:=⟨Tryz.f294.name,by decide,Tryz.func294.trans (congrArg some kR)⟩
 f31:=Tryz.func282.trans (congrArg some kR)
 f32:=Tryz.func283.trans (congrArg some kR)
 f36:=⟨Tryz.f311.name,by decide,Tryz.func311.trans (congrArg some kR)⟩
 f37:=⟨Tryz.f312.name,by decide,Tryz.func312.trans (congrArg some kR)⟩
 f38:=⟨Tryz.f313.name,by decide,Tryz.func313.trans (congrArg some kR)⟩
 f39:=⟨Tryz.f190.name,by decide,Tryz.func190.trans (congrArg some kR)⟩
 f41:=⟨Tryz.f321.name,by decide,Tryz.func321.trans (congrArg some kR)⟩
 t0:=underlying0
 a0:=isAgg0
 z0:=sizeOf0
 v0:=zeroValue0
 t3:=underlying3
 a3:=isAgg3
 z3:=sizeOf3
 v3:=zeroValue3
 t4:=underlying4
 a4:=isAgg4
 z4:=sizeOf4
 v4:=zeroValue4
 t5:=underlying5
 a5:=isAgg5
 z5:=sizeOf5
 v5:=zeroValue5
 t9:=underlying9
 a9:=isAgg9
 z9:=sizeOf9
 v9:=zeroValue9
 t26:=underlying179
 a26:=isAgg179
 z26:=sizeOf179
 v26:=zeroValue179
 t27:=underlying179
 a27:=isAgg179
 z27:=sizeOf179
 v27:=zeroValue179
 t29:=underlying9
 a29:=isAgg9
 z29:=sizeOf9
 v29:=zeroValue9
 t32:=underlying253
 a32:=isAgg253
 z32:=sizeOf253
 v32:=zeroValue253
 t35:=underlying351
 a35:=isAgg351
 z35:=sizeOf351
 v35:=zeroValue351
 t36:=underlying352
 a36:=isAgg352
 z36:=sizeOf352
 v36:=zeroValue352
 t41:=underlying356
 a41:=isAgg356
 z41:=sizeOf356
 v41:=zeroValue356
 t44:=underlying250
 a44:=isAgg250
 z44:=sizeOf250
 v44:=zeroValue250
 t46:=underlying296
 a46:=isAgg296
 z46:=sizeOf296
 v46:=zeroValue296
 t53:=underlying382
 a53:=isAgg382
 z53:=sizeOf382
 v53:=zeroValue382
 t57:=underlying386
 a57:=isAgg386
 z57:=sizeOf386
 v57:=zeroValue386
 t63:=underlying403
 a63:=isAgg403
 z63:=sizeOf403
 v63:=zeroValue403
 t64:=underlying404
 a64:=isAgg404
 z64:=sizeOf404
 v64:=zeroValue404}
open Go.RowKit Go.Maps Go.Sort
def Pd (m:Nat):AnyZ.SortsIn prog sortedL_ren Fence.wide m:=
 ⟨fun blk off cap ss W hH Rk e8=>callsIn_wide.2 (AnyM.slices_Sort_string sortL blk off cap ss W hH Rk e8),
 fun p cap W=>callsIn_wide.2 (AnyM.slices_Sort_string_none sortL p cap W)⟩
def Jb {a b:List UInt8} (h:ltB a b=true):leB a b=true:=by
 rw[tu,decide_eq_true_eq] at h
 simp only[leB,decide_eq_true_eq]
 exact List.le_of_lt h
def LN {l:NmL} (h:SrtN l) {ss:List (List UInt8)} (hp:ss.Perm (l.map Prod.fst)):ss.mergeSort (fun x y=>decide (x≤y))=l.map Prod.fst:=by
 show ss.mergeSort leB=_
 rw[mergeSort_of_perm hp]
 refine List.mergeSort_of_pairwise ?_
 exact List.pairwise_map.2 (h.imp fun h=>Jb h)
def PO {W:World} {base n:Nat} {T:TypeId} {v:Value} {xs:List Value} (h:W.ownsRow base T 1 v n xs): ∃D:aA,(∀p,p∈D→W.heap[p.1]? =some p.2∧base≤p.1)∧(keys D).Nodup∧Gr D T 1 v n xs:=by
 obtain⟨hl,h⟩:=h
 rcases h with⟨rfl,rfl⟩ | ⟨g,cap,cur,rfl,hb,hg,hc,hm,hs,ht⟩
 ·obtain rfl:xs= []:=List.eq_nil_of_length_eq_zero (by simpa using hl)
  exact⟨[],fun p hp=>(by cases hp),List.nodup_nil,Gr.nl⟩
 refine⟨[(g, .cells cur T (0,0))], ?_,by simp[keys], ?_⟩
 ·intro p hp
  simp only[List.mem_singleton] at hp
  subst hp
  exact⟨hg,hb⟩
 by_cases h0:0<cap
 ·refine .inl (Buf.at_ (rest:=cur.toList.drop (n*1)) ?_ hl ?_ hc h0)
  ·rw[←ht,List.take_append_drop]
   simp[Sx.look]
  rw[List.length_drop,Array.length_toList,hs];omega
 obtain rfl:cap=0:=by omega
 obtain rfl:n=0:=by omega
 refine .inr ⟨rfl,List.eq_nil_of_length_eq_zero (by simpa using hl),g,rfl, ?_⟩
 have:cur= #[]:=Array.eq_empty_of_size_eq_zero (by simpa using hs)
 simp[Sx.look,this]
def RN (_:Value):Option (DataW Unit×List MemPlace):=some (.nil,[])
def OJ {w:World} {b:Nat} {o:Obj} {m:List (List UInt8×Option Nat)} (ho:w.heap[b]? =some o) (hM:dg vs ao o m) (hn: (m.map Prod.fst).Nodup) (hk: ∀p,p∈m→p.1.length≤1000000) (hs:m.length≤1000000):
  ∃D0:DataW Unit,w.ownsMap prog 9 RN b m.length D0∧Maps.size D0≤1000000∧(strKeys D0).Perm (m.map Prod.fst):=by
 obtain⟨es,clock,rfl,he,hb⟩:=hM
 have aR:es.size=m.length:=by have:=congrArg List.length he;simpa using this
 have se:es.toList.map (·.key)=m.map fun p=>vs p.1:=by
  have:=congrArg (List.map Prod.fst) he
  simpa [g8,Function.comp_def] using this
 have bv: ∀x,x∈es.toList→ ∃s:List UInt8,x.key=vs s∧s.length≤1000000:=by
  intro x hx
  have:x.key∈m.map fun p=>vs p.1:=by rw[←se];exact List.mem_map.2 ⟨x,hx,rfl⟩
  obtain⟨p,hp,e⟩:=List.mem_map.1 this
  exact⟨p.1,e.symm,hk p hp⟩
 have Ae: ∀x,x∈es.toList→ ∀s:List UInt8,x.key=vs s→s.length≤1000000→WideElems.rd prog 9 RN x=some (.string s, .nil):=by
  intro x hx s hs hl
  have hL:s.length≤maxLen:=Nat.le_trans hl (by decide)
  have Ys: (ByteArray.mk s.toArray).size≤maxLen:=hL
  simp[WideElems.rd,keyOf,underlying9,mapKey,hs,RN,vs,Ys]
 have ee:=List.pairwise_append.1 hb
 refine⟨_,⟨es,clock,ho,⟨?_,⟨?_, ?_, ?_⟩, ?_⟩,by omega,rfl⟩, ?_, ?_⟩
 ·rw[aR];exact Nat.le_trans hs (by decide)
 ·intro x hx
  exact ee.2.2 x.born (List.mem_map.2 ⟨x,hx,rfl⟩) clock (by simp)
 ·exact ee.1.imp fun h=>Nat.ne_of_lt h
 ·rw[se]
  have: (m.map Prod.fst).map vs=m.map fun p=>vs p.1:=by simp[Function.comp_def]
  rw[←this]
  refine List.pairwise_map.2 (hn.imp fun h e=>h ?_)
  simpa [vs] using e
 ·intro x hx
  obtain⟨s,e,hl⟩:=bv x hx
  exact⟨_,Ae x hx s e hl⟩
 ·rw[Maps.size_eq,(WideShapes.sorted_perm _).length_eq,List.length_map,Array.length_toList,aR];exact hs
 show(List.map (fun p:Lit×DataW Unit=>strOf p.1) _).Perm _
 refine((WideShapes.sorted_perm _).map _).trans (List.Perm.of_eq ?_)
 rw[List.map_map]
 refine List.map_congr_left ?_|>.trans (?_:es.toList.map (fun x=>match x.key with| .string s=>s.data.toList|_=> [])=_)
 ·intro x hx
  obtain⟨s,e,hl⟩:=bv x hx
  simp only[Function.comp]
  rw[WideElems.rg_of (Ae x hx s e hl),e]
  rfl
 have:es.toList.map (fun x=>match x.key with| .string s=>s.data.toList|_=> [])=(es.toList.map (·.key)).map (fun k=>match k with| .string s=>s.data.toList|_=> []):=by rw[List.map_map];rfl
 rw[this,se,List.map_map]
 rfl
def F2 (X:aA) (G:DkG) (S:DiskL) (k c:Nat) (w:World) (hP:DkP X G S) (hX: ∀b o,Sx.look X b=some o→w.heap[b]? =some o) (hk:k<3) (hs: (S.dir k).seen.length≤1000000) (hl: ∀p,p∈ (S.dir k).seen→p.1.length≤1000000)
  (hc:w.heap[c]? =some (.cells #[vm (G.s k)] 173 (0,0))):
  Rets prog 162 #[.func (.func 215) #[] #[vp c 0]] w (XS w [] (fun v D=>GrI D 9 1 v (S.dir k).seen.length ((S.dir k).seen.map fun p=>vs p.1))):=by
 obtain⟨o,m,h1,h2,h3⟩:=hP.seen k hk
 have ho:=hX _ _ h1
 have aR:m.length=(S.dir k).seen.length:=by have:=h3.length_eq;simpa using this
 have Zk: ∀p,p∈m→p.1.length≤1000000:=by
  intro p hp
  have:=h3.mem_iff.1 hp
  obtain⟨q,hq,e⟩:=List.mem_map.1 this
  rw[←e];exact hl q hq
 obtain⟨D0,Sz,e8,gm⟩:=OJ ho h2 (h3.keys (hP.ok.seen k hk).nodup) Zk oM
 have pC:=(Array.getElem?_eq_some_iff.1 hc).1
 have TH:SeqGives Fence.wide 2 prog 215 #[.pointer (some ⟨c,0,none⟩)] encStr (fun ss=>ss.Perm (strKeys D0)) (Maps.size D0) w:=
  AnyZ.keys_gives (ρ:=keysL_ren) {keysL with} Fence.wide _ trivial rfl oM c (G.s k) m.length D0 _ pC (by simp[World.cell?,hc,vm]) Sz
 have h:=AnyZ.sorted_in sortedL Fence.wide 5 trivial trivial trivial trivial rfl oM (Pd _) (enters_of func214 kR rfl) 215 #[.pointer (some ⟨c,0,none⟩)] trivial (enters_of func215 kR rfl) _ (Maps.size D0) (Nat.le_trans e8 (by decide)) oM w TH
 refine Calls.mono (callsIn_wide.1 h) ?_
 rintro e w' ⟨v,ss,rfl,hS,TD,-,hb⟩
 obtain⟨D,hD,Yh,hG⟩:=PO TD
 have W6:ss.mergeSort (fun x y=>decide (x≤y))=(S.dir k).seen.map Prod.fst:=by
  refine LN (hP.ok.seen k hk) ((hS.trans gm).trans ?_)
  have:=h3.map Prod.fst
  refine this.trans (List.Perm.of_eq ?_)
  rw[List.map_map];rfl
 have cA:ss.length=(S.dir k).seen.length:=by
  have:=congrArg List.length W6
  simpa using this
 refine⟨v,D,rfl,⟨fun b o hm=>(hD _ hm).1,Yh,fun b dI _=>hb.block b dI,hb.size,hb.tape,hb.os,hb.output⟩,⟨fun b dI=> ?_,fun b dI=>(by cases dI)⟩,⟨D,fun _ h=>h, ?_⟩⟩
 ·obtain⟨p,hp,rfl⟩:=List.mem_map.1 dI
  exact .inr (hD p hp).2
 rw[W6,cA] at hG
 have: ((S.dir k).seen.map Prod.fst).map encStr=(S.dir k).seen.map fun p=>vs p.1:=by rw[List.map_map];rfl
 rw[this] at hG
 exact hG
end Go.Proofs
end
section
open Go Go.Proofs Go.Sx Go.StP
namespace Go.Proofs
def H' (b:Nat) (w:World):
  Rets prog 163 #[vm b] w (XS w [] (fun v' D=> ∃b1,v'= .func (.func 215) #[] #[vp b1 0]∧D= [(b1, .cells #[vm b] 173 (0,0))])):=by
 refine Rets.enter func163 rfl (rs:= [.tmp 2]) results163 ntmps163 ?_
 refine kf ?_
 refine ky @Nat.add_zero ?_
 refine Ow.box rfl rfl fun b1 aP aY=> ?_
 simp only[df,dC,vm,List.nil_append]
 refine ko @Nat.add_zero ?_
 refine⟨_,(ke @Nat.add_zero), ?_⟩
 exact⟨⟨fun c hc=>(by simp only[keys,List.map_cons,List.map_nil,List.mem_singleton] at hc;exact .inr (hc▸aY)),fun c hc=>(by cases hc)⟩,b1,by simp[bw,ev,dZ],rfl⟩
def DkB (S:DiskL):Prop:= ∀k,k<3→(S.dir k).seen.length≤1000000∧ ∀p,p∈ (S.dir k).seen→p.1.length≤1000000
def m8 (S:DiskL) (dir:List UInt8):List (List UInt8):=if cF S dir []≠0 then [] else(S.dir ((av dir).getD 0)).seen.map Prod.fst
def np:=aN (aN (aN @bq @bl) (aN @l9 @mq)) (aN (aN @mj @ml) (aN @Sx.tup2_0 (aN @Sx.tup2_1 @tv)))
def Ig (w:World) (G:DkG) (S:DiskL) (dir:List UInt8) (hD:DkW w G S) (hB:DkB S):
  Rets prog 93 #[vp G.bd 0,vs dir] w (XS w [] (fun v D=>GrI D 9 1 v (m8 S dir).length ((m8 S dir).map vs))):=by
 have RB:=hD
 obtain⟨X,hX,hP⟩:=hD
 refine Rets.enter func93 rfl (rs:= [.tmp 4]) results93 ntmps93 ?_
 refine kf ?_
 refine ky @np ?_
 have dT:New w.heap.size ([]:aA):=trivial
 refine Ow.callC rfl rfl call151 (fun w' aB=>Rets.toX (rA w' G S dir (.slice none 0 0) [] (RB.old aB dT) (SlV.nil w') (by simp) (fun s hs=>by cases hs))) (fun B2 v2 D2 cU cX d7 an=> ?_)
 obtain⟨rfl,an⟩:=an
 rw[List.append_nil]
 unfold m8
 rcases an with⟨he,rfl⟩ | ⟨he,k,hk,rfl⟩
 ·rw[if_pos he]
  have e1:=lH he
  refine ko @np ?_
  refine ky (aN @np @e1) ?_
  refine⟨_,(ke @np), ?_⟩
  exact⟨Ext.refl w [],Gr.nl.i fun _ h=>h⟩
 rw[if_neg (by rw[he];simp),hk]
 have am:=(cw hk).1
 have gh:=hX _ _ (hP.dir k am)
 have e1: ((0:Int) !=0)=false:=rfl
 refine ko @np ?_
 refine ky (aN @np (aN @e1 @gh)) ?_
 refine Ow.callC rfl rfl call163 (fun w' aB=>H' (G.s k) w') (fun B3 v3 D3 e_ jA iP jD=> ?_)
 obtain⟨b1,rfl,rfl⟩:=jD
 rw[List.nil_append]
 have ow:=iP.mono jA
 refine ko @np ?_
 refine Ow.callC rfl rfl call162 (fun w' aB=>F2 X G S k b1 w' hP (fun b o h=>(aB.old b (Array.getElem?_eq_some_iff.1 (hX b o h)).1 (ow.not (Array.getElem?_eq_some_iff.1 (hX b o h)).1)).trans (hX b o h)) am (hB k am).1 (hB k am).2 (aB.has _ _ ah)) (fun B4 v4 D4 gP nF mG bE=> ?_)
 refine ko @np ?_
 refine⟨_,(ke @np), ?_⟩
 refine⟨Ext.of_new (ow.app (mG.mono nF)), ?_⟩
 rw[List.length_map,List.map_map]
 exact bE.mono fun p hp=>aq _ hp
def KR {S:DiskL} {k:Nat} (hk:k<3):m8 S (gD k)=(if S.off=true then [] else(S.dir k).seen).map Prod.fst:=by
 unfold m8 cF
 rw[qz hk]
 cases S.off<;>simp
def JH (l:List (List UInt8)): (l.map strC).flatten=l.map vs:=by
 induction l with
 |nil=>rfl
 |cons x l ih=>simp[strC,ih]
def R3 (b:Nat):ac prog .eql 173 (vm b) (.map none)=some (.bool false):=by
 simp[ac,eqX,eM,eX,underlying173,vm]
def Hf (b:Nat) (o:Obj) (m:List (List UInt8×Option Nat)) (w:World) (ho:w.heap[b]? =some o) (hm:dg vs ao o m):
  Rets prog 92 #[vm b] w (XS w [] (fun v D=> ∃c o',v=vm c∧D= [(c,o')]∧dg vs ao o' m)):=by
 refine Rets.enterX func92 rfl (rs:= [.tmp 2]) results92 ntmps92 (fun p hp=>by cases hp) (by simp[keys]) ?_
 refine kf ?_
 have e1:=R3 b
 refine ky @e1 ?_
 refine Ow.ifaceMap rfl underlying173 rfl ?_
 refine Ow.cloneMap (encK:=vs) (encV:=ao) rfl rfl (fun a w=>run_callFunc_extern func161 kR kR kR (e:=Extern.MapsClone.clone) kR #[a] w) rfl (by rw[lA (by simp[keys])];exact ho) hm fun c o' hc hwc eJ=> ?_
 refine Ow.assertMap rfl underlying173 rfl ?_
 refine ko @Nat.add_zero ?_
 refine⟨_,(ke @Nat.add_zero), ?_⟩
 exact⟨(Ext.refl w []).app hwc,c,o',rfl,rfl,eJ⟩
def u16C (x:UInt16):List Value:= [v16 x]
def Mi (x:UInt16): (u16C x).length=1:=rfl
abbrev s9 (w:World) (v:Value) (l:List UInt16):Prop:=SlV 1 u16C 0 w v l
def PkS (w:World) (v:Value) (l:List UInt16):Prop:=s9 w v l∨(l= []∧ ∃a c,v= .slice (some a) 0 c)
theorem PkS.len {w:World} {v:Value} {l:List UInt16} (h:PkS w v l) (x:Bool×Nat):eF (.sl x) v=some (vi l.length):=by
 rcases h with h| ⟨rfl,a,c,rfl⟩
 ·exact SlV.len h x
 rfl
def PkS.cell {w:World} {v:Value} {l:List UInt16} (h:PkS w v l):Value.oneCell' v=true∧v.cells= #[v]:=by
 rcases h with⟨b,off,c,arr,E,fz,hr,hc,⟨rfl,-,-⟩ | ⟨rfl,-,-⟩⟩ | ⟨rfl,a,c,rfl⟩
 ·exact⟨rfl,rfl⟩
 ·exact⟨rfl,rfl⟩
 exact⟨rfl,rfl⟩
theorem PkS.old {w w':World} {L:aA} {v:Value} {l:List UInt16} (h:PkS w v l) (hw:Hp w L w') (hb:l≠ []→ ∀b,slB v=some b→b∉keys L):PkS w' v l:=by
 by_cases hl:l= []
 ·subst hl
  rcases h with⟨b,off,c,arr,E,fz,hr,hc,⟨rfl,-,-⟩ | ⟨rfl,-,-⟩⟩ |h
  ·exact .inl (SlV.nil w')
  ·exact .inr ⟨rfl,_,_,rfl⟩
  exact .inr h
 exact .inl ((h.resolve_right fun e=>hl e.1).old hw fun b h1 _=>hb hl b h1)
def PkB (w:World) (X:aA) (l:List UInt16) (v:Value):Prop:=l≠ []→ ∀b,slB v=some b→b<w.heap.size∧b∉keys X
def OB {w:World} {v:Value} {l:List UInt16} {b off:Nat} {arr:Array Value} {E:TypeId} {fz:Nat×Nat} (h:RowS 1 u16C 0 w v l b off arr E fz) {k:Nat} (hk:k<l.length) (n:Nat):
  ak (some (false,n)) (some (.cells arr E fz)) (off+k)=some (v16 (l.getD k 0)):=by
 have:=h.cell (j:=0) (n:=n) hk oM
 rwa [Nat.mul_one,Nat.add_zero] at this
def gu (l:List UInt16) (n:Nat):Nat:=match l with
 | []=>0
 |x::_=>x.toNat% (n+1)
def cM (v:Value):Obj:= .cells #[v] 65 (0,0)
def xb (v:Value) (n:Nat):ak (some (false,n)) (some (cM v)) 0=some v:=(rfl)
def Kl (v x:Value) (a:Bool) (hx:Value.oneCell' x=true∧x.cells= #[x]):bM (some (a,1)) (some (cM v)) 0 x=some (cM x):=
 lB [] [v] [x] [] a _ 65 rfl rfl hx.2 rfl (by simp[hx.1])
def PE {m:Nat} {α:Type} {enc:α→List Value} {z:α} {w:World} {v:Value} {l:List α} (h:SlV m enc z w v l):Value.oneCell' v=true∧v.cells= #[v]:=by
 obtain⟨b,off,c,arr,E,fz,hr,hc,⟨rfl,-,-⟩ | ⟨rfl,-,-⟩⟩:=h
 ·exact⟨rfl,rfl⟩
 exact⟨rfl,rfl⟩
def oJ:=aN @bq (aN @bl @xb)
def UU (n:Nat) (b:Nat) (v:Value) (l:List UInt16) (w:World) (hn:n<4611686018427387904) (hv:PkS w v l) (hl:l.length<1000000) (Cs:l≠ []→slB v≠some b) (ho:w.heap[b]? =some (cM v)):
  Rets prog 91 #[vi n,vp b 0] w (fun r D=> ∃o,D= [(b,o)]∧r=vi (gu l n:Nat)∧ ∃v',o=cM v'∧(l= []→v'=v)∧(l≠ []→g7 (.sl (false,1)) v (some (some 1)) none=some v')):=by
 refine Rets.enterM func91 rfl (rs:= [.tmp 3]) results91 ntmps91 ho ?_
 refine kf ?_
 have ln:=hv.len
 cases l with
 |nil=>
  refine ky (aN @oJ @ln) ?_
  refine⟨_,_,_,(ke @oJ),rfl,trivial, ?_⟩
  exact⟨rfl,v,rfl,fun _=>rfl,fun h=>absurd rfl h⟩
 |cons x l=>
  have hv:s9 w v (x::l):=hv.resolve_right fun e=>by cases e.1
  obtain⟨v1,h1,h2,-⟩:=hv.dropE (k:=1) (by simp) false
  have cV:=PE h2
  have st:=fun a=>Kl v v1 a cV
  obtain⟨rb,off,c,arr,E,fz,hr,hc,⟨q1,q2,q3⟩ | ⟨rfl,hb,-⟩⟩:=hv
  ·exact absurd q2 (by simp)
  have aQ:rb≠b:=fun e=>Cs (by simp) (by rw[e];rfl)
  have ix:=hr.idx false 0 (by simp)
  have ld:=fun n=>OB hr (k:=0) (by simp) n
  have e0: ((((x::l).length:Nat):Int)==0)=false:=beq_eq_false_iff_ne.2 (by simp;omega)
  have rd:aS w [(b,cM (vsl rb off (x::l).length c))] rb=some (.cells arr E fz):=by rw[lA (by simpa [keys] using aQ)];exact hb
  rw[Nat.zero_mul,Nat.add_zero] at ix
  rw[show((1:Nat):Int)=1 from rfl] at h1
  simp only[Nat.add_zero] at ld
  refine ky (aN @oJ (aN @ln (aN @e0 (aN @ix (aN @ld (aN @rd (aN @h1 @st))))))) ?_
  refine⟨_,_,_,(ke @oJ),rfl,trivial, ?_⟩
  refine⟨?_,v1,rfl,fun h=>absurd h (by simp),fun _=>h1⟩
  show vi _=vi _
  congr 1
def DkP.stl1 {X L:aA} {G:DkG} {S:DiskL} (h:DkP X G S) {k:Nat} (hk:k<3) {l':NmL} (keep: ∀b o,Sx.look X b=some o→b≠G.t k→Sx.look L b=some o) (hs:NmM L G.fb (G.t k) l') (h1:SrtN l') (h3: ∀p,p∈l'→p.2<S.files.length):
  DkP L G (eB S k ⟨(S.dir k).seen,l',(S.dir k).pend⟩):=by
 obtain⟨osk,msk,sy,sq,-⟩:=h.stl k hk
 have cg: ∀b o,Sx.look X b=some o→tyO o≠none→b≠G.t k:=by
  rintro b o hb ht rfl
  rw[sy] at hb;cases hb;exact ht (iD sq)
 have K: ∀b o,Sx.look X b=some o→tyO o≠none→Sx.look L b=some o:=fun b o hb h1=>keep b o hb (cg b o hb h1)
 have es: ∀j,(eB S k ⟨(S.dir k).seen,l',(S.dir k).pend⟩).dir j=if j=k then⟨(S.dir k).seen,l',(S.dir k).pend⟩ else S.dir j:=fun _=>rfl
 have e2: ∀j,((eB S k ⟨(S.dir k).seen,l',(S.dir k).pend⟩).dir j).seen=(S.dir j).seen:=fun j=>by
  rw[es];by_cases e:j=k
  ·subst e;rw[if_pos rfl]
  rw[if_neg e]
 have e3: ∀j,((eB S k ⟨(S.dir k).seen,l',(S.dir k).pend⟩).dir j).pend=(S.dir j).pend:=fun j=>by
  rw[es];by_cases e:j=k
  ·subst e;rw[if_pos rfl]
  rw[if_neg e]
 refine⟨K _ _ h.disk (by simp[tyO,bA]), ?_,fun j hj=>K _ _ (h.dir j hj) (by simp[tyO,bh]),fun j hj=> ?_,fun j hj=> ?_,fun j hj=> ?_,fun n hn=>K _ _ (h.file n hn) (by simp[tyO,cr]),h.len,h.nodf,h.nodm,h.nodd,h.nodb,h.nodp,BM h.ok _ (h.ok.seen k hk) h1 (h.ok.seenN k hk) h3 (h.ok.pendN k hk)⟩
 ·obtain⟨o,h1,h2⟩:=h.dirs
  exact⟨o,keep _ _ h1 (h.nodb k hk).2,h2⟩
 ·rw[e2]
  obtain⟨o,m,h1,h2,h3⟩:=h.seen j hj
  exact⟨o,m,keep _ _ h1 (nv h.nodm hj hk).2.2,h2,h3⟩
 ·rw[es]
  by_cases e:j=k
  ·subst e;rw[if_pos rfl];exact hs
  rw[if_neg e]
  obtain⟨o,m,h1,h2,h3⟩:=h.stl j hj
  exact⟨o,m,keep _ _ h1 ((nv h.nodm hj hk).2.1 e),h2,h3⟩
 rw[e3]
 obtain⟨vals,h1,h2,h3⟩:=h.pend j hj
 refine⟨vals,h1,h2.keep fun b o hb ho=> ?_,fun i hi=>(h3 i hi).keep fun b o ho hx=>K b o ho ?_⟩
 ·obtain⟨arr,ha⟩:=kS h2 hb
  rw[ho] at ha;cases ha
  exact K _ _ ho (by simp[tyO])
 rcases hx with⟨s,rfl⟩ | ⟨a,rfl⟩<;>simp[tyO,cv,g_]
def ie (S:DiskL) (k:Nat) (d:DirL): (eB S k d).dir k=d:=by
 unfold eB;simp
def j3 (S:DiskL) {k j:Nat} (d:DirL) (h:j≠k): (eB S k d).dir j=S.dir j:=by
 unfold eB;simp[h]
def UD (S:DiskL) (k:Nat) (d d':DirL):eB (eB S k d) k d'=eB S k d':=by
 unfold eB
 simp only
 congr 1
 funext j
 by_cases e:j=k
 ·rw[if_pos e,if_pos e]
 rw[if_neg e,if_neg e,if_neg e]
def sB (d:DirL):Prop:= ∀i,i<d.pend.length→okC ((d.pend.take i).foldl cO d.stl) (d.pend.getD i gr)
def bT (S:DiskL) (k i:Nat):NmL:=((S.dir k).pend.take i).foldl cO (S.dir k).stl
def o9 (q:DiskL×List UInt16) (k:Nat):DiskL×List UInt16:=
 (eB q.1 k ⟨bT q.1 k (gu q.2 (q.1.dir k).pend.length),bT q.1 k (gu q.2 (q.1.dir k).pend.length),[]⟩,q.2.drop 1)
def cZ (q:DiskL×List UInt16):Nat→DiskL×List UInt16
 |0=>q
 |k+1=>o9 (cZ q k) k
def EL (l:List UInt16) (n:Nat):gu l n≤n:=by
 unfold gu
 split
 ·exact cC _
 have:=Nat.mod_lt ‹UInt16›.toNat (show 0<n+1 by omega)
 omega
def I' {S:DiskL} {k i:Nat} (h:i< (S.dir k).pend.length):bT S k (i+1)=cO (bT S k i) ((S.dir k).pend.getD i gr):=by
 unfold bT
 rw[StP.take_snoc (z:=gr) h,List.foldl_append];rfl
def DkP.away {X:aA} {G:DkG} {S:DiskL} (h:DkP X G S) {b:Nat} {v:Value} (hb:Sx.look X b=some (cM v)) (x:Obj):DkP (setB X b x) G S where
 disk:=fU hb h.disk (by simp[tyO,bA,cM])
 dirs:=by obtain⟨o,h1,h2⟩:=h.dirs;exact⟨o,fU hb h1 (by rw[iD h2];intro e;cases e),h2⟩
 dir k bb:=fU hb (h.dir k bb) (by simp[tyO,bh,cM])
 seen k bb:=by
  obtain⟨o,m,h1,h2,h3⟩:=h.seen k bb
  exact⟨o,m,fU hb h1 (by rw[iD h2];intro e;cases e),h2,h3⟩
 stl k bb:=by
  obtain⟨o,m,h1,h2,h3⟩:=h.stl k bb
  exact⟨o,m,fU hb h1 (by rw[iD h2];intro e;cases e),h2,h3⟩
 pend k bb:=by
  obtain⟨vals,h1,h2,h3⟩:=h.pend k bb
  refine⟨vals,h1,h2.keep fun b o dI ho=> ?_,fun i hi=>(h3 i hi).keep fun b o ho hx=>fU hb ho ?_⟩
  ·obtain⟨arr,ha⟩:=kS h2 dI
   rw[ho] at ha;cases ha
   exact fU hb ho (by simp[tyO,cM])
  rcases hx with⟨s,rfl⟩ | ⟨a,rfl⟩<;>simp[tyO,cM,cv,g_]
 file n hn:=fU hb (h.file n hn) (by simp[tyO,cr,cM])
 len:=h.len
 nodf:=h.nodf
 nodm:=h.nodm
 nodd:=h.nodd
 nodb:=h.nodb
 nodp:=h.nodp
 ok:=h.ok
def ws {w:World} {v v':Value} {q:List UInt16} (hv:PkS w v q) (h1:q= []→v'=v) (h2:q≠ []→g7 (.sl (false,1)) v (some (some 1)) none=some v'):PkS w v' (q.drop 1)∧ ∀ {X:aA},PkB w X q v→PkB w X (q.drop 1) v':=by
 cases q with
 |nil=>rw[h1 rfl];exact⟨hv,fun h=>h⟩
 |cons x l=>
  have hv:s9 w v (x::l):=hv.resolve_right fun e=>by cases e.1
  obtain⟨v2,e1,e2,e3⟩:=hv.dropE (k:=1) (by simp) false
  have:=h2 (by simp)
  rw[show((1:Nat):Int)=1 from rfl,this] at e1
  cases e1
  exact⟨.inl e2,fun h _ b hb=>h (by simp) b (e3 b hb)⟩
def Nm {w w1:World} {L:aA} {T:TypeId} {v:Value} {vals:List Value} (h:Gr L T 1 v vals.length vals) (hw:Hp w L w1) {n:Nat} (hn:n≤vals.length):
  ∃vc rb off arr E fz,g7 (.sl (false,1)) v none (some (some (n:Int)))=some vc∧RowS 1 (fun v:Value=> [v]) undef w1 vc (vals.take n) rb off arr E fz∧(0<n→Sx.look L rb=some (.cells arr E fz)):=by
 have dL:vals=(vals.map fun v:Value=> [v]).flatten:=by
  clear h hn
  induction vals with
  |nil=>rfl
  |cons x l ih=>simp[←ih]
 have cA:SlV 1 (fun v:Value=> [v]) undef w1 v vals:=h.slV hw rfl dL (fun _=>rfl)
 obtain⟨vc,h1,h2,h3⟩:=cA.take hn false
 obtain⟨b,off,c,arr,E,fz,hr,hc,⟨q1,q2,q3⟩ | ⟨q1,hb,hs⟩⟩:=h2
 ·refine⟨vc,b,off,arr,E,fz,h1,hr,fun h0=> ?_⟩
  have:=congrArg List.length q2
  rw[List.length_take,List.length_nil,Nat.min_eq_left hn] at this
  omega
 refine⟨vc,b,off,arr,E,fz,h1,hr,fun h0=> ?_⟩
 have hk:=h.key (h3 b (by rw[q1];rfl))
 obtain⟨o,ho⟩:=Bo hk
 have:=hw.has _ _ (cQ ho)
 rw[hb] at this
 rw[ho,this]
def OC {w:World} {v:Value} {l:List Value} {b off:Nat} {arr:Array Value} {E:TypeId} {fz:Nat×Nat} (h:RowS 1 (fun v:Value=> [v]) undef w v l b off arr E fz) {k:Nat} (hk:k<l.length) (n:Nat):
  ak (some (false,n)) (some (.cells arr E fz)) (off+k)=some (l.getD k undef):=by
 have:=h.cell (j:=0) (n:=n) hk oM
 rwa [Nat.mul_one,Nat.add_zero] at this
def Jq (a b y:Nat) (v:Value) (x:Bool):bM (some (x,1)) (some (bh a b v)) 0 (vm y)=some (bh y b v):=lB [] [vm a] [vm y] [vm b,v] x _ 175 rfl rfl rfl rfl rfl
def HR (S:DiskL) (k:Nat):eB S k (S.dir k)=S:=by
 unfold eB
 cases S
 simp only
 congr 1
 funext j
 by_cases e:j=k
 ·subst e;simp
 simp[e]
def dc (q:DiskL×List UInt16) (p:List UInt8×Nat):DiskL×List UInt16:=
 (en q.1 p.2 ⟨(aF q.1 p.2).data.take ((aF q.1 p.2).stl+gu q.2 ((aF q.1 p.2).data.length - (aF q.1 p.2).stl)),((aF q.1 p.2).data.take ((aF q.1 p.2).stl+gu q.2 ((aF q.1 p.2).data.length - (aF q.1 p.2).stl))).length⟩,q.2.drop 1)
def db (q:DiskL×List UInt16):Nat→DiskL×List UInt16
 |0=>q
 |k+1=>(q.1.dir k).seen.foldl dc (db q k)
def j7 (S:DiskL):DiskL:={S with off:=false,fused:=false}
def bc (S:DiskL) (pl:List UInt16):DiskL:=(db (j7 (cZ (S,pl) 3).1,(cZ (S,pl) 3).2) 3).1
def Um (q:DiskL×List UInt16) (l:NmL): (l.foldl dc q).1.dir=q.1.dir:=by
 induction l generalizing q with
 |nil=>rfl
 |cons p l ih=>rw[List.foldl_cons,ih];rfl
theorem uW (q:DiskL×List UInt16): ∀k,(db q k).1.dir=q.1.dir
 |0=>rfl
 |k+1=>by
  show(List.foldl dc (db q k) _).1.dir=_
  rw[Um,uW q k]
def Ii (q:DiskL×List UInt16) (l:NmL): (l.foldl dc q).1.off=q.1.off:=by
 induction l generalizing q with
 |nil=>rfl
 |cons p l ih=>rw[List.foldl_cons,ih];rfl
theorem EA (q:DiskL×List UInt16): ∀k,(db q k).1.off=q.1.off
 |0=>rfl
 |k+1=>by
  show(List.foldl dc (db q k) _).1.off=_
  rw[Ii,EA q k]
structure C3G where
 k:Nat
 L:aA
 v:Value
structure C4G where
 j:Nat
 L:aA
 v:Value
structure C1G where
 k:Nat
 G:DkG
 L:aA
 v:Value
structure C2G where
 j:Nat
 L:aA
theorem E9 (q:DiskL×List UInt16): ∀ {k j:Nat},k≤j→(cZ q k).1.dir j=q.1.dir j
 |0,_,_=>rfl
 |k+1,j,h=>by
  show(eB _ k _).dir j=_
  rw[j3 _ _ oM]
  exact E9 q oM
def eC:=aN (aN (aN @bq @bl) (aN @l9 (aN @mq @mj))) (aN (aN @ml @ud) (aN @uh (aN @xb @ob)))
def Tm (X:aA) (G0:DkG) (S:DiskL) (v0:Value) (pl:List UInt16) (w:World) (hX: ∀p,p∈X→w.heap[p.1]? =some p.2) (hn: (keys X).Nodup) (jV:DkP X G0 S) (Yp:n8 w) (qO:0∉keys X) (hB:DkB (cZ (S,pl) 3).1)
  (WC:PkS w v0 pl) (Z_:PkB w X pl v0) (fc:pl.length<1000000) (Cx: ∀k,k<3→sB (S.dir k)∧(S.dir k).pend.length<1000000):
  Rets prog 49 #[vp G0.bd 0,v0] w (XS w X (fun _v D=> ∃G',G'.bd=G0.bd∧DkP D G' (bc S pl))):=by
 obtain⟨eg,fzg,gi⟩:=Yp
 refine Rets.enterX func49 rfl (rs:= []) results49 ntmps49 hX hn ?_
 refine kf ?_
 refine kz [3] @eC ?_
 refine Ow.box rfl rfl fun bk bG hwk=> ?_
 simp only[df,dC,dW,WC.cell.2]
 refine Ow.permL (M:=X++ [(bk,cM v0)]) (List.Perm.refl _) ?_
 refine ko @eC ?_
 refine kz [3] @eC ?_
 simp only[List.map_toArray,List.map_cons,List.map_nil,df,dC,dW]
 have rdg: ∀L,Ext w X L→aS w L 0=some (.cells #[vs jm,vs jP,vs aJ] eg fzg):=fun L hE=>hE.old gi qO
 have fZ:Ext w X (X++ [(bk,cM v0)]):=(Ext.refl w X).app hwk
 have k5:=rdg _ fZ
 have uF:Sx.look (X++ [(bk,cM v0)]) bk=some (cM v0):=iE bG
 have aj:DkP (X++ [(bk,cM v0)]) G0 S:=jV.mono fun b o h=>cT h
 generalize X++ [(bk,cM v0)]=L0 at*
 refine kz [5,8,12,16] (aN @eC (aN @k5 @Tg)) ?_
 refine Cw.loopG (G:=C1G) [20,21,6,22,23,24,25,26,27,7,28,29,30,31,32,33,34,35,36,37,38,39,40,41,42,43,44,9,45,46,47,48,49,50,51,52,53,54,55,56,57,58,59,60,61,62,63,19] (fun g=> [(19,vi g.k)]) (fun g=>g.L) (fun g=>g.k≤3∧DkP g.L g.G (cZ (S,pl) g.k).1∧g.G.bd=G0.bd∧Sx.look g.L bk=some (cM g.v)∧PkS w g.v (cZ (S,pl) g.k).2∧PkB w X (cZ (S,pl) g.k).2 g.v∧Ext w X g.L∧(cZ (S,pl) g.k).2.length<1000000) (fun g=>3 - g.k) ⟨0,G0,L0,v0⟩ rfl rfl ?_ ?_
 ·exact⟨cC _,aj,rfl,uF,WC,Z_,fZ,fc⟩
 intro g j hg
 refine kv ?_
 clear k5 uF aj fZ
 obtain⟨k,G,L,v⟩:=g
 simp only at hg ⊢
 obtain⟨hk,hP,dU,cJ,hv,Aq,hE,Ad⟩:=hg
 rw[←dU]
 by_cases aG:k<3
 ·have d1:decide ((k:Int)<3)=true:=dR oM
  have ixk:=Ef aG
  obtain⟨om,kw,hM⟩:=hP.dirs
  have bv:=ad (w0:=w) hP.disk
  have DA:=ad (w0:=w) (hP.dir k aG)
  have je:ao (some (G.d k))=vp (G.d k) 0:=rfl
  have sY:=E9 (S,pl) (ag k)
  simp only at sY
  obtain⟨vals,qh,i4,hF⟩:=hP.pend k aG
  rw[sY] at qh hF
  have Zx:=(Cx k aG).2
  have lnp:=i4.len (false,1)
  refine ky (aN @eC (aN @d1 (aN @ixk @bv))) ?_
  refine Ow.mapGetG (encK:=vs) (encV:=ao) (k:=gD k) (z:=none) rfl rfl underlying166 j0 zrPd rfl rfl (ad kw) hM ?_
  rw[EW,qz aG]
  show Ow _ _ _ _ _ _ _ _
  refine ko (aN @eC @je) ?_
  refine ky @eC ?_
  refine Cw.regionS [G.d k] [0,1,2,4,5,6,7,13,3,8,9,10,11,12] [] kR kR kR ?_
  simp only[cR, ↓cS, ↓bz, ↓cG, ↓cH,b_]
  refine kq (aN @eC (aN @DA @lnp)) ?_
  refine Ow.soft rfl rfl rfl ?_
  refine Ow.callFnXC (b:=vi vals.length) (ars:= #[vi vals.length,vp bk 0]) rfl (X:=L) (Y:= []) (List.append_nil _).symm rfl rfl rfl rfl call91 (fun w' aB ab aX=>Rets.chunk ab aX (bX cJ) (UU vals.length bk v (cZ (S,pl) k).2 w' oM (hv.old aB fun hq b hb=>hE.not (Aq hq b hb).1 (Aq hq b hb).2) Ad (fun hq e=>by have:=(Aq hq bk e).1;omega) (ab _ (cQ cJ)))) (fun r D hC hS=> ?_)
  obtain⟨o,rfl,rfl,v',rfl,uO,TR⟩:=hS
  rw[List.append_nil]
  obtain⟨TU,tI⟩:=ws hv uO TR
  have aj:=hP.away cJ (cM v')
  have bN:=hE.came0 hC
  have pE: ∀b o,Sx.look L b=some o→tyO o≠some 65→Sx.look (setB L bk (cM v')) b=some o:=fun b o hb ht=>fU cJ hb ht
  have sj:Sx.look (setB L bk (cM v')) bk=some (cM v'):=iI cJ
  have TE:=ad (w0:=w) (aj.dir k aG)
  have RD:Gr (setB L bk (cM v')) 176 1 (G.p k) vals.length vals:=i4.keep fun b o hb ho=>by
   obtain⟨arr,ha⟩:=kS i4 hb
   rw[ho] at ha;cases ha
   exact pE _ _ ho (by simp[tyO])
  have Ym: ∀i,i<vals.length→FnP (setB L bk (cM v')) G.fb (vals.getD i undef) ((S.dir k).pend.getD i gr):=fun i hi=>(hF i hi).keep fun b o ho hx=>pE _ _ ho (by rcases hx with⟨s,rfl⟩ | ⟨a,rfl⟩<;>simp[tyO,cv,g_])
  have t7:=EL (cZ (S,pl) k).2 vals.length
  have uB:cZ (S,pl) (k+1)=o9 (cZ (S,pl) k) k:=rfl
  unfold o9 at uB
  rw[sY,←qh] at uB
  generalize gu (cZ (S,pl) k).2 vals.length=n at*
  have sQ:bk≠G.d k:=fun e=>by
   have sX:=aj.dir k aG
   rw[←e,sj] at sX
   simp[bh,cM] at sX
  generalize setB L bk (cM v')=L1 at*
  refine Ow.world fun w1 aY=> ?_
  obtain⟨vc,rb,off,arr,E,fz,cA,TF,Vo⟩:=Nm RD aY t7
  clear aY
  have lnc:=TF.len (false,1)
  rw[List.length_take,Nat.min_eq_left t7] at lnc
  with_reducible refine Ow.nil ?_
  refine⟨fun b hb=>by rw[List.mem_singleton] at hb;subst hb;rw[DA,TE], ?_⟩
  refine kq (aN @eC (aN @cA @lnc)) ?_
  have Ak:eB (cZ (S,pl) k).1 k ⟨((cZ (S,pl) k).1.dir k).seen,bT (cZ (S,pl) k).1 k 0,((cZ (S,pl) k).1.dir k).pend⟩=(cZ (S,pl) k).1:=HR _ _
  have gF: ∀j,bT (cZ (S,pl) k).1 k j=bT S k j:=fun j=>by unfold bT;rw[sY]
  have W2: (cZ (S,pl) (k+1)).2=(cZ (S,pl) k).2.drop 1:=rfl
  generalize cZ (S,pl) k=q at*
  obtain⟨Sk,pk⟩:=q
  simp only at*
  refine Cw.loopG (G:=C2G) [42,43,44,9,45,46,47,48,49,50,51,41] (fun g=> [(41,vi g.j)]) (fun g=>g.L) (fun g=>g.j≤n∧DkP g.L G (eB Sk k ⟨(Sk.dir k).seen,bT Sk k g.j,(Sk.dir k).pend⟩)∧Sx.look g.L bk=some (cM v')∧Ext w X g.L∧(∀b o,Sx.look L1 b=some o→b≠G.t k→Sx.look g.L b=some o)) (fun g=>n - g.j) ⟨0,L1⟩ rfl rfl ?_ ?_
  ·exact⟨cC _,by rw[Ak];exact aj,sj,bN,fun _ _ h _=>h⟩
  intro g j hg
  refine kv ?_
  obtain⟨j,L2⟩:=g
  simp only at hg ⊢
  obtain⟨hj,cd,mU,bO,sf⟩:=hg
  by_cases hjt:j<n
  ·have d2:decide ((j:Int)< (n:Int))=true:=dR oM
   have AD:j< (vals.take n).length:=by rw[List.length_take,Nat.min_eq_left t7];exact hjt
   have ix3:=TF.idx false j AD
   rw[Nat.mul_one] at ix3
   have ld3:=fun n=>OC TF AD n
   have hvj: (vals.take n).getD j undef=vals.getD j undef:=by
    rw[List.getD_eq_getElem?_getD,List.getD_eq_getElem?_getD,List.getElem?_take_of_lt hjt]
   rw[hvj] at ld3
   have T4:j< (S.dir k).pend.length:=by omega
   have TQ: ∀ {b:Nat} {o:Obj},Sx.look L1 b=some o→tyO o≠none→b≠G.t k:=by
    intro b o hb ht e
    obtain⟨ot,mt,nP,mX,-⟩:=aj.stl k aG
    rw[e,nP] at hb;cases hb
    exact ht (iD mX)
   have Yn:FnP L2 G.fb (vals.getD j undef) ((S.dir k).pend.getD j gr):=(Ym j oM).keep fun b o ho hx=>sf b o ho (TQ ho (by rcases hx with⟨s,rfl⟩ | ⟨a,rfl⟩<;>simp[tyO,cv,g_]))
   have d7:=cd.stl k aG
   have eV:=cd.ok.stl k aG
   have gR:=cd.ok.stlN k aG
   have fH:=cd.ok.pendN k aG
   rw[ie] at d7 eV gR fH
   have cK:okC (bT Sk k j) ((S.dir k).pend.getD j gr):=by rw[gF];exact(Cx k aG).1 j T4
   obtain⟨fk,cap,hvf,dK,mK⟩:=Df Yn d7 eV cK
   rw[hvf] at ld3
   have Sc:=sf rb _ (Vo oM) (TQ (Vo oM) (by simp[tyO]))
   have rd3:=ad (w0:=w) Sc
   have tC:=ad (w0:=w) (cd.dir k aG)
   have Ri:=TQ sj (by simp[tyO,cM])
   refine ky (aN @eC (aN @d2 (aN @ix3 (aN @ld3 (aN @rd3 @tC))))) ?_
   refine Ow.callFnXC (b:=vm (G.t k)) (cap:=cap) (ars:= #[vm (G.t k)]++cap) rfl (X:=L2) (Y:= []) (List.append_nil _).symm rfl rfl rfl rfl dK (fun w' aB ab aX=>mK w' ab aX) (fun r D hC hS=> ?_)
   rw[List.append_nil]
   obtain⟨rfl,o',hO,iP⟩:=hS
   have kb:=bO.came0 hC
   have nH:=cd.stl1 aG (l':=cO (bT Sk k j) ((S.dir k).pend.getD j gr)) (fun b o hb aQ=>(hO.rest b aQ).trans hb) iP (Bg _ eV) (EK gR cK fun h0=>fH _ (by show _∈ (Sk.dir k).pend;rw[sY,List.getD_eq_getElem?_getD,List.getElem?_eq_getElem T4];exact List.getElem_mem _) h0)
   rw[ie,UD] at nH
   have ft:bT Sk k (j+1)=cO (bT Sk k j) ((S.dir k).pend.getD j gr):=by rw[I' (by rw[sY];exact T4),sY]
   refine ko @eC ?_
   refine ky @eC ?_
   exact Again.mk ⟨j+1,D⟩ (by show n - (j+1)<n - j;omega) ⟨hjt,by rw[ft];exact nH,(hO.rest bk Ri).trans mU,kb,fun b o hb aQ=>(hO.rest b aQ).trans (sf b o hb aQ)⟩ rfl rfl
  obtain rfl:j=n:=by omega
  have d2:decide ((j:Int)< (j:Int))=false:=i1 oM
  have d7:=cd.stl k aG
  have eV:=cd.ok.stl k aG
  have gR:=cd.ok.stlN k aG
  rw[ie] at d7 eV gR
  obtain⟨ot,mt,nP,mX,gk⟩:=d7
  have iw:=cd.dir k aG
  have tC:=ad (w0:=w) iw
  refine kz [13] (aN @eC (aN @d2 @tC)) ?_
  refine Ow.callC rfl rfl call92 (fun w' aB=>Hf (G.t k) ot mt w' (aB.has _ _ (cQ nP)) mX) (fun B4 v4 D4 gP nF mG bE=> ?_)
  obtain⟨c,o4,rfl,rfl,AO⟩:=bE
  have Vb:dq L2 c:=gK fun b hb=>by
   have h1:=ae gP hb
   have h2:=mG.le c (by simp[keys])
   omega
  have sW:c∉keys L2:=fun hm=>by have:=ae Vb hm;omega
  have AH:Sx.look (L2++ [(c,o4)]) (G.d k)=some (bh (G.s k) (G.t k) (G.p k)):=cT iw
  have SW:Sx.look (L2++ [(c,o4)]) c=some o4:=iE Vb
  have SN: ∀b o,Sx.look L2 b=some o→Sx.look (L2++ [(c,o4)]) b=some o:=fun b o h=>cT h
  have kb:=bO.app (o:=o4) (b:=c) (by have:=mG.le c (by simp[keys]);omega)
  generalize L2++ [(c,o4)]=L3 at*
  have nQ:=ad (w0:=w) AH
  have st0:=fun x=>Jq (G.s k) (G.t k) c (G.p k) x
  have Ch:c≠G.d k:=fun e=>sW (by rw[e];exact bX iw)
  have SQ:Sx.look (setB L3 (G.d k) (bh c (G.t k) (G.p k))) (G.d k)=some (bh c (G.t k) (G.p k)):=iI AH
  have SX:Sx.look (setB L3 (G.d k) (bh c (G.t k) (G.p k))) c=some o4:=by rw[du (Ne.symm Ch)];exact SW
  have sg: ∀b o,Sx.look L2 b=some o→b≠G.d k→Sx.look (setB L3 (G.d k) (bh c (G.t k) (G.p k))) b=some o:=fun b o h aQ=>by rw[du (Ne.symm aQ)];exact SN b o h
  have gb:=kb.setB (b:=G.d k) (o:=bh c (G.t k) (G.p k))
  refine ko (aN @eC (aN @AH (aN @st0 @lC))) ?_
  generalize setB L3 (G.d k) (bh c (G.t k) (G.p k))=L4 at*
  have tA:=ad (w0:=w) SQ
  have st2:=fun x=>Dv c (G.t k) (G.p k) (.slice none 0 0) x ⟨rfl,rfl⟩
  refine ky (aN @eC (aN @SQ (aN @tA (aN @st2 @lC)))) ?_
  have SO: ∀b o,Sx.look L2 b=some o→b≠G.t k→b≠G.d k→Sx.look (setB L4 (G.d k) (bh c (G.t k) (.slice none 0 0))) b=some o:=fun b o h _ aQ=>by rw[du (Ne.symm aQ)];exact sg b o h aQ
  have mV: ∀ {b:Nat} {o:Obj} {m:List (List UInt8×Option Nat)},Sx.look L2 b=some o→dg vs ao o m→b≠G.d k:=by
   intro b o m hb hm e
   rw[e,iw] at hb;cases hb
   obtain⟨es,cl,h,-⟩:=hm;cases h
  have jB:=cd.calm aG (s':=c) ⟨bT Sk k j,bT Sk k j,[]⟩ rfl SO ⟨o4,mt,by rw[du (Ne.symm Ch)];exact SX,AO,gk⟩ ⟨ot,mt,by rw[du (Ne.symm (mV nP mX))];exact sg _ _ nP (mV nP mX),mX,gk⟩ (iI SQ) (.inr sW) eV eV gR gR
  rw[UD] at jB
  have Vc:bk≠G.d k:=fun e=>sQ e
  exact Again.mk ⟨k+1,oV G k c,setB L4 (G.d k) (bh c (G.t k) (.slice none 0 0)),v'⟩ (by show 3 - (k+1)<3 - k;omega) ⟨aG,by rw[uB];exact jB,rfl,by rw[du (Ne.symm sQ)];exact sg _ _ mU sQ,by rw[uB];exact TU,by rw[uB];exact tI Aq,gb.setB,by rw[uB];show(pk.drop 1).length<1000000;rw[List.length_drop];omega⟩ rfl rfl
 obtain rfl:k=3:=by omega
 have d1:decide (((3:Nat):Int)<3)=false:=rfl
 unfold bc
 generalize cZ (S,pl) 3=q at*
 obtain⟨S3,p3⟩:=q
 simp only at*
 have pI:DkOk {S3 with off:=false}:=⟨hP.ok.seen,hP.ok.stl,hP.ok.seenN,hP.ok.stlN,hP.ok.pendN,hP.ok.file,hP.ok.fuse,hP.ok.max⟩
 have aj:=hP.setDisk {S3 with off:=false} rfl rfl pI
 have Su:DkOk (j7 S3):=⟨hP.ok.seen,hP.ok.stl,hP.ok.seenN,hP.ok.stlN,hP.ok.pendN,hP.ok.file,⟨hP.ok.fuse.1,hP.ok.fuse.2.1,fun h=>by cases h⟩,hP.ok.max⟩
 have cd:=aj.setDisk (j7 S3) rfl rfl Su
 have k5:=ad (w0:=w) hP.disk
 have pF:=hP.disk
 have gR:=aj.disk
 have st4:=fun x=>UY G.bm S3 false x
 have st3:=fun x=>UM G.bm {S3 with off:=false} false x
 have TC:=rdg
 have zn:bk≠G.bd:=fun e=>by
  have sX:=hP.disk
  rw[←e,cJ] at sX
  simp[bA,cM] at sX
 have mU:Sx.look (setB (setB L G.bd (bA G.bm {S3 with off:=false})) G.bd (bA G.bm (j7 S3))) bk=some (cM v):=by
  rw[du (Ne.symm zn),du (Ne.symm zn)];exact cJ
 have bO:=(hE.setB (b:=G.bd) (o:=bA G.bm {S3 with off:=false})).setB (b:=G.bd) (o:=bA G.bm (j7 S3))
 have gn:=rdg _ bO
 have uK:aS w (setB (setB L G.bd (bA G.bm {S3 with off:=false})) G.bd (bA G.bm {S3 with off:=false,fused:=false})) 0=_:=gn
 have SY:Sx.look (setB (setB L G.bd (bA G.bm {S3 with off:=false})) G.bd (bA G.bm {S3 with off:=false,fused:=false})) bk=some (cM v):=mU
 have gc:Ext w X (setB (setB L G.bd (bA G.bm {S3 with off:=false})) G.bd (bA G.bm {S3 with off:=false,fused:=false})):=bO
 have jB:DkP (setB (setB L G.bd (bA G.bm {S3 with off:=false})) G.bd (bA G.bm {S3 with off:=false,fused:=false})) G (j7 S3):=cd
 clear gn mU bO cd
 refine kz [17] (aN @eC (aN @d1 (aN @pF (aN @gR (aN @st4 (aN @st3 (aN @lC (aN @uK @Tg)))))))) ?_
 generalize hL5:setB (setB L G.bd (bA G.bm {S3 with off:=false})) G.bd (bA G.bm {S3 with off:=false,fused:=false})=L5 at*
 have ZJ: (j7 S3).dir=S3.dir:=rfl
 have Zw: (j7 S3).off=false:=rfl
 generalize j7 S3=S5 at*
 refine Cw.loopG (G:=C3G) [72,73,11,74,75,76,77,78,79,80,81,13,82,83,84,85,86,87,88,89,90,91,92,14,93,94,95,96,97,98,99,100,101,102,103,104,105,106,107,108,109,110,111,112,113,114,115,116,117,118,119,120,121,122,123,124,125,126,127,71] (fun g=> [(71,vi g.k)]) (fun g=>g.L) (fun g=>g.k≤3∧DkP g.L G (db (S5,p3) g.k).1∧Sx.look g.L bk=some (cM g.v)∧PkS w g.v (db (S5,p3) g.k).2∧PkB w X (db (S5,p3) g.k).2 g.v∧Ext w X g.L∧(db (S5,p3) g.k).2.length<1000000) (fun g=>3 - g.k) ⟨0,L5,v⟩ rfl rfl ?_ ?_
 ·exact⟨cC _,jB,SY,hv,Aq,gc,Ad⟩
 intro g j hg
 refine kv ?_
 obtain⟨k,L6,v6⟩:=g
 simp only at hg ⊢
 obtain⟨Ze,qF,AK,hv6,TT,i3,T6⟩:=hg
 by_cases iC:k<3
 ·have d6:decide ((k:Int)<3)=true:=dR oM
  have ixk:=Ef iC
  have Cl:=uW (S5,p3) k
  have Vu:=EA (S5,p3) k
  simp only at Cl Vu
  have ol:DkB (db (S5,p3) k).1:=by
   intro i hi
   rw[Cl,ZJ];exact hB i hi
  have sV:db (S5,p3) (k+1)=((S5.dir k).seen).foldl dc (db (S5,p3) k):=rfl
  refine kz [26] (aN @eC (aN @d6 @ixk)) ?_
  refine Ow.callC rfl rfl call93 (fun w' aB=>Ig w' G (db (S5,p3) k).1 (gD k) (qF.world aB) ol) (fun B7 v7 D7 kZ sG lO gE=> ?_)
  rw[KR iC,Cl,Vu,Zw,if_neg (by simp),←JH] at gE
  obtain⟨sn,nU⟩: ∃sn,(S5.dir k).seen=sn:=⟨_,rfl⟩
  rw[nU] at sV gE
  have ln7:=Oo gE
  rw[List.length_map] at ln7
  refine ko (aN @eC @ln7) ?_
  refine Cw.world fun w1 aY=> ?_
  obtain⟨rb,off,arr,E,fz,nR,sk⟩:=gE.rowL (z:= []) (by rw[List.length_map]) ((aY.perm (M:=D7++L6) List.perm_append_comm).part) MD
  clear aY
  have Cz:=qF.ok.seen k iC
  have TK:=(ol k iC).1
  rw[Cl,nU] at Cz TK
  have qY: ∀c,c∈keys L6→0<sn.length→rb≠c:=fun c hc h0 e=>by
   have h1:=ae kZ hc
   have h2:=lO.le rb (bX (sk (by rw[List.length_map];exact h0)))
   omega
  have Sd:0<sn.length→Sx.look (L6++D7) rb=some (.cells arr E fz):=fun h0=>by
   rw[gO (fun hm=>qY rb hm h0 rfl)]
   exact sk (by rw[List.length_map];exact h0)
  have qG:DkP (L6++D7) G (db (S5,p3) k).1:=qF.mono fun b o h=>cT h
  have SZ:Sx.look (L6++D7) bk=some (cM v6):=cT AK
  have ip:Ext w X (L6++D7):=⟨fun c hc=>by
   rw[aZ] at hc
   rcases List.mem_append.1 hc with h|h
   ·exact i3.new c h
   exact .inr (Nat.le_trans sG (lO.le c h)),fun c hc=>by rw[aZ];exact bQ _ (i3.all c hc)⟩
  have dK: ∀n,n< (db (S5,p3) k).1.files.length→G.fb.getD n 0∈keys L6:=fun n hn=>bX (qF.file n hn)
  have Rj:=bX AK
  clear sk gE
  generalize L6++D7=L7 at*
  refine Cw.loopG (G:=C4G) [79,80,81,13,82,83,84,85,86,87,88,89,90,91,92,14,93,94,95,96,97,98,99,100,101,102,103,104,105,106,107,108,109,110,111,112,113,114,115,116,117,118,119,120,121,122,123,124,125,126,78] (fun g=> [(78,vi g.j)]) (fun g=>g.L) (fun g=>g.j≤sn.length∧DkP g.L G ((sn.take g.j).foldl dc (db (S5,p3) k)).1∧Sx.look g.L bk=some (cM g.v)∧PkS w g.v ((sn.take g.j).foldl dc (db (S5,p3) k)).2∧PkB w X ((sn.take g.j).foldl dc (db (S5,p3) k)).2 g.v∧Ext w X g.L∧((sn.take g.j).foldl dc (db (S5,p3) k)).2.length<1000000∧(0<sn.length→Sx.look g.L rb=some (.cells arr E fz))) (fun g=>sn.length - g.j) ⟨0,L7,v6⟩ rfl rfl ?_ ?_
  ·exact⟨cC _,qG,SZ,hv6,TT,ip,T6,Sd⟩
  intro g j hg
  refine kv ?_
  obtain⟨j,L8,v8⟩:=g
  simp only at hg ⊢
  obtain⟨hj,jC,ku,Ao,l4,jU,pK,Se⟩:=hg
  by_cases hjt:j<sn.length
  ·have d2:decide ((j:Int)< (sn.length:Int))=true:=dR oM
   have AD:j< (sn.map Prod.fst).length:=by rw[List.length_map];exact hjt
   have ix3:=nR.idx false j AD
   rw[Nat.mul_one] at ix3
   have ld3:=fun n=>xx nR AD n
   have AN:=Se oM
   have rd3:=ad (w0:=w) AN
   have hp:sn[j]'hjt∈sn:=List.getElem_mem _
   have nT: (sn.map Prod.fst).getD j []=(sn[j]'hjt).1:=by simp[List.getD_eq_getElem?_getD,hjt]
   have qf:sn.take (j+1)=sn.take j++ [sn[j]'hjt]:=by
    rw[List.take_add_one];simp[hjt]
   rw[nT] at ld3
   generalize sn[j]'hjt=p at*
   obtain⟨x,n⟩:=p
   have Ve: ((sn.take j).foldl dc (db (S5,p3) k)).1.dir=S5.dir:=by rw[Um,uW]
   have mP: ((sn.take (j+1)).foldl dc (db (S5,p3) k))=dc ((sn.take j).foldl dc (db (S5,p3) k)) (x,n):=by rw[qf,List.foldl_append];rfl
   generalize (sn.take j).foldl dc (db (S5,p3) k)=q8 at*
   obtain⟨S8,p8⟩:=q8
   simp only at jC Ao pK Ve ld3
   have qZ: (S8.dir k).seen=sn:=by rw[Ve];exact nU
   obtain⟨om,kw,hM⟩:=jC.dirs
   obtain⟨os,ms,gH,fG,gk⟩:=jC.seen k iC
   rw[qZ] at gk
   have dM:aL sn x=some n:=vE Cz.nodup hp
   have bC:n<S8.files.length:=jC.ok.seenN k iC _ (by rw[qZ];exact hp)
   have rdd:=ad (w0:=w) jC.disk
   have rdr:=ad (w0:=w) (jC.dir k iC)
   have gS:=jC.file n bC
   have rdf:=ad (w0:=w) gS
   have je:ao (some (G.d k))=vp (G.d k) 0:=rfl
   have T3:ao (some (G.fb.getD n 0))=vp (G.fb.getD n 0) 0:=rfl
   refine ky (aN @eC (aN @d2 (aN @ix3 (aN @ld3 (aN @rd3 @rdd))))) ?_
   refine kq (aN @eC @rdd) ?_
   refine Ow.mapGetG (encK:=vs) (encV:=ao) (k:=gD k) (z:=none) rfl rfl underlying166 j0 zrPd rfl rfl (ad kw) hM ?_
   rw[EW,qz iC]
   show Ow _ _ _ _ _ _ _ _
   refine ko (aN @eC (aN @je @rdr)) ?_
   refine Ow.mapGetG (encK:=vs) (encV:=ao) (k:=x) (z:=none) rfl rfl underlying173 j0 zrPf rfl rfl (ad gH) fG ?_
   rw[gk.get Cz.nodup,dM]
   show Ow _ _ _ _ _ _ _ _
   refine ko (aN @eC @T3) ?_
   have A3:=tj jC.ok bC
   have Ah:aS w L8 (G.fb.getD n 0)=some (cr (aF S8 n)):=rdf
   have mM:S8.files.getD n d4=aF S8 n:=rfl
   rw[mM] at gS
   clear rdf
   have ZF:dc (S8,p8) (x,n)=(en S8 n ⟨(aF S8 n).data.take ((aF S8 n).stl+gu p8 ((aF S8 n).data.length - (aF S8 n).stl)),((aF S8 n).data.take ((aF S8 n).stl+gu p8 ((aF S8 n).data.length - (aF S8 n).stl))).length⟩,p8.drop 1):=rfl
   rw[ZF] at mP
   have W0:=EL p8 ((aF S8 n).data.length - (aF S8 n).stl)
   generalize aF S8 n=f at*
   have TN: (f.data.length:Int) - (f.stl:Int)=((f.data.length - f.stl:Nat):Int):=by omega
   refine Cw.regionG [G.fb.getD n 0] [25] 26 kR rfl ?_
   simp only[List.replicate_succ,List.replicate_zero]
   refine OwG.run [0,1,2,3,4,5,6,7,8,9,10,11,12,13,14,15,16,17,18,19] [true,true,true,true,true,true,true,true,true,true,true,true,true,true,true,true,true,true,true,true,false,false,false,false,false,false] 6 rfl kR kR fun k hk=> ?_
   simp only[cR, ↓cS, ↓bz, ↓cG, ↓cH,b_]
   simp(disch:=first|exact dD|fail) only[↓Sx.S0,Sx.S1,fx,eC,Nat.reduceAdd,Nat.reducePow,Int.reducePow,Nat.reduceBEq, ↓reduceIte,UInt8.reduceToNat,UInt16.reduceToNat,UInt32.reduceToNat,UInt64.reduceToNat,Int.reduceToNat,Md.next_sofnil,Ah,TN]
   (with_reducible refine hk _ _ _ ?_);clear hk k
   refine OwG.one 20 _ kR rfl ?_
   refine Ow.callFnXC (b:=vi ((f.data.length - f.stl:Nat):Int)) (ars:= #[vi ((f.data.length - f.stl:Nat):Int),vp bk 0]) rfl (X:=L8) (Y:= []) (List.append_nil _).symm rfl rfl rfl rfl call91 (fun w' aB ab aX=>Rets.chunk ab aX (bX ku) (UU (f.data.length - f.stl) bk v8 p8 w' oM (Ao.old aB fun hq b hb=>jU.not (l4 hq b hb).1 (l4 hq b hb).2) pK (fun hq e=>by have:=(l4 hq bk e).1;omega) (ab _ (cQ ku)))) (fun r D hC hS=> ?_)
   rw[List.append_nil]
   obtain⟨o,rfl,rfl,v9,rfl,uO,TR⟩:=hS
   obtain⟨TU,tI⟩:=ws Ao uO TR
   have jz:=jU.came0 hC
   have iR:=jC.away ku (cM v9)
   have mR: ∀b o,Sx.look L8 b=some o→tyO o≠some 65→Sx.look (setB L8 bk (cM v9)) b=some o:=fun b o hb ht=>fU ku hb ht
   have mT:Sx.look (setB L8 bk (cM v9)) (G.fb.getD n 0)=some (cr f):=mR _ _ gS (by simp[tyO,cr])
   have AL:Sx.look (setB L8 bk (cM v9)) bk=some (cM v9):=iI ku
   have T8:Sx.look (setB L8 bk (cM v9)) rb=some (.cells arr E fz):=by rw[du (fun e=>qY bk Rj oM e.symm)];exact AN
   have TB:=ad (w0:=w) mT
   generalize gu p8 (f.data.length - f.stl)=m at*
   have RZ: (f.stl:Int)+ (m:Int)=((f.stl+m:Nat):Int):=by omega
   have zo:bk≠G.fb.getD n 0:=fun e=>by
    rw[←e,AL] at mT
    simp[cr,cM] at mT
   generalize setB L8 bk (cM v9)=L9 at*
   have st0:=fun x=>E5 f (f.data.take (f.stl+m)) x
   with_reducible refine Ow.nil ?_
   refine⟨(fun b hb=>by rw[List.mem_singleton] at hb;subst hb;rw[Ah,TB]), ?_⟩
   simp only[List.set_cons_zero,List.set_cons_succ,gN,fN,fO]
   refine OwG.rest [21,22,23,24,25] rfl kR kR ?_
   simp only[cR, ↓cS, ↓bz, ↓cG, ↓cH,b_]
   refine kq (aN @eC @RZ) ?_
   refine Ow.store rfl rfl rfl (ke (aN @eC (aN @mT @st0))) ?_
   have cp: (f.data.take (f.stl+m)).length≤f.data.length:=by rw[List.length_take];omega
   have TP:f.stl≤ (f.data.take (f.stl+m)).length:=by rw[List.length_take];omega
   have Vm:Sx.look (setB L9 (G.fb.getD n 0) (cr ⟨f.data.take (f.stl+m),f.stl⟩)) (G.fb.getD n 0)=some (cr ⟨f.data.take (f.stl+m),f.stl⟩):=iI mT
   have hrB:=ad (w0:=w) Vm
   have st1:=fun x=>Dz ⟨f.data.take (f.stl+m),f.stl⟩ (f.data.take (f.stl+m)).length x
   have AY:=uo (n:=n) (f:=⟨f.data.take (f.stl+m),f.stl⟩) jC.ok ⟨Nat.le_trans cp A3.1,TP⟩
   have Yy:=iR.setFile bC ⟨f.data.take (f.stl+m),f.stl⟩ AY
   have Sv:=uo (n:=n) (f:=⟨f.data.take (f.stl+m),(f.data.take (f.stl+m)).length⟩) AY ⟨Nat.le_trans cp A3.1,ag _⟩
   have p7:=Yy.setFile (by rw[List.length_set];exact bC) ⟨f.data.take (f.stl+m),(f.data.take (f.stl+m)).length⟩ Sv
   simp only[List.set_set] at p7
   have Yi:=(jz.setB (b:=G.fb.getD n 0) (o:=cr ⟨f.data.take (f.stl+m),f.stl⟩)).setB (b:=G.fb.getD n 0) (o:=cr ⟨f.data.take (f.stl+m),(f.data.take (f.stl+m)).length⟩)
   have C':rb≠G.fb.getD n 0:=qY _ (dK n (by have:=qF.len;have:=jC.len;omega)) oM
   have Sa:Sx.look (setB (setB L9 (G.fb.getD n 0) (cr ⟨f.data.take (f.stl+m),f.stl⟩)) (G.fb.getD n 0) (cr ⟨f.data.take (f.stl+m),(f.data.take (f.stl+m)).length⟩)) bk=some (cM v9):=by
    rw[du (Ne.symm zo),du (Ne.symm zo)];exact AL
   have T9:Sx.look (setB (setB L9 (G.fb.getD n 0) (cr ⟨f.data.take (f.stl+m),f.stl⟩)) (G.fb.getD n 0) (cr ⟨f.data.take (f.stl+m),(f.data.take (f.stl+m)).length⟩)) rb=some (.cells arr E fz):=by
    rw[du (Ne.symm C'),du (Ne.symm C')];exact T8
   refine ko (aN @eC (aN @lC (aN @hrB (aN @Vm @st1)))) ?_
   refine ky @eC ?_
   exact Again.mk ⟨j+1,setB (setB L9 (G.fb.getD n 0) (cr ⟨f.data.take (f.stl+m),f.stl⟩)) (G.fb.getD n 0) (cr ⟨f.data.take (f.stl+m),(f.data.take (f.stl+m)).length⟩),v9⟩ (by show sn.length - (j+1)<sn.length - j;omega) ⟨hjt,by rw[mP];exact p7,Sa,by rw[mP];exact TU,by rw[mP];exact tI l4,Yi,by rw[mP];show(p8.drop 1).length<1000000;rw[List.length_drop];omega,fun _=>T9⟩ rfl rfl
  obtain rfl:j=sn.length:=by omega
  have d2:decide ((sn.length:Int)< (sn.length:Int))=false:=i1 oM
  rw[List.take_length] at jC Ao l4 pK
  refine ky (aN @eC @d2) ?_
  refine ky @eC ?_
  exact Again.mk ⟨k+1,L8,v8⟩ (by show 3 - (k+1)<3 - k;omega) ⟨iC,by rw[sV];exact jC,ku,by rw[sV];exact Ao,by rw[sV];exact l4,jU,by rw[sV];exact pK⟩ rfl rfl
 obtain rfl:k=3:=by omega
 have d6:decide (((3:Nat):Int)<3)=false:=rfl
 refine ky (aN @eC @d6) ?_
 refine⟨_,(ke @eC), ?_⟩
 exact⟨i3,G,rfl,qF⟩
def kU (d:DirL):Prop:=d.pend.foldl cO d.stl=d.seen∧sB d
def dp (S:DiskL):Prop:= ∀k,kU (S.dir k)
def B5 (l:NmL):kU ⟨l,l,[]⟩:=⟨rfl,fun i hi=>absurd hi (Nat.not_lt_zero i)⟩
def JR {d:DirL} {c:CallL} (h:kU d) (cK:okC d.seen c):kU ⟨cO d.seen c,d.stl,d.pend++ [c]⟩:=by
 refine⟨by show(d.pend++ [c]).foldl cO d.stl=_;rw[List.foldl_append,h.1];rfl,fun i hi=> ?_⟩
 have sd:i< (d.pend++ [c]).length:=hi
 show okC (((d.pend++ [c]).take i).foldl cO d.stl) ((d.pend++ [c]).getD i gr)
 by_cases e:i<d.pend.length
 ·rw[List.take_append_of_le_length oM,List.getD_eq_getElem?_getD,List.getElem?_append_left e,←List.getD_eq_getElem?_getD]
  exact h.2 i e
 rw[List.length_append,List.length_singleton] at sd
 obtain rfl:i=d.pend.length:=by omega
 rw[List.take_append_of_le_length (ag _),List.take_length,h.1,List.getD_eq_getElem?_getD,List.getElem?_append_right (ag _),Nat.sub_self]
 exact cK
def lp {S S':DiskL} (h:dp S) (e:S'.dir=S.dir):dp S':=fun k=>by rw[e];exact h k
def Ez {S:DiskL} (h:dp S) {k:Nat} {d:DirL} (hd:kU d):dp (eB S k d):=fun j=>by
 by_cases e:j=k
 ·subst e;rw[ie];exact hd
 rw[j3 _ _ e];exact h j
def Ds {S:DiskL} (h:dp S) {k:Nat} {c:CallL} (cK:okC (S.dir k).seen c):dp (cL S k c):=Ez h (JR (h k) cK)
def A' {S:DiskL} (h:dp S):dp (aK S).1:=lp h (dj S).1
def xa (q:Int):dp (cq q):=fun _=>B5 []
def Fv {S:DiskL} (h:dp S) (dir name s:List UInt8):dp (bD S dir name s).1:=by
 unfold bD
 split
 ·exact h
 split
 ·exact h
 split
 ·exact h
 split
 ·exact A' h
 exact lp (A' h) rfl
def KA {S:DiskL} (h:dp S) (dir name:List UInt8):dp (bF S dir name).1:=by
 unfold bF
 split
 ·exact h
 split
 ·exact h
 split
 ·exact A' h
 exact lp (A' h) rfl
theorem Ux {q:DiskL×List UInt16} (h:dp q.1): ∀k,dp (cZ q k).1
 |0=>h
 |k+1=>Ez (Ux h k) (B5 _)
def EE {S:DiskL} (h:dp S) (pl:List UInt16):dp (bc S pl):=by
 unfold bc
 refine lp (S:=j7 (cZ (S,pl) 3).1) ?_ (uW _ 3)
 exact lp (Ux (q:=(S,pl)) h 3) rfl
def NmB (l:NmL):Prop:= ∀p,p∈l→p.1.length≤1000000
def mB (c:CallL):Prop:=c.a.length≤1000000∧c.b.length≤1000000
structure DirB (N:Nat) (d:DirL):Prop where
 seen:d.seen.length≤N
 stl:d.stl.length+d.pend.length≤N
 seenB:NmB d.seen
 stlB:NmB d.stl
 pendB: ∀c,c∈d.pend→mB c
def DkN (N:Nat) (S:DiskL):Prop:= ∀k,DirB N (S.dir k)
def DkN.b {N:Nat} {S:DiskL} (h:DkN N S) (hN:N≤1000000):DkB S:=fun k _=>⟨Nat.le_trans (h k).seen hN,(h k).seenB⟩
def DirB.mono {N M:Nat} {d:DirL} (h:DirB N d) (hm:N≤M):DirB M d:=⟨Nat.le_trans h.seen hm,Nat.le_trans h.stl hm,h.seenB,h.stlB,h.pendB⟩
theorem DkN.mono {N M:Nat} {S:DiskL} (h:DkN N S) (hm:N≤M):DkN M S:=fun k=>(h k).mono hm
def Eb (l:NmL) (s:List UInt8): (eD l s).length≤l.length:=List.length_filter_le _ _
def xZ (l:NmL) (x:List UInt8×Nat): (fm l x).length≤l.length+1:=by
 have h1:=(pv x (eD l x.1)).length_eq
 have h2:=Eb l x.1
 rw[List.length_cons] at h1
 show(insN (eD l x.1) x).length≤_
 omega
def wP (l:NmL) (c:CallL): (cO l c).length≤l.length+1:=by
 unfold cO
 split
 ·exact xZ l _
 ·have h1:=xZ (eD l c.a) (c.b,(aL l c.a).getD 0)
  have h2:=Eb l c.a
  omega
 exact Nat.le_succ_of_le (Eb l _)
def rh {l:NmL} (h:NmB l) (s:List UInt8):NmB (eD l s):=fun p hp=>h p (List.mem_filter.1 hp).1
def yu {l:NmL} (h:NmB l) {x:List UInt8×Nat} (hx:x.1.length≤1000000):NmB (fm l x):=fun p hp=>by
 have:=(pv x (eD l x.1)).mem_iff.1 hp
 rcases List.mem_cons.1 this with rfl|h1
 ·exact hx
 exact rh h _ p h1
def yI {l:NmL} (h:NmB l) {c:CallL} (hc:mB c):NmB (cO l c):=by
 unfold cO
 split
 ·exact yu h hc.1
 ·exact yu (rh h _) hc.2
 exact rh h _
theorem yG: ∀ (cs:List CallL) {l:NmL},NmB l→(∀c,c∈cs→mB c)→NmB (cs.foldl cO l)∧(cs.foldl cO l).length≤l.length+cs.length
 | [],l,h,_=>⟨h,ag _⟩
 |c::cs,l,h,hc=>by
  have h1:=yG cs (yI h (hc c ah)) (fun c' h'=>hc c' (aq _ h'))
  have h2:=wP l c
  refine⟨h1.1, ?_⟩
  have h3:=h1.2
  rw[List.length_cons]
  show(List.foldl cO (cO l c) cs).length≤_
  omega
def Lz {N:Nat} {d:DirL} {c:CallL} (h:DirB N d) (hc:mB c):DirB (N+1) ⟨cO d.seen c,d.stl,d.pend++ [c]⟩ where
 seen:=by have:=wP d.seen c;have:=h.seen;show(cO d.seen c).length≤_;omega
 stl:=by have:=h.stl;show d.stl.length+ (d.pend++ [c]).length≤_;rw[List.length_append,List.length_singleton];omega
 seenB:=yI h.seenB hc
 stlB:=h.stlB
 pendB:=fun c' h'=>by
  rcases List.mem_append.1 h' with h'|h'
  ·exact h.pendB c' h'
  rw[List.mem_singleton.1 h'];exact hc
def Ek {N:Nat} {l:NmL} (h:l.length≤N) (hb:NmB l):DirB N ⟨l,l,[]⟩:=⟨h,h,hb,hb,fun c hc=>by cases hc⟩
def Dx {N:Nat} {S:DiskL} (h:DkN N S) {k:Nat} {d:DirL} (hd:DirB N d):DkN N (eB S k d):=fun j=>by
 by_cases e:j=k
 ·subst e;rw[ie];exact hd
 rw[j3 _ _ e];exact h j
def pn {N:Nat} {S S':DiskL} (h:DkN N S) (e:S'.dir=S.dir):DkN N S':=fun k=>by rw[e];exact h k
def Dn {N:Nat} {S:DiskL} (h:DkN N S) {k:Nat} {c:CallL} (hc:mB c):DkN (N+1) (cL S k c):=Dx (h.mono (Nat.le_succ N)) (Lz (h k) hc)
theorem DT {N:Nat} {q:DiskL×List UInt16} (h:DkN N q.1): ∀k,DkN N (cZ q k).1
 |0=>h
 |k+1=>by
  have h1:=DT h k
  have hd:=h1 k
  show DkN N (o9 (cZ q k) k).1
  generalize cZ q k=r at*
  refine Dx h1 ?_
  have h2:=yG ((r.1.dir k).pend.take (gu r.2 (r.1.dir k).pend.length)) hd.stlB (fun c hc=>hd.pendB c (List.mem_of_mem_take hc))
  refine Ek ?_ h2.1
  have h3:=h2.2
  rw[List.length_take] at h3
  have h4:=hd.stl
  show(List.foldl cO _ _).length≤N
  omega
def wA {N:Nat} {S:DiskL} (h:DkN N S) (pl:List UInt16):DkN N (bc S pl):=by
 unfold bc
 refine pn (S:=j7 (cZ (S,pl) 3).1) ?_ (uW _ 3)
 exact pn (DT (q:=(S,pl)) h 3) rfl
def yE (q:Int):DkN 0 (cq q):=fun _=>Ek (ag 0) fun _ h=>by cases h
def IB (X:aA) (G:DkG) (S:DiskL) (n:Int) (w:World) (hX: ∀p,p∈X→w.heap[p.1]? =some p.2) (ay: (keys X).Nodup) (hP:DkP X G S) (hn: -9223372036854775808≤n∧n<9223372036854775808):
  Rets prog 47 #[vp G.bd 0,vi n] w (XS w X (fun v D=>v=bw []∧ ∃G',G'.bd=G.bd∧DkP D G' {S with fuse:=n,fused:=decide (0≤n)})):=by
 refine Rets.mono (Rets.chunk hX ay (bX hP.disk) (I0 G.bd G.bm S n w (hX _ (cQ hP.disk)))) ?_
 rintro v D ⟨hE,o,rfl,rfl,rfl⟩
 exact⟨hE,rfl,G,rfl,hP.setDisk {S with fuse:=n,fused:=decide (0≤n)} rfl rfl ⟨hP.ok.seen,hP.ok.stl,hP.ok.seenN,hP.ok.stlN,hP.ok.pendN,hP.ok.file,⟨hn.1,hn.2,fun h=>by simpa using h⟩,hP.ok.max⟩⟩
def HP (S:DiskL) (f:FiL) (h: ∀k,(S.dir k).pend= []∧(S.dir k).stl= []): ∀k,((jo S f).dir k).pend= []∧((jo S f).dir k).stl= []:=by
 intro k
 unfold jo
 split
 ·rename_i j hj
  split
  ·by_cases e:k=j
   ·subst e;rw[ie];exact⟨(h k).1,(h k).2⟩
   rw[j3 _ _ e];exact h k
  exact h k
 exact h k
def Hc (l:List FiL): ∀ (S:DiskL),(∀k,(S.dir k).pend= []∧(S.dir k).stl= [])→ ∀k,((l.foldl jo S).dir k).pend= []∧((l.foldl jo S).dir k).stl= []:=by
 induction l with
 |nil=>exact fun _ h=>h
 |cons f l ih=>exact fun S h=>ih _ (HP S f h)
def I_ (S:DiskL) (f:FiL) (h: ∀k,3≤k→(S.dir k).seen= []): ∀k,3≤k→((jo S f).dir k).seen= []:=by
 intro k hk
 unfold jo
 split
 ·rename_i j hj
  split
  ·have h3:=(cw hj).1
   rw[j3 _ _ oM];exact h k hk
  exact h k hk
 exact h k hk
def Jn (l:List FiL): ∀ (S:DiskL),(∀k,3≤k→(S.dir k).seen= [])→ ∀k,3≤k→((l.foldl jo S).dir k).seen= []:=by
 induction l with
 |nil=>exact fun _ h=>h
 |cons f l ih=>exact fun S h=>ih _ (I_ S f h)
def ER (S:DiskL) (k:Nat): (setV S [0,1,2]).dir k=if k∈ [0,1,2] then⟨(S.dir k).seen,(S.dir k).seen,[]⟩ else S.dir k:=rfl
def OF (q:Int) (l:List FiL):dp (ofD q l):=fun k=>by
 have h1:=Hc l (cq q) (fun _=>⟨rfl,rfl⟩) k
 have h2:=Jn l (cq q) (fun _ _=>rfl) k
 unfold ofD
 rw[ER]
 generalize l.foldl jo (cq q)=S at*
 split
 ·exact B5 _
 rename_i hk
 have h3:3≤k:=by
  simp only[List.mem_cons,List.not_mem_nil,or_false,not_or] at hk
  omega
 have h4:=h2 h3
 generalize S.dir k=d at*
 obtain⟨a,b,c⟩:=d
 simp only at h1 h4
 obtain⟨rfl,rfl⟩:=h1
 subst h4
 exact B5 []
def vN {N:Nat} {S:DiskL} (h:DkN N S):DkN N (aK S).1:=pn h (dj S).1
def lw {N:Nat} {S:DiskL} (h:DkN N S):DkN (N+1) S:=h.mono (Nat.le_succ N)
def J1 {N:Nat} {S:DiskL} (h:DkN N S) (dir name s:List UInt8):DkN N (bD S dir name s).1:=by
 unfold bD
 split
 ·exact h
 split
 ·exact h
 split
 ·exact h
 split
 ·exact vN h
 exact pn (vN h) rfl
def Le {N:Nat} {S:DiskL} (h:DkN N S) (dir name:List UInt8):DkN N (bF S dir name).1:=by
 unfold bF
 split
 ·exact h
 split
 ·exact h
 split
 ·exact vN h
 exact pn (vN h) rfl
theorem Bs {S:DiskL} (ok:DkOk S): ∀ (l:NmL),(∀p,p∈l→p.2<S.files.length)→gw S l≤l.length*1048576
 | [],_=>cC _
 |p::l,h=>by
  have h1:=Bs ok l fun q hq=>h q (aq _ hq)
  have h2:=(tj ok (h p ah)).1
  unfold gw aF at*
  rw[List.map_cons,List.sum_cons,List.length_cons]
  omega
def N9 {N:Nat} {S:DiskL} (ok:DkOk S) (h:DkN N S):jL S≤3* (N*1048576):=by
 have h0:=Bs ok _ (ok.seenN 0 oM)
 have h1:=Bs ok _ (ok.seenN 1 oM)
 have h2:=Bs ok _ (ok.seenN 2 oM)
 have g0:=Nat.mul_le_mul_right 1048576 (h 0).seen
 have g1:=Nat.mul_le_mul_right 1048576 (h 1).seen
 have g2:=Nat.mul_le_mul_right 1048576 (h 2).seen
 unfold jL
 omega
def mem_wipe {l:NmL} {s:List UInt8} {p:List UInt8×Nat}:p∈eD l s↔p∈l∧p.1≠s:=by
 unfold eD
 rw[List.mem_filter]
 constructor
 ·rintro⟨h1,h2⟩
  exact⟨h1,fun e=>by rw[e] at h2;simp at h2⟩
 rintro⟨h1,h2⟩
 exact⟨h1,by simpa using Ne.symm h2⟩
def mem_put {l:NmL} {x p:List UInt8×Nat}:p∈fm l x↔p=x∨(p∈l∧p.1≠x.1):=by
 unfold fm
 rw[(pv x _).mem_iff,List.mem_cons,mem_wipe]
def wy {l:NmL} {c:CallL} {p:List UInt8×Nat} (cK:okC l c) (h:p∈cO l c): (c.kind=0∧p=(c.a,c.n))∨(c.kind=1∧ ∃m,aL l c.a=some m∧p=(c.b,m))∨(p∈l∧p.1≠c.a∧(c.kind=1→p.1≠c.b)):=by
 unfold cO at h
 split at h
 ·rename_i hk
  rcases mem_put.1 h with rfl| ⟨h1,h2⟩
  ·exact .inl ⟨hk,rfl⟩
  exact .inr (.inr ⟨h1,h2,fun e=>by rw[hk] at e;cases e⟩)
 ·rename_i hk
  cases hm:aL l c.a with
  |none=>exact absurd hm (cK hk).1
  |some m=>
   rw[hm] at h
   rcases mem_put.1 h with rfl| ⟨h1,h2⟩
   ·exact .inr (.inl ⟨hk,m,rfl,rfl⟩)
   have h3:=mem_wipe.1 h1
   exact .inr (.inr ⟨h3.1,h3.2,fun _=>h2⟩)
 rename_i h0 h1
 have h3:=mem_wipe.1 h
 exact .inr (.inr ⟨h3.1,h3.2,fun e=>absurd e h1⟩)
def ii (S:DiskL):Prop:= ∀j k,j<3→k<3→ ∀p,p∈ (S.dir j).seen→ ∀q,q∈ (S.dir k).seen→p.2=q.2→j=k∧p=q
def nc {S S':DiskL} (h:ii S) (e: ∀k,k<3→(S'.dir k).seen=(S.dir k).seen):ii S':=fun j k hj hk p hp q hq=>by
 rw[e j hj] at hp
 rw[e k hk] at hq
 exact h j k hj hk p hp q hq
def qu (S:DiskL) (k j:Nat) (c:CallL): ((cL S k c).dir j).seen=if j=k then cO (S.dir k).seen c else(S.dir j).seen:=by
 unfold cL
 by_cases e:j=k
 ·subst e;rw[ie,if_pos rfl]
 rw[j3 _ _ e,if_neg e]
def vB {S:DiskL} {k j:Nat} {c:CallL} {p:List UInt8×Nat} (cK:okC (S.dir k).seen c) (h:p∈ ((cL S k c).dir j).seen):
  (p∈ (S.dir j).seen∧(j=k→p.1≠c.a∧(c.kind=1→p.1≠c.b)))∨(j=k∧c.kind=0∧p=(c.a,c.n))∨(j=k∧c.kind=1∧ ∃m,aL (S.dir k).seen c.a=some m∧p=(c.b,m)):=by
 rw[qu] at h
 by_cases e:j=k
 ·rw[if_pos e] at h
  subst e
  rcases wy cK h with⟨h1,h2⟩ | ⟨h1,h2⟩ | ⟨h1,h2⟩
  ·exact .inr (.inl ⟨rfl,h1,h2⟩)
  ·exact .inr (.inr ⟨rfl,h1,h2⟩)
  exact .inl ⟨h1,fun _=>h2⟩
 rw[if_neg e] at h
 exact .inl ⟨h,fun e'=>absurd e' e⟩
def DW {S:DiskL} (h:ii S) {k:Nat} {c:CallL} (hk:k<3) (cK:okC (S.dir k).seen c) (hn:c.kind=0→ ∀j,j<3→ ∀q,q∈ (S.dir j).seen→q.2≠c.n):ii (cL S k c):=by
 intro i j hi hj p hp q hq e
 rcases vB cK hp with⟨p1,p2⟩ | ⟨rfl,p1,rfl⟩ | ⟨rfl,p1,m,pm,rfl⟩
 ·rcases vB cK hq with⟨q1,q2⟩ | ⟨rfl,q1,rfl⟩ | ⟨rfl,q1,m,qm,rfl⟩
  ·exact h i j hi hj p p1 q q1 e
  ·exact absurd e (hn q1 i hi p p1)
  have h1:=h i j hi hj p p1 _ (gJ qm) e
  exact absurd (by rw[h1.2]) (p2 h1.1).1
 ·rcases vB cK hq with⟨q1,q2⟩ | ⟨rfl,q1,rfl⟩ | ⟨rfl,q1,m,qm,rfl⟩
  ·exact absurd e.symm (hn p1 j hj q q1)
  ·exact⟨rfl,rfl⟩
  rw[p1] at q1;cases q1
 rcases vB cK hq with⟨q1,q2⟩ | ⟨rfl,q1,rfl⟩ | ⟨rfl,q1,m',qm,rfl⟩
 ·have h1:=h j i hj hi q q1 _ (gJ pm) e.symm
  exact absurd (by rw[h1.2]) (q2 h1.1).1
 ·rw[p1] at q1;cases q1
 rw[pm] at qm;cases qm;exact⟨rfl,rfl⟩
def LtS (S:DiskL):Prop:= ∀k,k<3→ ∀p,p∈ (S.dir k).seen→p.2<S.files.length
def Lq {S:DiskL} (h:ii S) (hl:LtS S) {k:Nat} (hk:k<3) (s:List UInt8) (f:FileL) {d:DirL} (hd:d.seen=fm (S.dir k).seen (s,S.files.length)):ii (eB (eP S f) k d)∧LtS (eB (eP S f) k d):=by
 have hm: ∀j p,p∈ ((eB (eP S f) k d).dir j).seen→p∈ (S.dir j).seen∨(j=k∧p=(s,S.files.length)):=fun j p hp=>by
  by_cases e:j=k
  ·subst e
   rw[ie,hd] at hp
   rcases mem_put.1 hp with rfl|h1
   ·exact .inr ⟨rfl,rfl⟩
   exact .inl h1.1
  rw[j3 _ _ e] at hp
  exact .inl hp
 constructor
 ·intro i j hi hj p hp q hq e
  rcases hm i p hp with p1| ⟨rfl,rfl⟩
  ·rcases hm j q hq with q1| ⟨rfl,rfl⟩
   ·exact h i j hi hj p p1 q q1 e
   have:=hl i hi p p1
   simp only at e
   omega
  rcases hm j q hq with q1| ⟨rfl,rfl⟩
  ·have:=hl j hj q q1
   simp only at e
   omega
  exact⟨rfl,rfl⟩
 intro j hj p hp
 show p.2< (S.files++ [f]).length
 rw[List.length_append,List.length_singleton]
 rcases hm j p hp with p1| ⟨-,rfl⟩
 ·have:=hl j hj p p1
  omega
 simp
def Gy {S:DiskL} (h:ii S∧LtS S) (f:FiL):ii (jo S f)∧LtS (jo S f):=by
 unfold jo
 split
 ·rename_i k hk
  split
  ·exact Lq h.1 h.2 (cw hk).1 _ _ rfl
  exact h
 exact h
def He (l:List FiL): ∀ {S:DiskL},ii S∧LtS S→ii (l.foldl jo S)∧LtS (l.foldl jo S):=by
 induction l with
 |nil=>exact fun h=>h
 |cons f l ih=>exact fun h=>ih (Gy h f)
def KE (S:DiskL) (k:Nat): ((setV S [0,1,2]).dir k).seen=(S.dir k).seen:=by
 rw[ER]
 split
 ·rfl
 rfl
def rg (q:Int) (l:List FiL):ii (ofD q l):=
 nc (He l (S:=cq q) ⟨fun _ _ _ _ p hp=>(by cases hp),fun _ _ p hp=>(by cases hp)⟩).1 fun k _=>KE _ k
inductive StepD (S:DiskL) (kind:Int) (dir name s:List UInt8):DiskL→Nat→Prop
 |same (e:Nat) (h:e≠0∨(kind≠2∧kind≠3)):StepD S kind dir name s S e
 |burn (h:kind≠2∧kind≠3∨(aK S).2≠0):StepD S kind dir name s (aK S).1 (aK S).2
 |create (k:Nat) (hk:av dir=some k) (hf:cN name=true) (hn:aL (S.dir k).seen name=none) (hb: (aK S).2=0):StepD S kind dir name s (cL (eP (aK S).1 d4) k ⟨0,name,[],S.files.length⟩) 0
 |append (k m:Nat) (hk:av dir=some k) (hm:aL (S.dir k).seen name=some m) (hf:jx S m s=false) (hb: (aK S).2=0):StepD S kind dir name s (en (aK S).1 m ⟨(aF S m).data++s,(aF S m).stl⟩) 0
 |sync (k m:Nat) (hk:av dir=some k) (hm:aL (S.dir k).seen name=some m) (hb: (aK S).2=0):StepD S kind dir name s (en (aK S).1 m ⟨(aF S m).data,(aF S m).data.length⟩) 0
 |syncDir (k:Nat) (hk:av dir=some k) (hb: (aK S).2=0):StepD S kind dir name s (jN (aK S).1 k) 0
 |rename (k m:Nat) (h4:kind=4) (hk:av dir=some k) (hm:aL (S.dir k).seen name=some m) (hf:cN s=true) (aQ:name≠s) (hb: (aK S).2=0):StepD S kind dir name s (cL (aK S).1 k ⟨1,name,s,0⟩) 0
 |remove (k m:Nat) (hk:av dir=some k) (hm:aL (S.dir k).seen name=some m) (hb: (aK S).2=0):StepD S kind dir name s (cL (aK S).1 k ⟨2,name,[],0⟩) 0
def CD {S:DiskL} {dir name:List UInt8} {m:Nat} (h:atD S dir name=some m): ∃k,av dir=some k∧aL (S.dir k).seen name=some m:=by
 unfold atD at h
 cases hk:av dir with
 |none=>rw[hk] at h;cases h
 |some k=>rw[hk] at h;exact⟨k,rfl,h⟩
def OI {S:DiskL} {dir name:List UInt8} {k:Nat} (hk:av dir=some k) (h:atD S dir name=none):aL (S.dir k).seen name=none:=by
 unfold atD at h
 rw[hk] at h;exact h
def CN {S:DiskL} {dir:List UInt8} {names:List (List UInt8)} (h:cF S dir names=0): ∃k,av dir=some k∧names.all cN=true:=by
 obtain⟨h1,h2,-⟩:=J0 h
 cases hk:av dir with
 |none=>exact absurd hk h1
 |some k=>exact⟨k,rfl,h2⟩
def Az (S:DiskL) (dir name s:List UInt8):StepD S 0 dir name s (cI S dir name).1 (cI S dir name).2:=by
 unfold cI
 split
 ·exact .same _ (.inr ⟨by decide,by decide⟩)
 rename_i hf
 split
 ·exact .same _ (.inr ⟨by decide,by decide⟩)
 rename_i ha
 split
 ·exact .burn (.inl ⟨by decide,by decide⟩)
 rename_i hb
 obtain⟨k,hk,hn⟩:=CN (S:=S) (dir:=dir) (names:= [name]) (by simpa using hf)
 rw[hk]
 exact .create k hk (by simpa using hn) (OI hk ha) (by simpa using hb)
def pV (S:DiskL) (dir name s:List UInt8):StepD S 5 dir name s (fA S dir name).1 (fA S dir name).2:=by
 unfold fA
 split
 ·exact .same _ (.inr ⟨by decide,by decide⟩)
 split
 ·exact .same _ (.inr ⟨by decide,by decide⟩)
 rename_i m ha
 split
 ·exact .burn (.inl ⟨by decide,by decide⟩)
 rename_i hb
 obtain⟨k,hk,hm⟩:=CD ha
 rw[hk]
 exact .remove k m hk hm (by simpa using hb)
def Ax (S:DiskL) (dir name s:List UInt8):StepD S 4 dir name s (cm S dir name s).1 (cm S dir name s).2:=by
 unfold cm
 split
 ·exact .same _ (.inr ⟨by decide,by decide⟩)
 rename_i hf
 split
 ·exact .same _ (.inr ⟨by decide,by decide⟩)
 rename_i m ha
 split
 ·exact .burn (.inl ⟨by decide,by decide⟩)
 rename_i aQ
 split
 ·exact .burn (.inl ⟨by decide,by decide⟩)
 rename_i hb
 obtain⟨k,hk,hm⟩:=CD ha
 obtain⟨-,-,hn⟩:=CN (S:=S) (dir:=dir) (names:= [name,s]) (by simpa using hf)
 simp only[List.all_cons,List.all_nil,Bool.and_true,Bool.and_eq_true] at hn
 rw[hk]
 exact .rename k m rfl hk hm hn.2 aQ (by simpa using hb)
def qn (S:DiskL) (dir name s:List UInt8):StepD S 1 dir name s (bD S dir name s).1 (bD S dir name s).2:=by
 unfold bD
 split
 ·exact .same _ (.inr ⟨by decide,by decide⟩)
 split
 ·exact .same _ (.inr ⟨by decide,by decide⟩)
 rename_i m ha
 split
 ·exact .same _ (.inr ⟨by decide,by decide⟩)
 rename_i dL
 split
 ·exact .burn (.inl ⟨by decide,by decide⟩)
 rename_i hb
 obtain⟨k,hk,hm⟩:=CD ha
 exact .append k m hk hm (by simpa using dL) (by simpa using hb)
def tT (S:DiskL) (dir name s:List UInt8):StepD S 2 dir name s (bF S dir name).1 (bF S dir name).2:=by
 unfold bF
 split
 ·rename_i hf
  exact .same _ (.inl hf)
 split
 ·exact .same _ (.inl (Nat.succ_ne_zero 5))
 rename_i m ha
 split
 ·rename_i hb
  exact .burn (.inr hb)
 rename_i hb
 obtain⟨k,hk,hm⟩:=CD ha
 exact .sync k m hk hm (by simpa using hb)
def U1 (S:DiskL) (dir name s:List UInt8):StepD S 3 dir name s (eb S dir).1 (eb S dir).2:=by
 unfold eb
 split
 ·rename_i hf
  exact .same _ (.inl hf)
 rename_i hf
 split
 ·rename_i hb
  exact .burn (.inr hb)
 rename_i hb
 obtain⟨k,hk,-⟩:=CN (S:=S) (dir:=dir) (names:= []) (by simpa using hf)
 rw[hk]
 exact .syncDir k hk (by simpa using hb)
def C5 {l:NmL} {a b:List UInt8} {m:Nat} (h:aL l a=some m) (aQ:a≠b):okC l ⟨1,a,b,0⟩:=fun _=>⟨by rw[h];simp,aQ⟩
section
variable {S S':DiskL} {kind:Int} {dir name s:List UInt8} {e:Nat}
def EV (h:StepD S kind dir name s S' e):S'.max=S.max:=by
 have hb:=(dj S).2.2
 cases h<;>first|rfl|exact hb
def uv (S:DiskL) (k j:Nat): ((jN S k).dir j).seen=(S.dir j).seen:=by
 unfold jN
 by_cases e:j=k
 ·subst e;rw[ie]
 rw[j3 _ _ e]
def LV (ok:DkOk S) (hu:ii S) (h:StepD S kind dir name s S' e):ii S':=by
 obtain⟨aP,ar,-⟩:=dj S
 have dz:ii (aK S).1:=nc hu fun k _=>by rw[aP]
 cases h with
 |same=>exact hu
 |burn=>exact dz
 |create k hk hf hn hb=>
  refine DW (nc dz fun _ _=>rfl) (cw hk).1 (fun e=>by cases e) (fun _ j hj q hq=> ?_)
  have qW:q∈ (S.dir j).seen:=by rw[←aP];exact hq
  have:=ok.seenN j hj q qW
  show q.2≠S.files.length
  omega
 |append k m hk hm hf hb=>exact nc dz fun _ _=>rfl
 |sync k m hk hm hb=>exact nc dz fun _ _=>rfl
 |syncDir k hk hb=>exact nc dz fun j _=>uv _ _ _
 |rename k m h4 hk hm hf aQ hb=>exact DW dz (cw hk).1 (by rw[aP];exact C5 hm aQ) (fun e=>by cases e)
 |remove k m hk hm hb=>exact DW dz (cw hk).1 (fun e=>by cases e) (fun e=>by cases e)
def q_ (hu:dp S) (h:StepD S kind dir name s S' e):dp S':=by
 obtain⟨aP,ar,-⟩:=dj S
 have dz:=A' hu
 cases h with
 |same=>exact hu
 |burn=>exact dz
 |create k hk hf hn hb=>exact Ds (lp dz rfl) (fun e=>by cases e)
 |append k m hk hm hf hb=>exact lp dz rfl
 |sync k m hk hm hb=>exact lp dz rfl
 |syncDir k hk hb=>exact Ez dz (B5 _)
 |rename k m h4 hk hm hf aQ hb=>exact Ds dz (by rw[aP];exact C5 hm aQ)
 |remove k m hk hm hb=>exact Ds dz (fun e=>by cases e)
def Lv {N:Nat} (hu:DkN N S) (hn:name.length≤1000000) (hs:s.length≤1000000) (h:StepD S kind dir name s S' e):DkN (N+1) S':=by
 have dz:=vN hu
 cases h with
 |same=>exact lw hu
 |burn=>exact lw dz
 |create k hk hf aX hb=>exact Dn (pn dz rfl) ⟨hn,cC _⟩
 |append k m hk hm hf hb=>exact lw (pn dz rfl)
 |sync k m hk hm hb=>exact lw (pn dz rfl)
 |syncDir k hk hb=>exact lw (Dx dz (Ek (dz k).seen (dz k).seenB))
 |rename k m h4 hk hm hf aQ hb=>exact Dn dz ⟨hn,hs⟩
 |remove k m hk hm hb=>exact Dn dz ⟨hn,cC _⟩
end
def EZ (S:DiskL) (p:List UInt8×Nat) (l:NmL):gw S (p::l)=(aF S p.2).data.length+gw S l:=by
 unfold gw aF
 rw[List.map_cons,List.sum_cons]
def kE (S:DiskL) {m:Nat} (f:FileL) (hm:m<S.files.length) (n:Nat):aF (en S m f) n=if n=m then f else aF S n:=by
 unfold aF en
 simp only
 rw[List.getD_eq_getElem?_getD,List.getD_eq_getElem?_getD]
 by_cases e:n=m
 ·subst e;rw[if_pos rfl,List.getElem?_set_self hm];rfl
 rw[if_neg e,List.getElem?_set_ne (Ne.symm e)]
def Dk (S:DiskL) (f:FileL) {n:Nat} (hn:n<S.files.length):aF (eP S f) n=aF S n:=by
 unfold aF eP
 exact tn _ _ hn
def CO (S:DiskL) (f:FileL):aF (eP S f) S.files.length=f:=by
 unfold aF eP
 exact tp _ _ rfl
def js (S:DiskL) (n:Nat):aF (aK S).1 n=aF S n:=by
 unfold aF
 rw[(dj S).2.1]
section
variable {S S':DiskL} {kind:Int} {dir name s:List UInt8} {e:Nat}
end
theorem Tb (q:DiskL×List UInt16): ∀k,(cZ q k).1.files=q.1.files
 |0=>rfl
 |k+1=>Tb q k
theorem wq (q:DiskL×List UInt16) {j:Nat}: ∀ {k:Nat},j<k→ ∃i,i≤ (q.1.dir j).pend.length∧(cZ q k).1.dir j=⟨bT q.1 j i,bT q.1 j i,[]⟩
 |k+1,h=>by
  show∃i,i≤_∧(eB (cZ q k).1 k _).dir j=_
  by_cases e:j=k
  ·subst e
   rw[ie]
   have hd:=E9 q (ag j)
   refine⟨gu (cZ q j).2 ((cZ q j).1.dir j).pend.length, ?_, ?_⟩
   ·rw[hd];exact EL _ _
   unfold bT
   rw[hd]
  rw[j3 _ _ e]
  exact wq q oM
def ng (S:DiskL) (pl:List UInt16) {k:Nat} (hk:k<3): ∃i,i≤ (S.dir k).pend.length∧(bc S pl).dir k=⟨bT S k i,bT S k i,[]⟩:=by
 obtain⟨i,h1,h2⟩:=wq (S,pl) hk
 exact⟨i,h1,by unfold bc;rw[uW];exact h2⟩
def J' (S:DiskL) (pl:List UInt16): (bc S pl).off=false:=by
 unfold bc
 rw[EA];rfl
def BegF (f g:FileL):Prop:=(∃t,g.data=f.data.take t)∧(f.stl=f.data.length→g.data=f.data∧g.stl=g.data.length)
def BegF.refl (f:FileL):BegF f f:=⟨⟨f.data.length,(List.take_length).symm⟩,fun h=>⟨rfl,h⟩⟩
theorem BegF.trans {f g h:FileL} (h1:BegF f g) (h2:BegF g h):BegF f h:=by
 obtain⟨⟨t,ht⟩,a⟩:=h1
 obtain⟨⟨u,hu⟩,b⟩:=h2
 refine⟨⟨min u t,by rw[hu,ht,List.take_take]⟩,fun e=> ?_⟩
 obtain⟨a1,a2⟩:=a e
 obtain⟨b1,b2⟩:=b a2
 exact⟨b1.trans a1,b2⟩
def wY (S:DiskL) {n:Nat} (h:S.files.length≤n):aF S n=d4:=by
 unfold aF
 rw[List.getD_eq_getElem?_getD,List.getElem?_eq_none h];rfl
def CM (S:DiskL) {m:Nat} (h:S.files.length≤m) (f:FileL):en S m f=S:=by
 unfold en
 rw[List.set_eq_of_length_le h]
def IC (q:DiskL×List UInt16) (p:List UInt8×Nat) (n:Nat):BegF (aF q.1 n) (aF (dc q p).1 n):=by
 unfold dc
 simp only
 by_cases hm:p.2<q.1.files.length
 ·rw[kE _ _ hm]
  by_cases e:n=p.2
  ·subst e
   rw[if_pos rfl]
   refine⟨⟨_,rfl⟩,fun h=> ?_⟩
   have h1: (aF q.1 p.2).data.take ((aF q.1 p.2).stl+gu q.2 ((aF q.1 p.2).data.length - (aF q.1 p.2).stl))=(aF q.1 p.2).data:=List.take_of_length_le (by rw[←h];omega)
   exact⟨h1,rfl⟩
  rw[if_neg e];exact BegF.refl _
 rw[CM _ oM];exact BegF.refl _
def UE (q:DiskL×List UInt16) (p:List UInt8×Nat) (n:Nat) (h:n=p.2∨(aF q.1 n).stl=(aF q.1 n).data.length): (aF (dc q p).1 n).stl=(aF (dc q p).1 n).data.length:=by
 unfold dc
 simp only
 by_cases hm:p.2<q.1.files.length
 ·rw[kE _ _ hm]
  by_cases e:n=p.2
  ·rw[if_pos e]
  rw[if_neg e];exact h.resolve_left e
 rw[CM _ oM]
 rcases h with h|h
 ·rw[wY _ oM];rfl
 exact h
theorem Ui (n:Nat): ∀ (l:NmL) (q:DiskL×List UInt16),BegF (aF q.1 n) (aF (l.foldl dc q).1 n)∧(n∈l.map Prod.snd∨(aF q.1 n).stl=(aF q.1 n).data.length→(aF (l.foldl dc q).1 n).stl=(aF (l.foldl dc q).1 n).data.length)
 | [],q=>⟨BegF.refl _,fun h=>h.resolve_left (by simp)⟩
 |p::l,q=>by
  obtain⟨h1,h2⟩:=Ui n l (dc q p)
  refine⟨(IC q p n).trans h1,fun h=>h2 ?_⟩
  rcases h with h|h
  ·rw[List.map_cons] at h
   rcases List.mem_cons.1 h with h|h
   ·exact .inr (UE q p n (.inl h))
   exact .inl h
  exact .inr (UE q p n (.inr h))
theorem Uo (n:Nat) (q:DiskL×List UInt16): ∀k,BegF (aF q.1 n) (aF (db q k).1 n)∧((∃j,j<k∧n∈ (q.1.dir j).seen.map Prod.snd)∨(aF q.1 n).stl=(aF q.1 n).data.length→(aF (db q k).1 n).stl=(aF (db q k).1 n).data.length)
 |0=>⟨BegF.refl _,fun h=>h.resolve_left (by rintro⟨j,hj,-⟩;omega)⟩
 |k+1=>by
  obtain⟨h1,h2⟩:=Uo n q k
  obtain⟨g1,g2⟩:=Ui n (q.1.dir k).seen (db q k)
  refine⟨h1.trans g1,fun h=>g2 ?_⟩
  rcases h with⟨j,hj,hm⟩ |h
  ·by_cases e:j=k
   ·subst e;exact .inl hm
   exact .inr (h2 (.inl ⟨j,by omega,hm⟩))
  exact .inr (h2 (.inr h))
def Jy (S:DiskL) (pl:List UInt16) (n:Nat):BegF (aF S n) (aF (bc S pl) n):=by
 have h:=(Uo n (j7 (cZ (S,pl) 3).1,(cZ (S,pl) 3).2) 3).1
 have e:aF (j7 (cZ (S,pl) 3).1) n=aF S n:=by
  unfold aF j7
  rw[Tb]
 rw[←e];exact h
def NumD (d:DirL) (n:Nat):Prop:=(∃p,p∈d.stl∧p.2=n)∨ ∃c,c∈d.pend∧c.kind=0∧c.n=n
theorem vM {d:DirL} (h:sB d): ∀i,i≤d.pend.length→ ∀p,p∈ (d.pend.take i).foldl cO d.stl→NumD d p.2
 |0,_,p,hp=> .inl ⟨p,hp,rfl⟩
 |i+1,hi,p,hp=>by
  have cK:=h i oM
  rw[StP.take_snoc (z:=gr) oM,List.foldl_append] at hp
  have sV:d.pend.getD i gr∈d.pend:=getD_mem oM
  rcases wy cK hp with⟨h1,rfl⟩ | ⟨h1,m,hm,rfl⟩ | ⟨h1,-⟩
  ·exact .inr ⟨_,sV,h1,rfl⟩
  ·exact vM h i oM ((d.pend.getD i gr).a,m) (gJ hm)
  exact vM h i oM p h1
def Mv {d:DirL} (h:kU d) {p:List UInt8×Nat} (hp:p∈d.seen):NumD d p.2:=by
 refine vM h.2 d.pend.length (ag _) p ?_
 rw[List.take_length,h.1];exact hp
def sA (S:DiskL):Prop:= ∀j k,j<3→k<3→ ∀n,NumD (S.dir j) n→NumD (S.dir k) n→j=k
def yq {S:DiskL} (ok:DkOk S) {k n:Nat} (hk:k<3) (h:NumD (S.dir k) n):n<S.files.length:=by
 rcases h with⟨p,hp,rfl⟩ | ⟨c,hc,h0,rfl⟩
 ·exact ok.stlN k hk p hp
 exact ok.pendN k hk c hc h0
def Bt {S:DiskL} {k j n:Nat} {c:CallL} (h:NumD ((cL S k c).dir j) n):NumD (S.dir j) n∨(j=k∧c.kind=0∧c.n=n):=by
 by_cases e:j=k
 ·subst e
  unfold cL at h
  rw[ie] at h
  rcases h with h| ⟨d,hd,h0,h1⟩
  ·exact .inl (.inl h)
  rcases List.mem_append.1 hd with hd|hd
  ·exact .inl (.inr ⟨d,hd,h0,h1⟩)
  rw[List.mem_singleton.1 hd] at h0 h1
  exact .inr ⟨rfl,h0,h1⟩
 unfold cL at h
 rw[j3 _ _ e] at h
 exact .inl h
def dh (S:DiskL):Prop:=S.off=false∧S.fused=false
def pr {S:DiskL} (h:dh S):aK S=(S,0):=by
 unfold aK
 rw[if_neg (by rw[h.2];simp),if_neg (by rw[h.2];simp)]
section
variable {S S':DiskL} {kind:Int} {dir name s:List UInt8} {e:Nat}
def la (hc:dh S) (h:StepD S kind dir name s S' e):dh S':=by
 have hb:=pr hc
 have dI:dh (aK S).1:=by rw[hb];exact hc
 cases h<;>first|exact hc|exact dI
end
def yk (q:Int) (l:List FiL) {k:Nat} (hk:k<3): ((ofD q l).dir k).stl=((ofD q l).dir k).seen∧((ofD q l).dir k).pend= []:=by
 unfold ofD
 rw[ER,if_pos (by simp;omega)]
 exact⟨rfl,rfl⟩
def yc {q:Int} {l:List FiL} {k:Nat} (hk:k<3) {n:Nat} (h:NumD ((ofD q l).dir k) n): ∃p,p∈ ((ofD q l).dir k).seen∧p.2=n:=by
 obtain⟨h1,h2⟩:=yk q l hk
 rcases h with h| ⟨c,hc,-⟩
 ·rw[h1] at h;exact h
 rw[h2] at hc;cases hc
def Oy (q:Int) (l:List FiL):sA (ofD q l):=fun j k hj hk n a b=>by
 obtain⟨p,hp,rfl⟩:=yc hj a
 obtain⟨p',pJ,e⟩:=yc hk b
 exact(rg q l j k hj hk p hp p' pJ e.symm).1
structure KeepS (S:DiskL) (k:Nat) (nm:List UInt8) (n:Nat) (data:List UInt8):Prop where
 lt:n<S.files.length
 data: (aF S n).data=data
 stl: (aF S n).stl=(aF S n).data.length
 at_:aL (S.dir k).stl nm=some n
 pend: ∀c,c∈ (S.dir k).pend→c.a≠nm∧(c.kind=1→c.b≠nm)
theorem vu {x:List UInt8×Nat} {s:List UInt8} (hx:x.1≠s): ∀l:NmL,aL (insN l x) s=aL l s
 | []=>by
  have: (s==x.1)=false:=beq_eq_false_iff_ne.2 (Ne.symm hx)
  unfold insN aL
  rw[List.find?_cons,this]
 |p::l=>by
  have e: (s==x.1)=false:=beq_eq_false_iff_ne.2 (Ne.symm hx)
  have ih:=vu hx l
  unfold insN
  split
  ·unfold aL
   rw[List.find?_cons,e]
  unfold aL at ih ⊢
  rw[List.find?_cons,List.find?_cons]
  split
  ·rfl
  exact ih
theorem CT {a s:List UInt8} (ha:a≠s): ∀l:NmL,aL (eD l a) s=aL l s
 | []=>rfl
 |p::l=>by
  have ih:=CT ha l
  unfold eD at ih ⊢
  rw[List.filter_cons]
  by_cases e:a=p.1
  ·have e1: (s==p.1)=false:=beq_eq_false_iff_ne.2 (fun h=>ha (by rw[e,h]))
   rw[if_neg (by rw[e];simp),ih]
   unfold aL
   rw[List.find?_cons,e1]
  rw[if_pos (by simpa using e)]
  unfold aL at ih ⊢
  rw[List.find?_cons,List.find?_cons]
  split
  ·rfl
  exact ih
def EH {x:List UInt8×Nat} {s:List UInt8} (hx:x.1≠s) (l:NmL):aL (fm l x) s=aL l s:=by
 unfold fm
 rw[vu hx,CT hx]
def w7 {l:NmL} {c:CallL} {s:List UInt8} (h:c.a≠s∧(c.kind=1→c.b≠s)):aL (cO l c) s=aL l s:=by
 unfold cO
 split
 ·exact EH h.1 l
 ·rename_i hk
  rw[EH (h.2 hk),CT h.1]
 exact CT h.1 l
theorem CI {s:List UInt8}: ∀ (cs:List CallL) (l:NmL),(∀c,c∈cs→c.a≠s∧(c.kind=1→c.b≠s))→aL (cs.foldl cO l) s=aL l s
 | [],_,_=>rfl
 |c::cs,l,h=>by
  rw[List.foldl_cons,CI cs _ fun d hd=>h d (aq _ hd),w7 (h c ah)]
section
variable {S S':DiskL} {kind:Int} {dir name s:List UInt8} {e k n:Nat} {nm data:List UInt8}
theorem KeepS.seen (h:KeepS S k nm n data) (hh:dp S):aL (S.dir k).seen nm=some n:=by
 rw[← (hh k).1,CI _ _ h.pend,h.at_]
end
structure PkL where
 v:Value
 l:List UInt16
 h:Value.oneCell' v=true∧v.cells= #[v]
def pk0:PkL:=⟨.slice none 0 0,[],rfl,rfl⟩
structure ActL where
 kind:Int
 n:Int
 dir:List UInt8
 name:List UInt8
 s:List UInt8
 picks:PkL
structure ActOk (w:World) (a:ActL):Prop where
 pk:PkS w a.picks.v a.picks.l
 n: -9223372036854775808≤a.n∧a.n<9223372036854775808
def PkS.blk {w:World} {v:Value} {l:List UInt16} (h:PkS w v l) (hl:l≠ []) {b:Nat} (hb:slB v=some b):b<w.heap.size:=by
 obtain⟨b',off,c,arr,E,fz,hr,hc,⟨rfl,rfl,rfl⟩ | ⟨rfl,hh,-⟩⟩:=h.resolve_right fun e=>hl e.1
 ·exact absurd rfl hl
 cases hb
 exact(Array.getElem?_eq_some_iff.1 hh).1
structure DkA (X:aA) (G:DkG) (S:DiskL) (N:Nat):Prop where
 P:DkP X G S
 H:dp S
 B:DkN N S
theorem DkA.pend {X:aA} {G:DkG} {S:DiskL} {N:Nat} (h:DkA X G S N) (hN:N<1000000): ∀k,k<3→(S.dir k).pend.length<1000000:=fun k _=>by
 have:=(h.B k).stl
 omega
def DkA.used {X:aA} {G:DkG} {S:DiskL} {N:Nat} (h:DkA X G S N) (hN:N<1000000):jL S<4611686018427387904:=by
 have:=N9 h.P.ok h.B
 omega
theorem DkA.mono {X X':aA} {G:DkG} {S:DiskL} {N:Nat} (h:DkA X G S N) (hk: ∀b o,Sx.look X b=some o→Sx.look X' b=some o):DkA X' G S N:=⟨h.P.mono hk,h.H,h.B⟩
theorem DkA.b {X:aA} {G:DkG} {S:DiskL} {N:Nat} (h:DkA X G S N) (hN:N<1000000):DkB S:=h.B.b oM
def EP {w:World} {L:aA} (hg:n8 w) (hn:New w.heap.size L):0∉keys L:=by
 obtain⟨e,fz,gi⟩:=hg
 exact hn.not (Array.getElem?_eq_some_iff.1 gi).1
def lX {w w':World} {L:aA} (hg:n8 w) (h:Hp w L w') (hn:New w.heap.size L):n8 w':=by
 have pG:=EP hg hn
 obtain⟨e,fz,gi⟩:=hg
 exact⟨e,fz,(h.old _ (Array.getElem?_eq_some_iff.1 gi).1 pG).trans gi⟩
def aa (S:DiskL) (j:Nat) (x:List UInt8):Option (List UInt8):=(aL (S.dir j).seen x).map fun n=>(aF S n).data
structure GoodS (S:DiskL):Prop where
 srt: ∀k,k<3→SrtN (S.dir k).seen
 lt:LtS S
 uniq:ii S
def DkOk.good {S:DiskL} (ok:DkOk S) (hu:ii S):GoodS S:=⟨ok.seen,ok.seenN,hu⟩
def Tc {p:List UInt8×Nat} {l:NmL} {s:List UInt8} (h:s≠p.1):aL (p::l) s=aL l s:=by
 unfold aL
 rw[List.find?_cons,beq_eq_false_iff_ne.2 h]
def tN (p:List UInt8×Nat) (l:NmL):aL (p::l) p.1=some p.2:=by
 unfold aL
 rw[List.find?_cons,beq_self_eq_true];rfl
def aD (s:List UInt8):List UInt8:=s++ [46,116,109,112]
def nZ (s:List UInt8):aD s≠s:=fun h=>by
 have:=congrArg List.length h
 unfold aD at this
 simp at this
def OthN (dir nm:List UInt8) (j:Nat) (x:List UInt8):Prop:=gD j=dir→x≠nm∧x≠aD nm
section
variable {S S':DiskL} {kind:Int} {dir name s:List UInt8} {e:Nat}
def kH (hg:GoodS S) (h:StepD S kind dir name s S' e):GoodS S':=by
 obtain⟨aP,ar,-⟩:=dj S
 have iV:GoodS (aK S).1:=⟨fun k hk=>by rw[aP];exact hg.srt k hk,fun k hk p hp=>by rw[aP] at hp;rw[ar];exact hg.lt k hk p hp,nc hg.uniq fun k _=>by rw[aP]⟩
 have turn: ∀ {T:DiskL} {k:Nat} {c:CallL},GoodS T→k<3→okC (T.dir k).seen c→(c.kind=0→c.n<T.files.length∧ ∀j,j<3→ ∀q,q∈ (T.dir j).seen→q.2≠c.n)→GoodS (cL T k c):=fun{T k c} hT hk cK hn=>
  ⟨fun j hj=>by
   rw[qu]
   split
   ·exact Bg c (hT.srt k hk)
   ·exact hT.srt j hj,fun j hj p hp=>by
   show p.2<T.files.length
   rcases vB cK hp with⟨p1,-⟩ | ⟨rfl,p1,rfl⟩ | ⟨rfl,p1,m,pm,rfl⟩
   ·exact hT.lt j hj p p1
   ·exact(hn p1).1
   exact hT.lt j hk (c.a,m) (gJ pm),DW hT.uniq hk cK fun h0=>(hn h0).2⟩
 have set: ∀ {T:DiskL} (m:Nat) (f:FileL),GoodS T→GoodS (en T m f):=fun{T} m f hT=>⟨hT.srt,fun k hk p hp=>by show p.2< (T.files.set m f).length;rw[List.length_set];exact hT.lt k hk p hp,nc hT.uniq fun _ _=>rfl⟩
 cases h with
 |same=>exact hg
 |burn=>exact iV
 |create k hk hf hn hb=>
  refine turn (T:=eP (aK S).1 d4) ⟨iV.srt,fun j hj p hp=> ?_,nc iV.uniq fun _ _=>rfl⟩ (cw hk).1 (fun e=>by cases e) fun _=>⟨?_,fun j hj q hq=> ?_⟩
  ·have:=iV.lt j hj p hp
   show p.2< ((aK S).1.files++ [d4]).length
   rw[List.length_append];omega
  ·show S.files.length< ((aK S).1.files++ [d4]).length
   rw[ar,List.length_append];simp
  have:=iV.lt j hj q hq
  rw[ar] at this
  show q.2≠S.files.length
  omega
 |append k m hk hm hf hb=>exact set m _ iV
 |sync k m hk hm hb=>exact set m _ iV
 |syncDir k hk hb=>exact⟨fun j hj=>by rw[uv];exact iV.srt j hj,fun j hj p hp=>by rw[uv] at hp;exact iV.lt j hj p hp,nc iV.uniq fun j _=>uv _ _ _⟩
 |rename k m h4 hk hm hf aQ hb=>exact turn iV (cw hk).1 (by rw[aP];exact C5 hm aQ) fun e=>by cases e
 |remove k m hk hm hb=>exact turn iV (cw hk).1 (fun e=>by cases e) fun e=>by cases e
def CH {S S':DiskL} {j:Nat} {x:List UInt8} (h1:aL (S'.dir j).seen x=aL (S.dir j).seen x) (h2: ∀n,aL (S.dir j).seen x=some n→(aF S' n).data=(aF S n).data):aa S' j x=aa S j x:=by
 unfold aa
 rw[h1]
 cases hf:aL (S.dir j).seen x with
 |none=>rfl
 |some n=>exact congrArg some (h2 n hf)
def Dl (hg:GoodS S) (h:StepD S kind dir name s S' e) {j:Nat} (hj:j<3) {x:List UInt8} (hx:gD j=dir→x≠name∧(kind=4→x≠s)):aa S' j x=aa S j x:=by
 obtain⟨aP,ar,-⟩:=dj S
 have hd: ∀ {k},av dir=some k→j=k→x≠name∧(kind=4→x≠s):=fun hk e=>hx (by rw[e];exact(cw hk).2.symm)
 have turn: ∀ {T:DiskL} {k:Nat} {c:CallL},(∀n,n<S.files.length→aF T n=aF S n)→T.dir=S.dir→(j=k→c.a≠x∧(c.kind=1→c.b≠x))→aa (cL T k c) j x=aa S j x:=fun{T k c} hf hT hc=>
  CH (by
   rw[qu]
   by_cases e:j=k
   ·rw[if_pos e,w7 (hc e),hT,e]
   ·rw[if_neg e,hT]) fun n hn=>by
   show(aF T n).data=_
   rw[hf n (hg.lt j hj _ (gJ hn))]
 have set: ∀ {k m:Nat} (f:FileL),av dir=some k→aL (S.dir k).seen name=some m→aa (en (aK S).1 m f) j x=aa S j x:=fun{k m} f hk hm=>
  CH (by show aL ((aK S).1.dir j).seen x=_;rw[aP]) fun n hn=>by
   have jb:m< (aK S).1.files.length:=by rw[ar];exact hg.lt k (cw hk).1 _ (gJ hm)
   rw[kE _ _ jb,js]
   by_cases e:n=m
   ·subst e
    have h1:=hg.uniq j k hj (cw hk).1 _ (gJ hn) _ (gJ hm) rfl
    exact absurd (congrArg Prod.fst h1.2) (hd hk h1.1).1
   rw[if_neg e]
 cases h with
 |same=>rfl
 |burn=>exact CH (by rw[aP]) fun n _=>by rw[js]
 |create k hk hf hn hb=>exact turn (fun n hn=>by rw[Dk _ _ (by rw[ar];exact hn),js]) aP fun e=>⟨Ne.symm (hd hk e).1,fun h=>by cases h⟩
 |append k m hk hm hf hb=>exact set _ hk hm
 |sync k m hk hm hb=>exact set _ hk hm
 |syncDir k hk hb=>exact CH (by rw[uv,aP]) fun n _=>by show(aF (aK S).1 n).data=_;rw[js]
 |rename k m h4 hk hm hf aQ hb=>exact turn (fun n _=>js S n) aP fun e=>⟨Ne.symm (hd hk e).1,fun _=>Ne.symm ((hd hk e).2 h4)⟩
 |remove k m hk hm hb=>exact turn (fun n _=>js S n) aP fun e=>⟨Ne.symm (hd hk e).1,fun h=>by cases h⟩
end
structure TkL where
 dir:List UInt8
 name:List UInt8
 data:List UInt8
 light:Bool
 next:Nat
 made:Bool
 ended:Bool
structure PhR where
 did:Bool
 e:Nat
 t:TkL
 S:DiskL
def jn (t:TkL) (S:DiskL):PhR:=if(cj S t.dir (aD t.name)).2≠0 then⟨false,0,t,S⟩ else⟨true,(fA S t.dir (aD t.name)).2,t,(fA S t.dir (aD t.name)).1⟩
def vI (t:TkL) (S:DiskL):PhR:=⟨true,(cI S t.dir (aD t.name)).2,{t with made:=(cI S t.dir (aD t.name)).2==0},(cI S t.dir (aD t.name)).1⟩
def rk (t:TkL) (S:DiskL):PhR:=⟨true,(bD S t.dir (aD t.name) t.data).2,t,(bD S t.dir (aD t.name) t.data).1⟩
def jS (t:TkL) (S:DiskL):PhR:=if t.light=true then⟨false,0,t,S⟩ else⟨true,(bF S t.dir (aD t.name)).2,t,(bF S t.dir (aD t.name)).1⟩
def rZ (t:TkL) (S:DiskL):PhR:=⟨true,(cm S t.dir (aD t.name) t.name).2,{t with made:=t.made&& (cm S t.dir (aD t.name) t.name).2 !=0},(cm S t.dir (aD t.name) t.name).1⟩
def rO (t:TkL) (S:DiskL):PhR:=if t.light=true then⟨false,0,t,S⟩ else⟨true,(eb S t.dir).2,t,(eb S t.dir).1⟩
def phT (k:Nat) (t:TkL) (S:DiskL):PhR:=match k with
 |0=>jn t S
 |1=>vI t S
 |2=>rk t S
 |3=>jS t S
 |4=>rZ t S
 |_=>rO t S
structure StR where
 done:Bool
 e:Nat
 t:TkL
 S:DiskL
def nxT (r:PhR):TkL:={r.t with next:=r.t.next+1}
def ga (t:TkL):Bool:=t.next==6|| (t.light&&t.next==5)
def cu (r:PhR):StR:=if(nxT r).made=true∧r.e≠9 then⟨false,r.e,{nxT r with ended:=true},(fA r.S r.t.dir (aD r.t.name)).1⟩ else⟨false,r.e,{nxT r with ended:=true},r.S⟩
def fe (r:PhR):TkL:={nxT r with ended:=ga (nxT r)}
def eZ:Nat→TkL→DiskL→StR
 |0,t,S=>⟨false,0,t,S⟩
 |f+1,t,S=>
  if(phT t.next t S).e≠0 then cu (phT t.next t S)
  else if(phT t.next t S).did=false∧ga (nxT (phT t.next t S))=false then eZ f (fe (phT t.next t S)) (phT t.next t S).S
  else⟨ga (nxT (phT t.next t S)),0,fe (phT t.next t S),(phT t.next t S).S⟩
def ek (t:TkL) (S:DiskL):StR:=if t.ended=true then⟨false,15,t,S⟩ else eZ (6 - t.next) t S
def runG:Nat→TkL→DiskL→Nat×TkL×DiskL
 |0,t,S=>(0,t,S)
 |f+1,t,S=>if(ek t S).done=true∨(ek t S).e≠0 then((ek t S).e,(ek t S).t,(ek t S).S) else runG f (ek t S).t (ek t S).S
def phG:Nat→TkL→DiskL→Nat×DiskL
 |0,_,S=>(0,S)
 |f+1,t,S=>
  if(phT t.next t S).e≠0 then((cu (phT t.next t S)).e,(cu (phT t.next t S)).S)
  else if ga (nxT (phT t.next t S))=true then(0,(phT t.next t S).S)
  else phG f (fe (phT t.next t S)) (phT t.next t S).S
def y_ (f:Nat) (t:TkL) (S:DiskL):phG (f+1) t S=(if(phT t.next t S).e≠0 then((cu (phT t.next t S)).e,(cu (phT t.next t S)).S)
  else if ga (nxT (phT t.next t S))=true then(0,(phT t.next t S).S)
  else phG f (fe (phT t.next t S)) (phT t.next t S).S):=rfl
def m9 (k:Nat) (t:TkL) (S:DiskL): (phT k t S).t.dir=t.dir∧(phT k t S).t.name=t.name∧(phT k t S).t.data=t.data∧(phT k t S).t.light=t.light∧(phT k t S).t.next=t.next∧(phT k t S).t.ended=t.ended:=by
 unfold phT
 split
 ·unfold jn;split<;>exact⟨rfl,rfl,rfl,rfl,rfl,rfl⟩
 ·exact⟨rfl,rfl,rfl,rfl,rfl,rfl⟩
 ·exact⟨rfl,rfl,rfl,rfl,rfl,rfl⟩
 ·unfold jS;split<;>exact⟨rfl,rfl,rfl,rfl,rfl,rfl⟩
 ·exact⟨rfl,rfl,rfl,rfl,rfl,rfl⟩
 unfold rO;split<;>exact⟨rfl,rfl,rfl,rfl,rfl,rfl⟩
def CC (k:Nat) (t:TkL) (S:DiskL): (fe (phT k t S)).dir=t.dir∧(fe (phT k t S)).name=t.name∧(fe (phT k t S)).data=t.data∧(fe (phT k t S)).light=t.light∧(fe (phT k t S)).next=t.next+1:=by
 obtain⟨h1,h2,h3,h4,h5,-⟩:=m9 k t S
 exact⟨h1,h2,h3,h4,congrArg (· +1) h5⟩
def tX (r:PhR): (cu r).e=r.e∧(cu r).done=false:=by
 unfold cu
 split<;>exact⟨rfl,rfl⟩
theorem rY: ∀ (f:Nat) (t:TkL) (S:DiskL),f+t.next=6→0<f→
  ((eZ f t S).e≠0∧phG f t S=((eZ f t S).e,(eZ f t S).S))∨
  ((eZ f t S).e=0∧(eZ f t S).done=true∧phG f t S=(0,(eZ f t S).S))∨
  ((eZ f t S).e=0∧(eZ f t S).done=false∧(eZ f t S).t.ended=false∧t.next< (eZ f t S).t.next∧(eZ f t S).t.next<6∧phG f t S=phG (6 - (eZ f t S).t.next) (eZ f t S).t (eZ f t S).S)
 |0,_,_,_,h=>absurd h (Nat.lt_irrefl 0)
 |f+1,t,S,hf,_=>by
  obtain⟨-,-,-,-,hn,-⟩:=m9 t.next t S
  have dM: (fe (phT t.next t S)).next=t.next+1:=(CC t.next t S).2.2.2.2
  have gF: (fe (phT t.next t S)).ended=ga (nxT (phT t.next t S)):=rfl
  unfold eZ
  rw[y_]
  by_cases he: (phT t.next t S).e≠0
  ·rw[if_pos he,if_pos he]
   exact .inl ⟨by rw[(tX _).1];exact he,rfl⟩
  rw[if_neg he,if_neg he]
  cases kj:ga (nxT (phT t.next t S)) with
  |true=>
   rw[if_neg (fun h=>by cases h.2),if_pos rfl]
   exact .inr (.inl ⟨rfl,rfl,rfl⟩)
  |false=>
   have aG:t.next+1<6:=by
    have h1: (nxT (phT t.next t S)).next=t.next+1:=congrArg (· +1) hn
    unfold ga at kj
    rw[h1] at kj
    simp only[Bool.or_eq_false_iff,beq_eq_false_iff_ne] at kj
    have:=kj.1
    omega
   rw[if_neg (show¬ (false=true) by simp)]
   by_cases hd: (phT t.next t S).did=false
   ·rw[if_pos ⟨hd,rfl⟩]
    have ih:=rY f (fe (phT t.next t S)) (phT t.next t S).S (by rw[dM];omega) oM
    rw[dM] at ih
    rcases ih with h|h| ⟨h1,h2,h3,h4,h5⟩
    ·exact .inl h
    ·exact .inr (.inl h)
    exact .inr (.inr ⟨h1,h2,h3,by omega,h5⟩)
   rw[if_neg fun h=>hd h.1]
   refine .inr (.inr ⟨rfl,rfl,gF.trans kj,by show t.next< (fe (phT t.next t S)).next;rw[dM];omega,by show(fe (phT t.next t S)).next<6;rw[dM];exact aG, ?_⟩)
   show phG f _ _=phG (6 - (fe (phT t.next t S)).next) _ _
   rw[dM,show 6 - (t.next+1)=f by omega]
theorem yv: ∀ (n f:Nat) (t:TkL) (S:DiskL),6 - t.next≤n→t.next<6→t.ended=false→6 - t.next≤f→((runG f t S).1,(runG f t S).2.2)=phG (6 - t.next) t S
 |0,_,_,_,hn,hl,_,_=>by omega
 |n+1,0,_,_,_,hl,_,hf=>by omega
 |n+1,f+1,t,S,hn,hl,he,hf=>by
  have hs:ek t S=eZ (6 - t.next) t S:=by unfold ek;rw[if_neg (by rw[he];simp)]
  unfold runG
  rw[hs]
  rcases rY (6 - t.next) t S oM oM with⟨h1,h2⟩ | ⟨h1,h2,h3⟩ | ⟨h1,h2,h3,h4,h5,h6⟩
  ·rw[if_pos (.inr h1),h2]
  ·rw[if_pos (.inl h2),h3,h1]
  rw[if_neg (by rw[h1,h2];simp),h6]
  exact yv n f _ _ oM h5 h3 oM
def tk0 (dir name data:List UInt8) (light:Bool):TkL:=⟨dir,name,data,light,0,false,false⟩
def au (S:DiskL) (dir name data:List UInt8) (light:Bool):Nat×DiskL:=phG 6 (tk0 dir name data light) S
def PD (S:DiskL) (dir name data:List UInt8) (light:Bool): ((runG 6 (tk0 dir name data light) S).1,(runG 6 (tk0 dir name data light) S).2.2)=au S dir name data light:=yv 6 6 (tk0 dir name data light) S (ag 6) (Nat.succ_pos 5) rfl (ag 6)
def tkO (t:TkL):Obj:= .cells #[vs t.dir,vs t.name,vs t.data, .bool t.light,vi (t.next:Int), .bool t.made, .bool t.ended] 321 (0,0)
def xm (t:TkL) (n:Nat):ak (some (false,n)) (some (tkO t)) 0=some (vs t.dir):=(rfl)
def xq (t:TkL) (n:Nat):ak (some (false,n)) (some (tkO t)) 1=some (vs t.name):=(rfl)
def xd (t:TkL) (n:Nat):ak (some (false,n)) (some (tkO t)) 2=some (vs t.data):=(rfl)
def xT (t:TkL) (n:Nat):ak (some (false,n)) (some (tkO t)) 3=some (.bool t.light):=(rfl)
def xk (t:TkL) (n:Nat):ak (some (false,n)) (some (tkO t)) 4=some (vi (t.next:Int)):=(rfl)
def xv (t:TkL) (n:Nat):ak (some (false,n)) (some (tkO t)) 5=some (.bool t.made):=(rfl)
def xN (t:TkL) (n:Nat):ak (some (false,n)) (some (tkO t)) 6=some (.bool t.ended):=(rfl)
def vn (t:TkL) (x:Nat) (a:Bool):bM (some (a,1)) (some (tkO t)) 4 (vi (x:Int))=some (tkO {t with next:=x}):=lB [vs t.dir,vs t.name,vs t.data, .bool t.light] [vi (t.next:Int)] [vi (x:Int)] [.bool t.made, .bool t.ended] a _ 321 rfl rfl rfl rfl rfl
def LB (t:TkL) (x:Bool) (a:Bool):bM (some (a,1)) (some (tkO t)) 5 (.bool x)=some (tkO {t with made:=x}):=lB [vs t.dir,vs t.name,vs t.data, .bool t.light,vi (t.next:Int)] [.bool t.made] [.bool x] [.bool t.ended] a _ 321 rfl rfl rfl rfl rfl
def Ed (t:TkL) (x:Bool) (a:Bool):bM (some (a,1)) (some (tkO t)) 6 (.bool x)=some (tkO {t with ended:=x}):=lB [vs t.dir,vs t.name,vs t.data, .bool t.light,vi (t.next:Int), .bool t.made] [.bool t.ended] [.bool x] [] a _ 321 rfl rfl rfl rfl rfl
structure TkB (t:TkL):Prop where
 name:t.name.length≤900000
 data:t.data.length≤1000000
def tc {t:TkL} (h:TkB t): (aD t.name).length≤900004:=by
 unfold aD
 rw[List.length_append]
 have:=h.name
 simp
 omega
def DkA.step {X X':aA} {G G':DkG} {S S':DiskL} {N:Nat} {kind:Int} {dir name s:List UInt8} {e:Nat} (h:DkA X G S N) (hP:DkP X' G' S') (bH:StepD S kind dir name s S' e) (hn:name.length≤1000000) (hs:s.length≤1000000):DkA X' G' S' (N+1):=⟨hP,q_ h.H bH,Lv h.B hn hs bH⟩
def DkA.up {X:aA} {G:DkG} {S:DiskL} {N:Nat} (h:DkA X G S N):DkA X G S (N+1):=⟨h.P,h.H,h.B.mono (Nat.le_succ N)⟩
def PhS (G:DkG) (bt:Nat) (r:PhR) (N:Nat) (v:Value) (D:aA):Prop:=v= .tuple #[.bool r.did,vi (r.e:Nat)]∧ ∃X' G',(X'++ [(bt,tkO r.t)]).Perm D∧G'.bd=G.bd∧DkA X' G' r.S N
def Qu (b o:Nat):ac prog .eql 270 (vp b o) (.pointer none)=some (.bool false):=by
 simp[ac,eqX,eM,eX,underlying270,vp]
def kO {X:aA} {bt:Nat} {t:TkL} (hn: (keys (X++ [(bt,tkO t)])).Nodup):bt∉keys X∧ ∀X' o,bt∉keys X'→ ∀w,aS w (X'++ [(bt,o)]) bt=some o:=by
 rw[aZ,List.nodup_append] at hn
 refine⟨fun hm=>hn.2.2 bt hm bt (by simp[keys]) rfl,fun X' o h w=>ad (@Eu _ [] _ _ h)⟩
def ca:=aN (aN (aN @bq (aN @bl @xm)) (aN (aN @xq @xd) (aN @xT @xk))) (aN (aN @xv (aN @xN @vn)) (aN (aN @LB @Ed) (aN @Sx.tup2_0 @Sx.tup2_1)))
def I5 (X:aA) (G:DkG) (S:DiskL) (N bt:Nat) (t:TkL) (w:World) (hX: ∀p,p∈X++ [(bt,tkO t)]→w.heap[p.1]? =some p.2) (hn: (keys (X++ [(bt,tkO t)])).Nodup) (hA:DkA X G S N) (hN:N<900000) (hB:TkB t):
  Rets prog 273 #[vp bt 0,vp G.bd 0] w (XS w (X++ [(bt,tkO t)]) (PhS G bt (jn t S) (N+1))):=by
 refine Rets.enterX func273 rfl (rs:= [.tmp 4, .tmp 5]) results273 ntmps273 hX hn ?_
 refine kf ?_
 have gg:=(kO hn).1
 have rdt:=(kO hn).2 X (tkO t) gg w
 have bC:=tc hB
 have ay:t.name.length≤900000:=hB.name
 have iv:=hB.data
 have je:=hA.pend oM
 have uN:=hA.used oM
 unfold jn
 refine ky @ca ?_
 refine Cw.regionO [0,1,2,3,5,6,7,4,8,9,10,11,12,13,14,15] [] rfl kR kR ?_
 simp only[cR, ↓cS, ↓bz, ↓cG, ↓cH,b_]
 refine kq (aN @ca @rdt) ?_
 refine Ow.callFV rfl call94 (fun w' aB=>Ud w' G S t.dir (aD t.name) ⟨X,fun b o hb=>aB.has b o (bQ _ (cQ hb)),hA.P⟩ oM) ?_
 refine kq @ca ?_
 by_cases h0: (cj S t.dir (aD t.name)).2≠0
 ·have e1:=lH h0
  rw[if_pos h0]
  refine ky (aN @ca @e1) ?_
  refine⟨_,(ke @ca), ?_⟩
  exact⟨Ext.refl w _,rfl,X,G,List.Perm.refl _,rfl,hA.up⟩
 have YK: (cj S t.dir (aD t.name)).2=0:=by simpa using h0
 have e1: (((cj S t.dir (aD t.name)).2:Int) !=0)=false:=by rw[YK];rfl
 rw[if_neg h0]
 refine ky (aN @ca @e1) ?_
 refine Cw.regionO [0,1,2,3,5,6,7,4,8,9,10,11,12] [10] rfl kR kR ?_
 simp only[cR, ↓cS, ↓bz, ↓cG, ↓cH,b_]
 refine kq (aN @ca @rdt) ?_
 refine Ow.callX (X:=X) (Y:= [(bt,tkO t)]) rfl rfl rfl call240 (fun w' aB ab aX=>Tt X G S t.dir (aD t.name) w' ab aX hA.P oM je) (fun v4 D4 dH bE=> ?_)
 obtain⟨rfl,G',dU,kh⟩:=bE
 refine kq @ca ?_
 refine ky @ca ?_
 refine⟨_,(ke @ca), ?_⟩
 exact⟨(Ext.refl w _).came dH,rfl,D4,G',List.Perm.refl _,dU,hA.step kh (pV S _ _ []) oM (cC _)⟩
def FF (X:aA) (G:DkG) (S:DiskL) (N bt:Nat) (t:TkL) (w:World) (hX: ∀p,p∈X++ [(bt,tkO t)]→w.heap[p.1]? =some p.2) (hn: (keys (X++ [(bt,tkO t)])).Nodup) (hA:DkA X G S N) (hN:N<900000) (hB:TkB t):
  Rets prog 274 #[vp bt 0,vp G.bd 0] w (XS w (X++ [(bt,tkO t)]) (PhS G bt (vI t S) (N+1))):=by
 refine Rets.enterX func274 rfl (rs:= [.tmp 4, .tmp 5]) results274 ntmps274 hX hn ?_
 refine kf ?_
 have gg:=(kO hn).1
 have rdt:=(kO hn).2 X (tkO t) gg w
 have bC:=tc hB
 have ay:t.name.length≤900000:=hB.name
 have iv:=hB.data
 have je:=hA.pend oM
 have uN:=hA.used oM
 unfold vI
 refine kz [2] @ca ?_
 refine Cw.regionO [0,1,2,3,5,6,7,4,8,9,10,11] [10] rfl kR kR ?_
 simp only[cR, ↓cS, ↓bz, ↓cG, ↓cH,b_]
 refine kq (aN @ca @rdt) ?_
 refine Ow.callX (X:=X) (Y:= [(bt,tkO t)]) rfl rfl rfl call306 (fun w' aB ab aX=>Fl X G S t.dir (aD t.name) w' ab aX hA.P oM je) (fun v4 D4 dH bE=> ?_)
 obtain⟨rfl,G',dU,kh⟩:=bE
 refine kq @ca ?_
 refine Cw.permL (M:=(bt,tkO t)::D4) pM ?_
 have u1:=hA.step kh (Az S _ _ []) oM (cC _)
 have hE:=(Ext.refl w (X++ [(bt,tkO t)])).came dH
 generalize cI S t.dir (aD t.name)=q at*
 obtain⟨S',e⟩:=q
 simp only at u1 ⊢
 have hi: ((e:Int)==0)=(e==0):=by
  cases e with
  |zero=>rfl
  |succ n=>rfl
 refine ky (aN @ca @hi) ?_
 refine⟨_,(ke @ca), ?_⟩
 exact⟨(hE.perm (List.perm_append_comm (l₁:= [(bt,tkO t)]) (l₂:=D4))).keys rfl,rfl,D4,G',List.perm_append_comm (l₁:=D4) (l₂:= [_]),dU,u1⟩
def FI (X:aA) (G:DkG) (S:DiskL) (N bt:Nat) (t:TkL) (w:World) (hX: ∀p,p∈X++ [(bt,tkO t)]→w.heap[p.1]? =some p.2) (hn: (keys (X++ [(bt,tkO t)])).Nodup) (hA:DkA X G S N) (hN:N<900000) (hB:TkB t):
  Rets prog 275 #[vp bt 0,vp G.bd 0] w (XS w (X++ [(bt,tkO t)]) (PhS G bt (rk t S) (N+1))):=by
 refine Rets.enterX func275 rfl (rs:= [.tmp 4, .tmp 5]) results275 ntmps275 hX hn ?_
 refine kf ?_
 have gg:=(kO hn).1
 have rdt:=(kO hn).2 X (tkO t) gg w
 have bC:=tc hB
 have ay:t.name.length≤900000:=hB.name
 have iv:=hB.data
 have je:=hA.pend oM
 have uN:=hA.used oM
 unfold rk
 refine ky @ca ?_
 refine Cw.regionO [0,1,2,3,5,6,7,10,11,12,4,8,9,13,14,15,16] [14] rfl kR kR ?_
 simp only[cR, ↓cS, ↓bz, ↓cG, ↓cH,b_]
 refine kq (aN @ca @rdt) ?_
 refine Ow.callX (X:=X) (Y:= [(bt,tkO t)]) rfl rfl rfl call84 (fun w' aB ab aX=>U3 X G S t.dir (aD t.name) t.data w' ab aX hA.P oM oM uN) (fun v4 D4 dH bE=> ?_)
 obtain⟨rfl,kh⟩:=bE
 refine kq @ca ?_
 refine ky @ca ?_
 refine⟨_,(ke @ca), ?_⟩
 exact⟨(Ext.refl w _).came dH,rfl,D4,G,List.Perm.refl _,rfl,hA.step kh (qn S _ _ _) oM oM⟩
def HQ (X:aA) (G:DkG) (S:DiskL) (N bt:Nat) (t:TkL) (w:World) (hX: ∀p,p∈X++ [(bt,tkO t)]→w.heap[p.1]? =some p.2) (hn: (keys (X++ [(bt,tkO t)])).Nodup) (hA:DkA X G S N) (hN:N<900000) (hB:TkB t):
  Rets prog 276 #[vp bt 0,vp G.bd 0] w (XS w (X++ [(bt,tkO t)]) (PhS G bt (jS t S) (N+1))):=by
 refine Rets.enterX func276 rfl (rs:= [.tmp 4, .tmp 5]) results276 ntmps276 hX hn ?_
 refine kf ?_
 have gg:=(kO hn).1
 have rdt:=(kO hn).2 X (tkO t) gg w
 have bC:=tc hB
 have ay:t.name.length≤900000:=hB.name
 have iv:=hB.data
 have je:=hA.pend oM
 have uN:=hA.used oM
 unfold jS
 by_cases hl:t.light=true
 ·rw[if_pos hl]
  refine ky (aN @ca (aN @rdt @hl)) ?_
  refine⟨_,(ke @ca), ?_⟩
  exact⟨Ext.refl w _,rfl,X,G,List.Perm.refl _,rfl,hA.up⟩
 rw[if_neg hl]
 have mS:t.light=false:=by simpa using hl
 refine ky (aN @ca (aN @rdt (@mS))) ?_
 refine Cw.regionO [0,1,2,3,5,6,7,4,8,9,10,11,12] [10] rfl kR kR ?_
 simp only[cR, ↓cS, ↓bz, ↓cG, ↓cH,b_]
 refine kq (aN @ca @rdt) ?_
 refine Ow.callX (X:=X) (Y:= [(bt,tkO t)]) rfl rfl rfl call85 (fun w' aB ab aX=>Uh X G S t.dir (aD t.name) w' ab aX hA.P oM) (fun v4 D4 dH bE=> ?_)
 obtain⟨rfl,kh⟩:=bE
 refine kq @ca ?_
 refine ky @ca ?_
 refine⟨_,(ke @ca), ?_⟩
 exact⟨(Ext.refl w _).came dH,rfl,D4,G,List.Perm.refl _,rfl,hA.step kh (tT S _ _ []) oM (cC _)⟩
def Xc (X:aA) (G:DkG) (S:DiskL) (N bt:Nat) (t:TkL) (w:World) (hX: ∀p,p∈X++ [(bt,tkO t)]→w.heap[p.1]? =some p.2) (hn: (keys (X++ [(bt,tkO t)])).Nodup) (hA:DkA X G S N) (hN:N<900000) (hB:TkB t):
  Rets prog 278 #[vp bt 0,vp G.bd 0] w (XS w (X++ [(bt,tkO t)]) (PhS G bt (rO t S) (N+1))):=by
 refine Rets.enterX func278 rfl (rs:= [.tmp 4, .tmp 5]) results278 ntmps278 hX hn ?_
 refine kf ?_
 have gg:=(kO hn).1
 have rdt:=(kO hn).2 X (tkO t) gg w
 have bC:=tc hB
 have ay:t.name.length≤900000:=hB.name
 have iv:=hB.data
 have je:=hA.pend oM
 have uN:=hA.used oM
 unfold rO
 by_cases hl:t.light=true
 ·rw[if_pos hl]
  refine ky (aN @ca (aN @rdt @hl)) ?_
  refine⟨_,(ke @ca), ?_⟩
  exact⟨Ext.refl w _,rfl,X,G,List.Perm.refl _,rfl,hA.up⟩
 rw[if_neg hl]
 have mS:t.light=false:=by simpa using hl
 refine ky (aN @ca (aN @rdt (@mS))) ?_
 refine kq (aN @ca @rdt) ?_
 refine Ow.callX (X:=X) (Y:= [(bt,tkO t)]) rfl rfl rfl call308 (fun w' aB ab aX=>Xt X G S t.dir w' ab aX hA.P) (fun v4 D4 dH bE=> ?_)
 obtain⟨rfl,G',dU,kh⟩:=bE
 refine kq @ca ?_
 refine ky @ca ?_
 refine⟨_,(ke @ca), ?_⟩
 exact⟨(Ext.refl w _).came dH,rfl,D4,G',List.Perm.refl _,dU,hA.step kh (U1 S _ [] []) (cC _) (cC _)⟩
def Xv (X:aA) (G:DkG) (S:DiskL) (N bt:Nat) (t:TkL) (w:World) (hX: ∀p,p∈X++ [(bt,tkO t)]→w.heap[p.1]? =some p.2) (hn: (keys (X++ [(bt,tkO t)])).Nodup) (hA:DkA X G S N) (hN:N<900000) (hB:TkB t):
  Rets prog 277 #[vp bt 0,vp G.bd 0] w (XS w (X++ [(bt,tkO t)]) (PhS G bt (rZ t S) (N+1))):=by
 refine Rets.enterX func277 rfl (rs:= [.tmp 4, .tmp 5]) results277 ntmps277 hX hn ?_
 refine kf ?_
 have gg:=(kO hn).1
 have rdt:=(kO hn).2 X (tkO t) gg w
 have bC:=tc hB
 have ay:t.name.length≤900000:=hB.name
 have iv:=hB.data
 have je:=hA.pend oM
 have uN:=hA.used oM
 unfold rZ
 refine kz [2] @ca ?_
 refine Cw.regionO [0,1,2,3,5,6,7,10,11,12,4,8,9,13,14,15] [14] rfl kR kR ?_
 simp only[cR, ↓cS, ↓bz, ↓cG, ↓cH,b_]
 refine kq (aN @ca @rdt) ?_
 refine Ow.callX (X:=X) (Y:= [(bt,tkO t)]) rfl rfl rfl call307 (fun w' aB ab aX=>FW X G S t.dir (aD t.name) t.name w' ab aX hA.P oM oM je) (fun v4 D4 dH bE=> ?_)
 obtain⟨rfl,G',dU,kh⟩:=bE
 refine kq @ca ?_
 refine Cw.permL (M:=(bt,tkO t)::D4) pM ?_
 have u1:=hA.step kh (Ax S _ _ _) oM oM
 have hE:=(Ext.refl w (X++ [(bt,tkO t)])).came dH
 generalize cm S t.dir (aD t.name) t.name=q at*
 obtain⟨S',e⟩:=q
 simp only at u1 ⊢
 have hi: ((e:Int) !=0)=(e !=0):=by
  cases e with
  |zero=>rfl
  |succ n=>rfl
 cases hm:t.made with
 |true=>
  rw[Bool.true_and]
  refine ky (aN @ca (aN @hi @hm)) ?_
  refine⟨_,(ke @ca), ?_⟩
  exact⟨(hE.perm (List.perm_append_comm (l₁:= [(bt,tkO t)]) (l₂:=D4))).keys rfl,rfl,D4,G',List.perm_append_comm (l₁:=D4) (l₂:= [_]),dU,u1⟩
 |false=>
  rw[Bool.false_and]
  refine ky (aN @ca (aN @hi @hm)) ?_
  refine⟨_,(ke @ca), ?_⟩
  exact⟨(hE.perm (List.perm_append_comm (l₁:= [(bt,tkO t)]) (l₂:=D4))).keys rfl,rfl,D4,G',List.perm_append_comm (l₁:=D4) (l₂:= [_]),dU,u1⟩
end Go.Proofs
end
