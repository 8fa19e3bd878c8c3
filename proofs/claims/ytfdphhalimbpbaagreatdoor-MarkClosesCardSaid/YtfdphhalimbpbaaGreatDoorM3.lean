/-
  Part 3 of the walk: contracts of the functions that the law reaches, and the calculus they stand on.
  No conditions.
-/
import Derived.Test.YtfdphhalimbpbaaGreatDoorM2
import Derived.Lib.Small
import Derived.Lib.Walk
import Derived.Lib.Bytealg
import Derived.Sort.Grow
import Derived.Deep.Draws
import Derived.Deep.QuietTactic
import Derived.Shelf.SlSortCmp.NoneTotal
import Derived.Shelf.SlLaysF0
import Derived.Ground.SlsfProg
namespace Go.Dig
open Go.Sx
def rgt (x:UInt32) (n:UInt64):UInt32:=fR x n.toNat|||iy x (32 - n).toNat
def rol (x:UInt32) (k:Int):UInt32:=iy x (UInt64.ofInt k&&&31).toNat|||fR x (32 - (UInt64.ofInt k&&&31)).toNat
def k8 (x:UInt32) (a b c:Int):UInt32:=rol x (-a)^^^rol x (-b)^^^fR x c.toNat
def k7 (x:UInt32) (a b c:Int):UInt32:=rol x (-a)^^^rol x (-b)^^^rol x (-c)
def S1 (e:UInt32):UInt32:=rgt e 6^^^rgt e 11^^^rgt e 25
def S0 (a:UInt32):UInt32:=rgt a 2^^^rgt a 13^^^rgt a 22
def s1 (y:UInt32):UInt32:=rgt y 17^^^rgt y 19^^^fR y 10
def s0 (x:UInt32):UInt32:=rgt x 7^^^rgt x 18^^^fR x 3
theorem rol6 (x:UInt32):rol x (-6)=rgt x 6:=by unfold rol rgt;rw[UInt32.or_comm];rfl
theorem IC (x:UInt32):rol x (-11)=rgt x 11:=by unfold rol rgt;rw[UInt32.or_comm];rfl
theorem ID (x:UInt32):rol x (-25)=rgt x 25:=by unfold rol rgt;rw[UInt32.or_comm];rfl
theorem rol2 (x:UInt32):rol x (-2)=rgt x 2:=by unfold rol rgt;rw[UInt32.or_comm];rfl
theorem Ip (x:UInt32):rol x (-13)=rgt x 13:=by unfold rol rgt;rw[UInt32.or_comm];rfl
theorem IH (x:UInt32):rol x (-22)=rgt x 22:=by unfold rol rgt;rw[UInt32.or_comm];rfl
theorem I7 (x:UInt32):rol x (-17)=rgt x 17:=by unfold rol rgt;rw[UInt32.or_comm];rfl
theorem Iq (x:UInt32):rol x (-19)=rgt x 19:=by unfold rol rgt;rw[UInt32.or_comm];rfl
theorem rol7 (x:UInt32):rol x (-7)=rgt x 7:=by unfold rol rgt;rw[UInt32.or_comm];rfl
theorem Ih (x:UInt32):rol x (-18)=rgt x 18:=by unfold rol rgt;rw[UInt32.or_comm];rfl
theorem Ij (x:UInt32):k7 x 6 11 25=S1 x:=by unfold k7 S1;rw[rol6,IC,ID]
theorem IG (x:UInt32):k7 x 2 13 22=S0 x:=by unfold k7 S0;rw[rol2,Ip,IH]
theorem Ie (x:UInt32):k8 x 17 19 10=s1 x:=by unfold k8 s1;rw[I7,Iq];rfl
theorem Zz (x:UInt32):k8 x 7 18 3=s0 x:=by unfold k8 s0;rw[rol7,Ih];rfl
def kL:List UInt32:= [1116352408,1899447441,3049323471,3921009573,961987163,1508970993,2453635748,2870763221,3624381080,310598401,607225278,1426881987,1925078388,2162078206,2614888103,3248222580,3835390401,4022224774,264347078,604807628,770255983,1249150122,1555081692,1996064986,2554220882,2821834349,2952996808,3210313671,3336571891,3584528711,113926993,338241895,666307205,773529912,1294757372,1396182291,1695183700,1986661051,2177026350,2456956037,2730485921,2820302411,3259730800,3345764771,3516065817,3600352804,4094571909,275423344,430227734,506948616,659060556,883997877,958139571,1322822218,1537002063,1747873779,1955562222,2024104815,2227730452,2361852424,2428436474,2756734187,3204031479,3329325298]
def initL:List UInt32:= [1779033703,3144134277,1013904242,2773480762,1359893119,2600822924,528734635,1541459225]
def m6 (b:List UInt8) (i:Nat):UInt32:=
 UInt32.ofNat (b.getD (4*i) 0).toNat*16777216+UInt32.ofNat (b.getD (4*i+1) 0).toNat*65536+UInt32.ofNat (b.getD (4*i+2) 0).toNat*256+UInt32.ofNat (b.getD (4*i+3) 0).toNat
def fU (b:List UInt8) (i:Nat):List UInt32:=(List.range 64).map fun j=>if j<i then m6 b j else 0
theorem xE (b:List UInt8) (i:Nat): (fU b i).length=64:=by simp[fU]
theorem LJ (b:List UInt8) (i:Nat): (fU b i).set i (m6 b i)=fU b (i+1):=by
 apply List.ext_getElem
 ·simp[fU]
 intro k bk ap
 have hk:k<64:=by simpa [fU] using ap
 rw[List.getElem_set]
 by_cases h:i=k
 ·subst h;simp[fU]
 ·rw[if_neg h]
  simp only[fU,List.getElem_map,List.getElem_range]
  by_cases h1:k<i
  ·rw[if_pos h1,if_pos (by omega)]
  ·rw[if_neg h1,if_neg (by omega)]
theorem Ln (b:List UInt8):fU b 0=List.replicate 64 0:=by
 apply List.ext_getElem
 ·simp[fU]
 intro k bk ap
 simp only[fU,List.getElem_map,List.getElem_range,List.getElem_replicate]
 rw[if_neg (by omega)]
def m4 (w:List UInt32) (g:Nat):List UInt32:=w.set g (s1 (w.getD (g - 2) 0)+w.getD (g - 7) 0+s0 (w.getD (g - 15) 0)+w.getD (g - 16) 0)
def wGo (w:List UInt32):Nat→List UInt32
 |0=>w
 |n+1=>m4 (wGo w n) (16+n)
theorem Kq (w:List UInt32) (n:Nat): (wGo w n).length=w.length:=by
 induction n with
 |zero=>rfl
 |succ n ih=>simp[wGo,m4,ih]
def gO (b:List UInt8):List UInt32:=wGo (fU b 16) 48
theorem L6 (b:List UInt8): (gO b).length=64:=by rw[gO,Kq,xE]
def oX (s:List UInt32) (k w:UInt32):List UInt32:=
 let t:=s.getD 7 0+S1 (s.getD 4 0)+ (s.getD 4 0&&&s.getD 5 0||| ~~~ s.getD 4 0&&&s.getD 6 0)+k+w
 let u:=S0 (s.getD 0 0)+ (s.getD 0 0&&&s.getD 1 0|||s.getD 0 0&&&s.getD 2 0|||s.getD 1 0&&&s.getD 2 0)
 [t+u,s.getD 0 0,s.getD 1 0,s.getD 2 0,s.getD 3 0+t,s.getD 4 0,s.getD 5 0,s.getD 6 0]
def rGo (st w:List UInt32):Nat→List UInt32
 |0=>st
 |n+1=>oX (rGo st w n) (kL.getD n 0) (w.getD n 0)
theorem Bp (st w:List UInt32) (n:Nat) (h:st.length=8): (rGo st w n).length=8:=by
 cases n with
 |zero=>exact h
 |succ n=>rfl
def gz (st s:List UInt32) (i:Nat):List UInt32:=(List.range 8).map fun j=>if j<i then st.getD j 0+s.getD j 0 else st.getD j 0
theorem MV (st s:List UInt32) (i:Nat): (gz st s i).length=8:=by simp[gz]
theorem CN (st s:List UInt32) (i j:Nat) (hj:j<8): (gz st s i).getD j 0=if j<i then st.getD j 0+s.getD j 0 else st.getD j 0:=by
 simp[gz,List.getD_eq_getElem?_getD,hj]
theorem zz (st s:List UInt32) (i:Nat): (gz st s i).set i (st.getD i 0+s.getD i 0)=gz st s (i+1):=by
 apply List.ext_getElem
 ·simp[gz]
 intro k bk ap
 rw[List.getElem_set]
 by_cases h:i=k
 ·subst h;simp[gz]
 ·rw[if_neg h]
  simp only[gz,List.getElem_map,List.getElem_range]
  by_cases h1:k<i
  ·rw[if_pos h1,if_pos (by omega)]
  ·rw[if_neg h1,if_neg (by omega)]
theorem zK (st s:List UInt32) (h:st.length=8):gz st s 0=st:=by
 apply List.ext_getElem
 ·simp[gz,h]
 intro k bk ap
 simp[gz,List.getD_eq_getElem?_getD,ap]
def comp (st:List UInt32) (b:List UInt8):List UInt32:=gz st (rGo st (gO b) 64) 8
theorem KU (st:List UInt32) (b:List UInt8): (comp st b).length=8:=MV _ _ _
def iV (st:List UInt32) (m:List UInt8):Nat→List UInt32
 |0=>st
 |n+1=>comp (iV st m n) ((m.drop (64*n)).take 64)
theorem PH (st:List UInt32) (m:List UInt8) (n:Nat) (h:st.length=8): (iV st m n).length=8:=by
 cases n with
 |zero=>exact h
 |succ n=>exact KU _ _
theorem PQ (st:List UInt32) (m x:List UInt8) (n:Nat) (h:64*n≤m.length):iV st (m++x) n=iV st m n:=by
 induction n with
 |zero=>rfl
 |succ n ih=>
  simp only[iV]
  rw[ih (by omega),List.drop_append_of_le_length (by omega),List.take_append_of_le_length (by simp;omega)]
def gK (bg:Bool) (st:List UInt32) (rest:List UInt8) (many:Int) (taken:UInt64):List Value:=
 .bool bg:: (st.map (fun x=>Value.int .u32 (x.toNat:Int))++ (rest.map (fun x=>Value.int .u8 (x.toNat:Int))++ [vi many,v64 taken]))
def ak (bg:Bool) (st:List UInt32) (rest:List UInt8) (many:Int) (taken:UInt64):Array Value:=(gK bg st rest many taken).toArray
section
variable {bg:Bool} {st:List UInt32} {rest:List UInt8} {many:Int} {taken:UInt64} {E:TypeId}
theorem lP (h:st.length=8∧rest.length=64): (ak bg st rest many taken).size=75:=by simp[ak,gK,h]
theorem DK: (ak bg st rest many taken)[0]? =some (.bool bg):=rfl
theorem Ci (k:Nat) (hk:k<8) (h:st.length=8): (ak bg st rest many taken)[1+k]? =some (v32 (st.getD k 0)):=by
 have:1+k=k+1:=by omega
 rw[this,ak,List.getElem?_toArray,gK,List.getElem?_cons_succ,List.getElem?_append_left (by simp;omega)]
 simp[v32,List.getD_eq_getElem?_getD,h,hk]
theorem Ll (k:Nat) (hk:k<64) (h:st.length=8∧rest.length=64): (ak bg st rest many taken)[9+k]? =some (v8 (rest.getD k 0)):=by
 have:9+k=(8+k)+1:=by omega
 rw[this,ak,List.getElem?_toArray,gK,List.getElem?_cons_succ,List.getElem?_append_right (by simp;omega),List.getElem?_append_left (by simp;omega)]
 have e:8+k - (List.map (fun x:UInt32=>Value.int .u32 (x.toNat:Int)) st).length=k:=by simp;omega
 rw[e]
 simp[v8,List.getD_eq_getElem?_getD,h,hk]
theorem DV (h:st.length=8∧rest.length=64): (ak bg st rest many taken)[73]? =some (vi many):=by
 rw[ak,List.getElem?_toArray,gK,List.getElem?_cons_succ,List.getElem?_append_right (by simp;omega),List.getElem?_append_right (by simp;omega)]
 simp[h]
theorem Ct (h:st.length=8∧rest.length=64): (ak bg st rest many taken)[74]? =some (v64 taken):=by
 rw[ak,List.getElem?_toArray,gK,List.getElem?_cons_succ,List.getElem?_append_right (by simp;omega),List.getElem?_append_right (by simp;omega)]
 simp[h]
theorem xX (n:Nat):aS (some (false,n)) (some (.cells (ak bg st rest many taken) E (0,0))) 0=some (.bool bg):=DK
theorem xQ (n k:Nat) (h:k<8∧st.length=8):aS (some (false,n)) (some (.cells (ak bg st rest many taken) E (0,0))) (1+k)=some (v32 (st.getD k 0)):=Ci k h.1 h.2
theorem xV (n k:Nat) (h:k<64∧st.length=8∧rest.length=64):aS (some (false,n)) (some (.cells (ak bg st rest many taken) E (0,0))) (9+k)=some (v8 (rest.getD k 0)):=Ll k h.1 h.2
theorem xK (n j k:Nat) (h:j+k<64∧st.length=8∧rest.length=64):aS (some (false,n)) (some (.cells (ak bg st rest many taken) E (0,0))) (9+j+k)=some (v8 (rest.getD (j+k) 0)):=by
 rw[Nat.add_assoc];exact Ll (j+k) h.1 h.2
theorem xP (n:Nat) (h:st.length=8∧rest.length=64):aS (some (false,n)) (some (.cells (ak bg st rest many taken) E (0,0))) 73=some (vi many):=DV h
theorem xR (n:Nat) (h:st.length=8∧rest.length=64):aS (some (false,n)) (some (.cells (ak bg st rest many taken) E (0,0))) 74=some (v64 taken):=Ct h
theorem xY (h:st.length=8∧rest.length=64):aS (some (true,8)) (some (.cells (ak bg st rest many taken) E (0,0))) 1=some (.agg (a32 st)):=by
 have hs:1+8≤ (ak bg st rest many taken).size:=by rw[lP h];omega
 simp only[aS,hs, ↓reduceIte]
 congr 2
 rw[ak,a32,gK]
 simp only[List.extract_toArray,List.extract_eq_take_drop]
 congr 1
 simp[h]
theorem xi (h:st.length=8∧rest.length=64):aS (some (true,75)) (some (.cells (ak bg st rest many taken) E (0,0))) 0=some (.agg (ak bg st rest many taken)):=rF _ _ _ _ (lP h)
theorem FI: (ak bg st rest many taken).toList.all Value.oneCell'=true:=by
 simp[ak,gK,Value.oneCell',vi,v64]
theorem ur (old:Array Value) (h:st.length=8∧rest.length=64∧old.size=75):aZ (some (true,75)) (some (.cells old E (0,0))) 0 (.agg (ak bg st rest many taken))=some (.cells (ak bg st rest many taken) E (0,0)):=
 xf _ _ _ _ _ ⟨lP ⟨h.1,h.2.1⟩,h.2.2⟩ FI
theorem vR (i:Nat) (v:Value): (ak bg st rest many taken).setIfInBounds i v=((gK bg st rest many taken).set i v).toArray:=by simp[ak]
theorem xF (b:Bool) (h:st.length=8∧rest.length=64):aZ (some (false,1)) (some (.cells (ak bg st rest many taken) E (0,0))) 0 (.bool b)=some (.cells (ak b st rest many taken) E (0,0)):=by
 rw[qC _ _ _ _ _ (by rw[lP h];omega) rfl rfl,vR];rfl
theorem xH (k:Nat) (x:UInt32) (h:k<8∧st.length=8∧rest.length=64):aZ (some (false,1)) (some (.cells (ak bg st rest many taken) E (0,0))) (1+k) (v32 x)=some (.cells (ak bg (st.set k x) rest many taken) E (0,0)):=by
 have e:1+k=k+1:=by omega
 rw[qC _ _ _ _ _ (by rw[lP h.2];omega) rfl rfl,vR,e,gK,List.set_cons_succ,List.set_append_left _ _ (by simp;omega)]
 simp only[ak,gK,List.map_set];rfl
theorem xG (k:Nat) (x:UInt8) (h:k<64∧st.length=8∧rest.length=64):aZ (some (false,1)) (some (.cells (ak bg st rest many taken) E (0,0))) (9+k) (v8 x)=some (.cells (ak bg st (rest.set k x) many taken) E (0,0)):=by
 have e:9+k=(8+k)+1:=by omega
 rw[qC _ _ _ _ _ (by rw[lP h.2];omega) rfl rfl,vR,e,gK,List.set_cons_succ,List.set_append_right _ _ (by simp;omega),List.set_append_left _ _ (by simp;omega)]
 have e2:8+k - (List.map (fun x:UInt32=>Value.int .u32 (x.toNat:Int)) st).length=k:=by simp;omega
 rw[e2]
 simp only[ak,gK,List.map_set];rfl
theorem xJ (m:Int) (h:st.length=8∧rest.length=64):aZ (some (false,1)) (some (.cells (ak bg st rest many taken) E (0,0))) 73 (vi m)=some (.cells (ak bg st rest m taken) E (0,0)):=by
 rw[qC _ _ _ _ _ (by rw[lP h];omega) rfl rfl,vR,gK,List.set_cons_succ,List.set_append_right _ _ (by simp;omega),List.set_append_right _ _ (by simp;omega)]
 simp[ak,gK,h]
theorem xI (t:UInt64) (h:st.length=8∧rest.length=64):aZ (some (false,1)) (some (.cells (ak bg st rest many taken) E (0,0))) 74 (v64 t)=some (.cells (ak bg st rest many t) E (0,0)):=by
 rw[qC _ _ _ _ _ (by rw[lP h];omega) rfl rfl,vR,gK,List.set_cons_succ,List.set_append_right _ _ (by simp;omega),List.set_append_right _ _ (by simp;omega)]
 simp[ak,gK,h]
theorem xL (st':List UInt32) (h:st.length=8∧rest.length=64∧st'.length=8):aZ (some (true,8)) (some (.cells (ak bg st rest many taken) E (0,0))) 1 (.agg (a32 st'))=some (.cells (ak bg st' rest many taken) E (0,0)):=by
 have hs:1+8≤ (ak bg st rest many taken).size:=by rw[lP ⟨h.1,h.2.1⟩];omega
 have hp:bQ (ak bg st rest many taken) 1 (a32 st').toList=ak bg st' rest many taken:=by
  have:=vz (a32 st').toList [.bool bg] (st.map fun x=>Value.int .u32 (x.toNat:Int)) (rest.map (fun x=>Value.int .u8 (x.toNat:Int))++ [vi many,v64 taken]) (by simp[a32,h])
  simpa [ak,gK,a32] using this
 have h1: (a32 st').size=8:=by rw[vY];exact h.2.2
 simp only[aZ,aU,h1,hs,Nat.le_refl,true_or,sO,and_self, ↓reduceIte,hp]
end
def acc (b:List UInt8) (i:Nat):Nat→UInt32
 |0=>0
 |k+1=>iy (acc b i k) 8|||UInt32.ofNat (b.getD (4*i+k) 0).toNat
theorem wS (x:UInt32) (c:UInt8) (h:x.toNat<16777216): (iy x 8|||UInt32.ofNat c.toNat).toNat=x.toNat*256+c.toNat:=by
 have hc:=c.toNat_lt
 rw[UInt32.toNat_or,iy,UInt32.toNat_ofNat',UInt32.toNat_ofNat',Nat.mod_eq_of_lt (by omega),Nat.mod_eq_of_lt (by omega),←Nat.shiftLeft_eq,←Nat.shiftLeft_add_eq_or_of_lt (by omega:c.toNat<2^8),Nat.shiftLeft_eq]
theorem EX (b:List UInt8) (i:Nat):acc b i 4=m6 b i:=by
 have h0:=(b.getD (4*i) 0).toNat_lt
 have h1:=(b.getD (4*i+1) 0).toNat_lt
 have h2:=(b.getD (4*i+2) 0).toNat_lt
 have h3:=(b.getD (4*i+3) 0).toNat_lt
 have e1: (acc b i 1).toNat=(b.getD (4*i) 0).toNat:=by
  have:=wS 0 (b.getD (4*i+0) 0) (by decide)
  simpa [acc] using this
 have l1: (acc b i 1).toNat<16777216:=by omega
 have e2: (acc b i 2).toNat=(acc b i 1).toNat*256+ (b.getD (4*i+1) 0).toNat:=wS _ _ l1
 have l2: (acc b i 2).toNat<16777216:=by omega
 have e3: (acc b i 3).toNat=(acc b i 2).toNat*256+ (b.getD (4*i+2) 0).toNat:=wS _ _ l2
 have l3: (acc b i 3).toNat<16777216:=by omega
 have e4: (acc b i 4).toNat=(acc b i 3).toNat*256+ (b.getD (4*i+3) 0).toNat:=wS _ _ l3
 apply UInt32.toNat.inj
 rw[e4,e3,e2,e1]
 unfold m6
 simp only[UInt32.toNat_add,UInt32.toNat_mul,UInt32.toNat_ofNat']
 have k1: (16777216:UInt32).toNat=16777216:=rfl
 have k2: (65536:UInt32).toNat=65536:=rfl
 have k3: (256:UInt32).toNat=256:=rfl
 rw[k1,k2,k3]
 omega
theorem C9 (b:List UInt8) (g:Nat):fU b g=(fU b g).set g (acc b g 0):=by
 apply List.ext_getElem
 ·simp
 intro k bk ap
 rw[List.getElem_set]
 by_cases h:g=k
 ·subst h;simp[fU,acc]
 ·rw[if_neg h]
theorem qr {α:Type} (l:List α) (i:Nat) (x d:α) (h:i<l.length): (l.set i x).getD i d=x:=by
 simp[List.getD_eq_getElem?_getD,h]
def wG (b:List UInt8) (g:Nat):List UInt32:=wGo (fU b 16) (g - 16)
theorem LY (b:List UInt8) (g:Nat): (wG b g).length=64:=by rw[wG,Kq,xE]
theorem sW (b:List UInt8) (g:Nat) (h:16≤g):wG b (g+1)=m4 (wG b g) g:=by
 unfold wG
 have:g+1 - 16=(g - 16)+1:=by omega
 rw[this]
 show m4 _ (16+ (g - 16))=_
 rw[show 16+ (g - 16)=g from by omega]
theorem tH (b:List UInt8):wG b 64=gO b:=rfl
theorem ru (b:List UInt8):fU b 16=wG b 16:=rfl
theorem IV (a b c:UInt32): (a&&&b^^^ ~~~a&&&c)=(a&&&b||| ~~~a&&&c):=by
 apply UInt32.toBitVec_inj.1
 simp only[UInt32.toBitVec_xor,UInt32.toBitVec_or,UInt32.toBitVec_and,UInt32.toBitVec_not]
 ext i hi
 simp only[BitVec.getElem_xor,BitVec.getElem_or,BitVec.getElem_and,BitVec.getElem_not]
 cases a.toBitVec[i]<;>simp
theorem Gu (a b c:UInt32): (a&&&b^^^a&&&c^^^b&&&c)=(a&&&b|||a&&&c|||b&&&c):=by
 apply UInt32.toBitVec_inj.1
 simp only[UInt32.toBitVec_xor,UInt32.toBitVec_or,UInt32.toBitVec_and]
 ext i hi
 simp only[BitVec.getElem_xor,BitVec.getElem_or,BitVec.getElem_and]
 cases a.toBitVec[i]<;>cases b.toBitVec[i]<;>simp
def Glob (w:World):Prop:= ∃e0 e1 f0 f1,w.heap[0]? =some (.cells (a32 initL) e0 f0)∧w.heap[1]? =some (.cells (a32 kL) e1 f1)
theorem Glob.of {w0 w:World} {L:a6} (hg:Glob w0) (h:Hp w0 L w) (hk: ∀b,b∈keys L→1<b):Glob w:=by
 obtain⟨e0,e1,f0,f1,h0,h1⟩:=hg
 refine⟨e0,e1,f0,f1, ?_, ?_⟩
 ·rw[h.old 0 (Array.getElem?_eq_some_iff.1 h0).1 (fun hm=>by have:=hk 0 hm;omega)];exact h0
 ·rw[h.old 1 (Array.getElem?_eq_some_iff.1 h1).1 (fun hm=>by have:=hk 1 hm;omega)];exact h1
structure Hs where
 st:List UInt32
 rest:List UInt8
 many:Nat
structure Hs.Ok (s:Hs):Prop where
 st:s.st.length=8
 rest:s.rest.length=64
 many:s.many<64
def ez (s:Hs) (x:UInt8):Hs:=
 if s.many+1=64 then⟨comp s.st (s.rest.set s.many x),s.rest.set s.many x,0⟩ else⟨s.st,s.rest.set s.many x,s.many+1⟩
theorem wA {s:Hs} (x:UInt8) (h:s.Ok): (ez s x).Ok:=by
 unfold ez
 split
 ·exact⟨KU _ _,by simp[h.rest],by show(0:Nat)<64;omega⟩
 ·exact⟨h.st,by simp[h.rest],by show s.many+1<64;have:=h.many;omega⟩
def cU (s:Hs) (l:List UInt8):Hs:=l.foldl ez s
theorem p_ {s:Hs} (l:List UInt8) (h:s.Ok): (cU s l).Ok:=by
 induction l generalizing s with
 |nil=>exact h
 |cons x r ih=>exact ih (wA x h)
theorem qq (s:Hs) (a b:List UInt8):cU s (a++b)=cU (cU s a) b:=List.foldl_append
theorem KL {α:Type} (l:List α) (g:Nat) (d:α) (h:g<l.length):l.take (g+1)=l.take g++ [l.getD g d]:=by
 rw[List.take_add_one]
 simp[List.getD_eq_getElem?_getD,h]
theorem M3 (s:Hs) (l:List UInt8) (g:Nat) (h:g<l.length):cU s (l.take (g+1))=ez (cU s (l.take g)) (l.getD g 0):=by
 rw[KL l g 0 h,qq];rfl
def lR (bg:Bool) (s:Hs):Hs:=if bg then s else{s with st:=initL}
theorem LO {s:Hs} (bg:Bool) (h:s.Ok): (lR bg s).Ok:=by
 unfold lR;split
 ·exact h
 ·exact⟨rfl,h.rest,h.many⟩
def fN (s:Hs) (taken:UInt64):Array Value:=ak true s.st s.rest s.many taken
def jQ (t:UInt64) (l:List (List UInt8)):UInt64:=l.foldl (fun t a=>t+UInt64.ofNat a.length) t
theorem zx (t:UInt64) (l:List (List UInt8)) (g:Nat) (h:g<l.length):jQ t (l.take (g+1))=jQ t (l.take g)+UInt64.ofNat (l.getD g []).length:=by
 rw[KL l g [] h,jQ,List.foldl_append];rfl
theorem PT (l:List (List UInt8)) (g:Nat) (h:g<l.length): (l.take (g+1)).flatten=(l.take g).flatten++l.getD g []:=by
 rw[KL l g [] h,List.flatten_append];simp
theorem loadV_one (cs:Array Value) (E:TypeId) (fz:Nat×Nat) (n i:Nat):aS (some (false,n)) (some (.cells cs E fz)) i=cs[i]? :=(rfl)
end Go.Dig
section
open Go Go.Proofs Go.Sx Go.Dig
namespace Go.Proofs
set_option maxRecDepth 10000
set_option maxHeartbeats 4000000
set_option linter.unusedSimpArgs false
def GlobE (w:World):Prop:= ∃e0 e1 f0 f1,w.heap[2]? =some (.cells (a32 initL) e0 f0)∧w.heap[3]? =some (.cells (a32 kL) e1 f1)
theorem GlobE.of {w0 w:World} {L:a6} (hg:GlobE w0) (h:Hp w0 L w) (hk: ∀b,b∈keys L→3<b):GlobE w:=by
 obtain⟨e0,e1,f0,f1,h0,h1⟩:=hg
 refine⟨e0,e1,f0,f1, ?_, ?_⟩
 ·rw[h.old _ (Array.getElem?_eq_some_iff.1 h0).1 (fun hm=>by have:=hk _ hm;omega)];exact h0
 ·rw[h.old _ (Array.getElem?_eq_some_iff.1 h1).1 (fun hm=>by have:=hk _ hm;omega)];exact h1
theorem vB (x:UInt32) (k:Int) (w:World):Rets Tryz.prog 316 #[v32 x,vi k] w (fun v D=>v=v32 (rol x k)∧D= []):=by
 refine Rets.enterV Tryz.func316 rfl (rs:= [.tmp 4]) Tryz.results316 Tryz.ntmps316 ?_
 refine kf ?_
 first|with_reducible refine ks [] @Nat.add_zero ?_|refine kp @Nat.add_zero ?_
 refine⟨_,(ke @Nat.add_zero),trivial, ?_⟩
 rfl
theorem lQ (x:UInt32) (n:UInt64) (w:World):Rets Tryz.prog 196 #[v32 x,v64 n] w (fun v D=>v=v32 (rgt x n)∧D= []):=by
 refine Rets.enterV Tryz.func196 rfl (rs:= [.tmp 4]) Tryz.results196 Tryz.ntmps196 ?_
 refine kf ?_
 first|with_reducible refine ks [] @Nat.add_zero ?_|refine kp @Nat.add_zero ?_
 refine⟨_,(ke @Nat.add_zero),trivial, ?_⟩
 rfl
theorem Lu (x:UInt32) (a b c:Int) (ha:0≤a∧a≤64) (hb:0≤b∧b≤64) (hc:0≤c∧c≤64) (w:World):Rets Tryz.prog 299 #[v32 x,vi a,vi b,vi c] w (fun v D=>v=v32 (k8 x a b c)∧D= []):=by
 refine Rets.enterV Tryz.func299 rfl (rs:= [.tmp 8]) Tryz.results299 Tryz.ntmps299 ?_
 refine kf ?_
 first|with_reducible refine ks [] @Nat.add_zero ?_|refine kp @Nat.add_zero ?_
 refine Cw.regionO [0,1,2,4,5,6,9,10,11,3,7,8,12,13] [] rfl (by kernel_rfl) (by kernel_rfl) ?_
 simp only[aN, ↓aM, ↓aH, ↓aL, ↓aK,aI]
 refine kq @Nat.add_zero ?_
 refine Ow.callFV rfl Tryz.call316 (fun w' a7=>vB _ _ w') ?_
 refine kq @Nat.add_zero ?_
 refine Ow.callFV rfl Tryz.call316 (fun w' a7=>vB _ _ w') ?_
 refine kq @Nat.add_zero ?_
 first|with_reducible refine ks [] @Nat.add_zero ?_|refine kp @Nat.add_zero ?_
 refine⟨_,(ke @Nat.add_zero),trivial, ?_⟩
 rfl
theorem LR (x:UInt32) (a b c:Int) (ha:0≤a∧a≤64) (hb:0≤b∧b≤64) (hc:0≤c∧c≤64) (w:World):Rets Tryz.prog 300 #[v32 x,vi a,vi b,vi c] w (fun v D=>v=v32 (k7 x a b c)∧D= []):=by
 refine Rets.enterV Tryz.func300 rfl (rs:= [.tmp 8]) Tryz.results300 Tryz.ntmps300 ?_
 refine kf ?_
 first|with_reducible refine ks [] @Nat.add_zero ?_|refine kp @Nat.add_zero ?_
 refine Ow.callFV rfl Tryz.call316 (fun w' a7=>vB _ _ w') ?_
 refine ko @Nat.add_zero ?_
 refine Ow.callFV rfl Tryz.call316 (fun w' a7=>vB _ _ w') ?_
 refine ko @Nat.add_zero ?_
 refine Ow.callFV rfl Tryz.call316 (fun w' a7=>vB _ _ w') ?_
 refine ko @Nat.add_zero ?_
 first|with_reducible refine ks [] @Nat.add_zero ?_|refine kp @Nat.add_zero ?_
 refine⟨_,(ke @Nat.add_zero),trivial, ?_⟩
 rfl
theorem zM (w:World):Rets Tryz.prog 197 #[] w (fun v D=>v= .agg (a32 kL)∧D= []):=by
 refine Rets.enterV Tryz.func197 rfl (rs:= [.cell 0 307]) Tryz.results197 Tryz.ntmps197 ?_
 refine kf ?_
 first|with_reducible refine ks [] @Nat.add_zero ?_|refine kp @Nat.add_zero ?_
 have wy:kL.length=64:=rfl
 refine Ow.alloc rfl rfl Tryz.zr307 fun b1 _ aG=> ?_
 refine ko @Nat.add_zero ?_
 first|with_reducible refine ks [] @Nat.add_zero ?_|refine kp @Nat.add_zero ?_
 refine Ow.build (.agg (a32 kL)) rfl (by kernel_rfl) ?_
 refine ko @Nat.add_zero ?_
 first|with_reducible refine ks [] @Nat.add_zero ?_|refine kp @Nat.add_zero ?_
 refine⟨_,(ke @Nat.add_zero),⟨aG,trivial⟩, ?_⟩
 rfl
end Go.Proofs
end
section
open Go Go.Proofs Go.Sx Go.Dig
namespace Go.Proofs
set_option maxRecDepth 10000
set_option maxHeartbeats 4000000
set_option linter.unusedSimpArgs false
set_option linter.defProp false
def bG:=And.intro (And.intro (And.intro (And.intro (@xX) (@xQ)) (And.intro (@xV) (@xK))) (And.intro (And.intro (@xP) (@xR)) (And.intro (@xY) (@xi)))) (And.intro (And.intro (And.intro (@ur) (@xF)) (And.intro (@xH) (@xG))) (And.intro (And.intro (@xJ) (@xI)) (And.intro (@xL) (@qr))))
theorem DR (b:Nat) (bg:Bool) (st:List UInt32) (rest:List UInt8) (many:Int) (taken:UInt64) (w:World) (hG:GlobE w) (hb:3<b) (hs:st.length=8) (hr:rest.length=64)
  (ho:w.heap[b]? =some (.cells (ak bg st rest many taken) 298 (0,0))):
  Rets Tryz.prog 259 #[vp b 0] w (fun v D=> ∃o,D= [(b,o)]∧v= .tuple #[]∧o= .cells (ak bg (comp st rest) rest 0 taken) 298 (0,0)):=by
 obtain⟨e0,e1,f0,f1,h0,h1⟩:=hG
 have dg:=(Array.getElem?_eq_some_iff.1 ho).1
 have wy:kL.length=64:=rfl
 refine Rets.enterM Tryz.func259 rfl (rs:= []) Tryz.results259 Tryz.ntmps259 ho ?_
 refine kf ?_
 first|with_reducible refine ks [] @bG ?_|refine kp @bG ?_
 refine Ow.alloc rfl rfl Tryz.zr307 fun b1 bJ aG=> ?_
 obtain⟨SP,-⟩:=bJ
 refine ko @bG ?_
 first|with_reducible refine ks [] @bG ?_|refine kp @bG ?_
 rw[←Ln rest]
 refine Cw.loopG (G:=Nat) [14,15,3,16,17,18,19,20,21,22,23,24,25,26,27,28,29,5,30,31,32,33,34,35,36,37,38,39,40,13] (fun g=> [(13,vi g)]) (fun g=> [(b, .cells (ak bg st rest many taken) 298),(b1, .cells (a32 (fU rest g)) 307)]) (fun g=>g≤16) (fun g=>16 - g) 0 rfl rfl ?_ ?_
 ·omega
 intro g j hg
 refine kv ?_
 have aQ:=xE rest g
 by_cases aC:g<16
 ·first|with_reducible refine ks [] @bG ?_|refine kp @bG ?_
  rw[C9 rest g]
  refine Cw.loopG (G:=Nat) [27,28,29,5,30,31,32,33,34,35,36,37,38,39,26] (fun k=> [(26,vi k)]) (fun k=> [(b, .cells (ak bg st rest many taken) 298 (0,0)),(b1, .cells (a32 ((fU rest g).set g (acc rest g k))) 307 (0,0))]) (fun k=>k≤4) (fun k=>4 - k) 0 rfl rfl ?_ ?_
  ·omega
  intro k jk hk
  refine kv ?_
  by_cases Sv:k<4
  ·first|with_reducible refine ks [] @bG ?_|refine kp @bG ?_
   exact Again.mk (k+1) (by omega) (by omega) rfl rfl
  ·have hk:k=4:=by omega
   subst hk
   first|with_reducible refine ks [] @bG ?_|refine kp @bG ?_
   refine Again.mk (g+1) (by omega) (by omega) ?_ rfl
   rw[EX,LJ]
 ·have pJ:g=16:=by omega
  subst pJ
  first|with_reducible refine ks [] @bG ?_|refine kp @bG ?_
  rw[ru]
  refine Cw.loopG (G:=Nat) [41,42,45,46,47,48,49,50,51,52,53,54,55,56,57,58,59,60,61,62,63,64,65,66,67,43,44,6] (fun g=> [(6,vi g)]) (fun g=> [(b, .cells (ak bg st rest many taken) 298 (0,0)),(b1, .cells (a32 (wG rest g)) 307)]) (fun g=>16≤g∧g≤64) (fun g=>64 - g) 16 rfl rfl ?_ ?_
  ·omega
  intro g j hg
  refine kv ?_
  obtain⟨gp,iG⟩:=hg
  have aQ:=LY rest g
  by_cases aC:g<64
  ·first|with_reducible refine ks [] @bG ?_|refine kp @bG ?_
   refine Cw.regionO [0,1,2,3,6,7,8,11,12,13,17,18,19,4,9,14,20,5,10,15,16,21,22,23] [23] rfl (by kernel_rfl) (by kernel_rfl) ?_
   simp only[aN, ↓aM, ↓aH, ↓aL, ↓aK,aI]
   refine kq @bG ?_
   refine Ow.callFV rfl Tryz.call299 (fun w' a7=>Lu _ _ _ _ (by omega) (by omega) (by omega) w') ?_
   refine kq @bG ?_
   refine Ow.callFV rfl Tryz.call299 (fun w' a7=>Lu _ _ _ _ (by omega) (by omega) (by omega) w') ?_
   refine kq @bG ?_
   refine Ow.store rfl rfl rfl (ke @bG) ?_
   refine ko @bG ?_
   first|with_reducible refine ks [] @bG ?_|refine kp @bG ?_
   refine Again.mk (g+1) (by omega) (by omega) ?_ rfl
   rw[sW rest g gp,Ie,Zz];rfl
  ·have iH:g=64:=by omega
   subst iH
   rw[tH]
   have SH:=L6 rest
   first|with_reducible refine ks [] (And.intro @bG @h1) ?_|refine kp (And.intro @bG @h1) ?_
   refine Ow.alloc rfl rfl Tryz.zr251 fun b2 ck ar=> ?_
   obtain⟨SQ,jZ,-⟩:=ck
   refine ko (And.intro @bG @h1) ?_
   first|with_reducible refine ks [] (And.intro @bG @h1) ?_|refine kp (And.intro @bG @h1) ?_
   refine Cw.loopG (G:=Nat) [74,75,76,8,9,77,78,79,80,81,82,83,84,85,86,87,88,89,90,91,92,93,94,95,96,97,98,99,100,101,10,102,103,104,105,106,107,108,109,110,111,112,113,114,115,116,117,118,119,120,121,122,11,123,124,125,126,127,128,129,130,131,132,133,134,135,136,137,138,139,140,141,142,143,73] (fun g=> [(73,vi g)]) (fun g=> [(b, .cells (ak bg st rest many taken) 298 (0,0)),(b1, .cells (a32 (gO rest)) 307),(b2, .cells (a32 (rGo st (gO rest) g)) 251)]) (fun g=>g≤64) (fun g=>64 - g) 0 rfl rfl ?_ ?_
   ·omega
   ·intro g j hg
    refine kv ?_
    have jn:=Bp st (gO rest) g hs
    by_cases aC:g<64
    ·first|with_reducible refine ks [] @bG ?_|refine kp @bG ?_
     refine Cw.regionO [0,2,6,8,11,14,19,21,22,1,3,7,9,10,12,13,15,16,17,23,4,5,18,20,24,25] [] rfl (by kernel_rfl) (by kernel_rfl) ?_
     simp only[aN, ↓aM, ↓aH, ↓aL, ↓aK,aI]
     refine kq @bG ?_
     refine Ow.callFV rfl Tryz.call300 (fun w' a7=>LR _ _ _ _ (by omega) (by omega) (by omega) w') ?_
     refine kq @bG ?_
     first|with_reducible refine ks [] @bG ?_|refine kp @bG ?_
     refine Cw.regionO [0,3,5,8,10,14,16,1,4,6,7,9,11,12,13,15,17,18,19,2,20,21] [] rfl (by kernel_rfl) (by kernel_rfl) ?_
     simp only[aN, ↓aM, ↓aH, ↓aL, ↓aK,aI]
     refine kq @bG ?_
     refine Ow.callFV rfl Tryz.call300 (fun w' a7=>LR _ _ _ _ (by omega) (by omega) (by omega) w') ?_
     refine kq @bG ?_
     first|with_reducible refine ks [] @bG ?_|refine kp @bG ?_
     rw[Ij,IG,IV,Gu]
     refine Ow.build (.agg (a32 (oX (rGo st (gO rest) g) (kL.getD g 0) ((gO rest).getD g 0)))) rfl (by kernel_rfl) ?_
     have Rz: (oX (rGo st (gO rest) g) (kL.getD g 0) ((gO rest).getD g 0)).length=8:=rfl
     refine ko @bG ?_
     first|with_reducible refine ks [] @bG ?_|refine kp @bG ?_
     exact Again.mk (g+1) (by omega) (by omega) rfl rfl
    ·have iH:g=64:=by omega
     subst iH
     first|with_reducible refine ks [] @bG ?_|refine kp @bG ?_
     rw[←zK st (rGo st (gO rest) 64) hs]
     refine Cw.loopG (G:=Nat) [145,146,12,147,148,149,150,151,152,153,154,155,156,157,158,159,160,144] (fun k=> [(144,vi k)]) (fun k=> [(b, .cells (ak bg (gz st (rGo st (gO rest) 64) k) rest many taken) 298 (0,0)),(b1, .cells (a32 (gO rest)) 307),(b2, .cells (a32 (rGo st (gO rest) 64)) 251)]) (fun k=>k≤8) (fun k=>8 - k) 0 rfl rfl ?_ ?_
     ·omega
     intro k jk hk
     refine kv ?_
     have Sk:=MV st (rGo st (gO rest) 64) k
     by_cases N6:k<8
     ·first|with_reducible refine ks [] @bG ?_|refine kp @bG ?_
      refine Cw.regionO [0,1,2,3,4,6,7,10,11,5,8,9,12,13] [13] rfl (by kernel_rfl) (by kernel_rfl) ?_
      simp only[aN, ↓aM, ↓aH, ↓aL, ↓aK,aI]
      refine kq @bG ?_
      refine Ow.store rfl rfl rfl (ke @bG) ?_
      refine ko @bG ?_
      first|with_reducible refine ks [] @bG ?_|refine kp @bG ?_
      refine Again.mk (k+1) (by omega) (by omega) ?_ rfl
      rw[←zz,CN _ _ _ _ (by omega),if_neg (by omega)]
     ·have Jo:k=8:=by omega
      subst Jo
      first|with_reducible refine ks [] @bG ?_|refine kp @bG ?_
      refine⟨_,_,_,(ke @bG),rfl,⟨aG,ar,trivial⟩, ?_⟩
      exact⟨rfl,rfl⟩
end Go.Proofs
end
section
open Go Go.Proofs Go.Sx Go.Dig
namespace Go.Proofs
set_option maxRecDepth 10000
set_option maxHeartbeats 1000000
set_option linter.unusedSimpArgs false
theorem xv (n:Nat):UInt64.ofInt (n:Int)=UInt64.ofNat n:=by
 apply UInt64.toNat.inj
 rw[show UInt64.ofInt (n:Int)=UInt64.ofNat ((n:Int)%2^64).toNat from rfl,UInt64.toNat_ofNat',UInt64.toNat_ofNat']
 omega
theorem og (b o:Nat):aj Tryz.prog .eql 337 (vp b o) (.pointer none)=some (.bool false):=by
 simp[aj,eqX,er,fL,Tryz.underlying337,vp]
theorem oQ:aj Tryz.prog .eql 337 (.pointer none) (.pointer none)=some (.bool true):=by
 simp[aj,eqX,er,fL,Tryz.underlying337]
theorem oS (b o:Nat):aj Tryz.prog .neq 337 (vp b o) (.pointer none)=some (.bool true):=by
 simp[aj,eqX,er,fL,Tryz.underlying337,vp]
theorem oC:aj Tryz.prog .neq 337 (.pointer none) (.pointer none)=some (.bool false):=by
 simp[aj,eqX,er,fL,Tryz.underlying337]
set_option linter.defProp false
def ce:=And.intro (And.intro (And.intro (And.intro (@xX) (@xQ)) (And.intro (@xV) (And.intro (@xK) (@xP)))) (And.intro (And.intro (@xR) (@xY)) (And.intro (@xi) (And.intro (@ur) (@xF))))) (And.intro (And.intro (And.intro (@xH) (@xG)) (And.intro (@xJ) (And.intro (@xI) (@xL)))) (And.intro (And.intro (@qr) (@og)) (And.intro (@oQ) (And.intro (@oS) (@oC)))))
theorem Kx (b:Nat) (bg:Bool) (st:List UInt32) (rest:List UInt8) (many:Int) (taken:UInt64) (w:World) (hG:GlobE w) (hb:3<b) (hs:st.length=8) (hr:rest.length=64)
  (ho:w.heap[b]? =some (.cells (ak bg st rest many taken) 298 (0,0))):
  Rets Tryz.prog 226 #[vp b 0] w (fun v D=> ∃o,D= [(b,o)]∧v= .tuple #[]∧o= .cells (ak true (if bg then st else initL) rest many taken) 298 (0,0)):=by
 obtain⟨e0,e1,f0,f1,h0,h1⟩:=hG
 have f_:initL.length=8:=rfl
 refine Rets.enterM Tryz.func226 rfl (rs:= []) Tryz.results226 Tryz.ntmps226 ho ?_
 refine kf ?_
 cases bg
 ·first|with_reducible refine ks [] (And.intro @ce @h0) ?_|refine kp (And.intro @ce @h0) ?_
  refine⟨_,_,_,(ke @ce),rfl,trivial, ?_⟩
  exact⟨rfl,rfl⟩
 ·first|with_reducible refine ks [] (And.intro @ce @h0) ?_|refine kp (And.intro @ce @h0) ?_
  refine⟨_,_,_,(ke @ce),rfl,trivial, ?_⟩
  exact⟨rfl,rfl⟩
theorem wM (b:Nat) (s:Hs) (taken:UInt64) (x:UInt8) (w:World) (hG:GlobE w) (hb:3<b) (hs:s.Ok)
  (ho:w.heap[b]? =some (.cells (fN s taken) 298 (0,0))):
  Rets Tryz.prog 227 #[vp b 0,v8 x] w (fun v D=> ∃o,D= [(b,o)]∧v= .tuple #[]∧o= .cells (fN (ez s x) taken) 298 (0,0)):=by
 obtain⟨st,rest,many⟩:=s
 obtain⟨bP,nR,uW⟩:=hs
 simp only[fN] at ho bP nR uW ⊢
 refine Rets.enterM Tryz.func227 rfl (rs:= []) Tryz.results227 Tryz.ntmps227 ho ?_
 refine kf ?_
 first|with_reducible refine ks [] @ce ?_|refine kp @ce ?_
 refine Cw.regionO [0,1,2,3,5,6,7,4,8,9] [9] rfl (by kernel_rfl) (by kernel_rfl) ?_
 simp only[aN, ↓aM, ↓aH, ↓aL, ↓aK,aI]
 refine kq @ce ?_
 refine Ow.store rfl rfl rfl (ke @ce) ?_
 refine ko @ce ?_
 first|with_reducible refine ks [] @ce ?_|refine kp @ce ?_
 unfold ez
 by_cases gj:many+1=64
 ·simp only[gj, ↓reduceIte]
  have Qg: (many:Int)+1=64:=by omega
  have j8:many=63:=by omega
  subst j8
  rw[tX _ _ _ _ _ _ (by omega)]
  first|with_reducible refine ks [] @ce ?_|refine kp @ce ?_
  refine Ow.callM rfl rfl Tryz.call259 (by simp[keys]) (fun w' a7=>DR _ _ _ _ _ _ w' (GlobE.of hG a7 (by simp[keys];omega)) hb bP (by simp[nR]) (a7.has _ _ List.mem_cons_self)) ?_
  refine ko @ce ?_
  first|with_reducible refine ks [] @ce ?_|refine kp @ce ?_
  refine⟨_,_,_,(ke @ce),rfl,trivial, ?_⟩
  exact⟨rfl,rfl⟩
 ·rw[tM _ _ _ _ _ _ (by omega)]
  simp only[gj, ↓reduceIte]
  first|with_reducible refine ks [] @ce ?_|refine kp @ce ?_
  refine⟨_,_,_,(ke @ce),rfl,trivial, ?_⟩
  exact⟨rfl,by rw[if_neg gj];simp⟩
theorem zY (b:Nat) (bg:Bool) (s:Hs) (taken:UInt64) (x:Value) (b2 off:Nat) (l:List (List UInt8)) (arr:Array Value) (E:TypeId) (fz:Nat×Nat) (w:World) (hG:GlobE w) (hb:3<b) (hs:s.Ok) (ai:0<l.length→b≠b2)
  (hS:StrS w x l b2 off arr E fz) (hn:l.length<1099511627776) (hz: ∀i,i<l.length→(l.getD i []).length<1099511627776)
  (ho:w.heap[b]? =some (.cells (ak bg s.st s.rest s.many taken) 298 (0,0))):
  Rets Tryz.prog 185 #[vp b 0,x] w (fun v D=> ∃o,D= [(b,o)]∧v= .tuple #[]∧o= .cells (fN (cU (lR bg s) l.flatten) (jQ taken l)) 298 (0,0)):=by
 obtain⟨e0,e1,f0,f1,h0,h1⟩:=id hG
 obtain⟨st,rest,many⟩:=s
 obtain⟨bP,nR,uW⟩:=id hs
 simp only[fN] at ho bP nR uW ⊢
 refine Rets.enterM Tryz.func185 rfl (rs:= []) Tryz.results185 Tryz.ntmps185 ho ?_
 refine kf ?_
 first|with_reducible refine ks [] @ce ?_|refine kp @ce ?_
 refine Ow.callM rfl rfl Tryz.call226 (by simp[keys]) (fun w' a7=>Kx _ _ _ _ _ _ w' (GlobE.of hG a7 (by simp[keys];omega)) hb bP nR (a7.has _ _ List.mem_cons_self)) ?_
 refine ko @ce ?_
 ((try with_reducible refine Cw.go [] ?_);(try simp(disch:=(first|assumption|omega| (simp only[ac,ab,UInt64.reduceToNat];try omega))) only[↓Sx.S0,Sx.S1,Tryz.fx,ce,Nat.reduceAdd,Nat.reducePow,Int.reducePow,Nat.reduceBEq, ↓reduceIte,UInt8.reduceToNat,UInt16.reduceToNat,UInt32.reduceToNat,UInt64.reduceToNat,Int.reduceToNat,hS.len]))
 have e:ak true (if bg=true then st else initL) rest many taken=fN (cU (lR bg ⟨st,rest,many⟩) (l.take 0).flatten) (jQ taken (l.take 0)):=by cases bg<;>rfl
 rw[e]
 have mU:=LO bg hs
 generalize lR bg ⟨st,rest,many⟩=S0 at*
 refine Cw.loopG (G:=Nat) [14,15,16,5,17,18,19,20,21,6,22,23,24,25,26,27,28,29,30,31,32,33,34,35,36,37,38,13] (fun g=> [(13,vi g)]) (fun g=> [(b, .cells (fN (cU S0 (l.take g).flatten) (jQ taken (l.take g))) 298 (0,0))]) (fun g=>g≤l.length) (fun g=>l.length - g) 0 rfl rfl ?_ ?_
 ·omega
 intro g j hg
 refine kv ?_
 by_cases aC:g<l.length
 ·have pS:=hS.get g aC
  have ck:=hS.has (by omega)
  have Rj:=ai (by omega)
  have TD:=hz g aC
  ((try with_reducible refine Cw.go [] ?_);(try simp(disch:=(first|assumption|omega| (simp only[ac,ab,UInt64.reduceToNat];try omega))) only[↓Sx.S0,Sx.S1,Tryz.fx,ce,Nat.reduceAdd,Nat.reducePow,Int.reducePow,Nat.reduceBEq, ↓reduceIte,UInt8.reduceToNat,UInt16.reduceToNat,UInt32.reduceToNat,UInt64.reduceToNat,Int.reduceToNat,Sx.loadV_one,ck,pS,hS.idx]))
  have nO:=p_ (l.take g).flatten mU
  rw[show fN (cU S0 (l.take g).flatten) (jQ taken (l.take g))=fN (cU (cU S0 (l.take g).flatten) ((l.getD g []).take 0)) (jQ taken (l.take g)) from rfl]
  refine Cw.loopG (G:=Nat) [20,21,6,22,23,24,25,26,27,19] (fun k=> [(19,vi k)]) (fun k=> [(b, .cells (fN (cU (cU S0 (l.take g).flatten) ((l.getD g []).take k)) (jQ taken (l.take g))) 298 (0,0))]) (fun k=>k≤ (l.getD g []).length) (fun k=>(l.getD g []).length - k) 0 rfl rfl ?_ ?_
  ·omega
  intro k jk hk
  refine kv ?_
  by_cases b_:k< (l.getD g []).length
  ·first|with_reducible refine ks [] @ce ?_|refine kp @ce ?_
   refine Ow.callM rfl rfl Tryz.call227 (by simp[keys]) (fun w' a7=>wM _ _ _ _ w' (GlobE.of hG a7 (by simp[keys];omega)) hb (p_ _ nO) (a7.has _ _ List.mem_cons_self)) ?_
   refine ko @ce ?_
   first|with_reducible refine ks [] @ce ?_|refine kp @ce ?_
   refine Again.mk (k+1) (by omega) (by omega) ?_ rfl
   rw[M3 _ _ _ b_]
  ·have pR:k=(l.getD g []).length:=by omega
   subst pR
   have ue:=p_ (l.getD g []) nO
   have Rs:=ue.st
   have Rt:=ue.rest
   rw[List.take_length]
   unfold fN
   first|with_reducible refine ks [] @ce ?_|refine kp @ce ?_
   refine Again.mk (g+1) (by omega) (by omega) ?_ rfl
   rw[PT _ _ aC,qq,zx _ _ _ aC,show UInt64.ofInt ((l.getD g []).length:Int)=UInt64.ofNat (l.getD g []).length from xv _]
 ·have pL:g=l.length:=by omega
  subst pL
  first|with_reducible refine ks [] @ce ?_|refine kp @ce ?_
  rw[List.take_length]
  refine⟨_,_,_,(ke @ce),rfl,trivial, ?_⟩
  exact⟨rfl,rfl⟩
end Go.Proofs
end
namespace Go.Dig
open Go.Sx
def fe (m:Nat):Nat:=(120 - m)%64
def lenB (t:UInt64) (g:Nat):UInt8:=UInt8.ofNat (iP (8*t) (56 - 8*g)).toNat
def len8 (t:UInt64):List UInt8:=(List.range 8).map (lenB t)
def outB (st:List UInt32) (j:Nat):UInt8:=UInt8.ofNat (fR (st.getD (j / 4) 0) (24 - 8* (j%4))).toNat
def g8 (st:List UInt32) (k:Nat):List UInt8:=(List.range 32).map fun j=>if j<k then outB st j else 0
def ly (s:Hs) (taken:UInt64):Hs:=cU (cU (ez s 128) (List.replicate (fe (ez s 128).many) 0)) (len8 taken)
def hsum (s:Hs) (taken:UInt64):List UInt8:=g8 (ly s taken).st 32
def H0:Hs:=⟨initL,List.replicate 64 0,0⟩
theorem tY:H0.Ok:=⟨rfl,by simp[H0],by show(0:Nat)<64;omega⟩
def sumV (l:List (List UInt8)):List UInt8:=hsum (cU H0 l.flatten) (jQ 0 l)
theorem Dp {s:Hs} (x:UInt8) (h:s.Ok): (ez s x).many=(s.many+1)%64:=by
 have:=h.many
 unfold ez
 split
 ·show 0=_;omega
 ·show s.many+1=_;omega
theorem CM {s:Hs} (l:List UInt8) (h:s.Ok): (cU s l).many=(s.many+l.length)%64:=by
 induction l generalizing s with
 |nil=>have:=h.many;show s.many=_;simp;omega
 |cons x r ih=>
  show(cU (ez s x) r).many=_
  rw[ih (wA x h),Dp x h,List.length_cons];omega
theorem Cx (s:Hs) (x:UInt8) (j:Nat):cU s (List.replicate (j+1) x)=ez (cU s (List.replicate j x)) x:=by
 rw[List.replicate_succ',qq];rfl
theorem outPre_length (st:List UInt32) (k:Nat): (g8 st k).length=32:=by simp[g8]
theorem Kd (st:List UInt32):g8 st 0=List.replicate 32 0:=by
 apply List.ext_getElem
 ·simp[g8]
 intro k bk ap
 simp only[g8,List.getElem_map,List.getElem_range,List.getElem_replicate]
 rw[if_neg (by omega)]
theorem vu (st:List UInt32) (k:Nat): (g8 st k).set k (outB st k)=g8 st (k+1):=by
 apply List.ext_getElem
 ·simp[g8]
 intro j bk ap
 rw[List.getElem_set]
 by_cases h:k=j
 ·subst h;simp[g8]
 ·rw[if_neg h]
  simp only[g8,List.getElem_map,List.getElem_range]
  by_cases h1:j<k
  ·rw[if_pos h1,if_pos (by omega)]
  ·rw[if_neg h1,if_neg (by omega)]
theorem wW (st:List UInt32) (i r:Nat) (h:r<4):outB st (4*i+r)=UInt8.ofNat (fR (st.getD i 0) (24 - 8*r)).toNat:=by
 unfold outB
 rw[show(4*i+r) / 4=i by omega,show(4*i+r)%4=r by omega]
theorem Ov (x:UInt32):fR x 0=x:=by
 apply UInt32.toNat.inj
 have:=x.toNat_lt
 rw[fR,UInt32.toNat_ofNat']
 simp
theorem Ak (st:List UInt32) (i:Nat):
  ((((g8 st (4*i)).set (4*i) (UInt8.ofNat (fR (st.getD i 0) 24).toNat)).set (4*i+1) (UInt8.ofNat (fR (st.getD i 0) 16).toNat)).set (4*i+2) (UInt8.ofNat (fR (st.getD i 0) 8).toNat)).set (4*i+3) (UInt8.ofNat (st.getD i 0).toNat)=g8 st (4* (i+1)):=by
 have h0:=wW st i 0 (by omega)
 have h1:=wW st i 1 (by omega)
 have h2:=wW st i 2 (by omega)
 have h3:=wW st i 3 (by omega)
 rw[Nat.add_zero] at h0
 rw[show 24 - 8*3=0 from rfl,Ov] at h3
 rw[←h3,←h2,←h1,←h0,vu,vu,vu,vu]
 rw[show 4* (i+1)=4*i+1+1+1+1 by omega]
theorem L8 (t:UInt64): (len8 t).length=8:=by simp[len8]
theorem De (t:UInt64) (g:Nat) (h:g<8): (len8 t).getD g 0=lenB t g:=by simp[len8,List.getD_eq_getElem?_getD,h]
end Go.Dig
section
open Go Go.Proofs Go.Sx Go.Dig
namespace Go.Proofs
set_option maxRecDepth 10000
set_option maxHeartbeats 1000000
set_option linter.unusedSimpArgs false
set_option linter.defProp false
def co:=And.intro (And.intro (And.intro (And.intro (@xX) (@xQ)) (And.intro (@xV) (And.intro (@xK) (@xP)))) (And.intro (And.intro (@xR) (@xY)) (And.intro (@xi) (And.intro (@ur) (@xF))))) (And.intro (And.intro (And.intro (@xH) (@xG)) (And.intro (@xJ) (And.intro (@xI) (@xL)))) (And.intro (And.intro (@qr) (@og)) (And.intro (@oQ) (And.intro (@oS) (@oC)))))
theorem tJ:aw Tryz.prog 298=some (.agg (ak false (List.replicate 8 0) (List.replicate 64 0) 0 0)):=id (by kernel_rfl)
theorem Kp (bg:Bool) (st:List UInt32) (rest:List UInt8) (many:Int) (taken:UInt64):Value.cells (.agg (ak bg st rest many taken))=ak bg st rest many taken:=aU _
theorem Nc {bg bg':Bool} {st st':List UInt32} {rest rest':List UInt8} {many many':Int} {taken taken':UInt64} {E:TypeId} (h:st.length=8∧rest.length=64∧st'.length=8∧rest'.length=64):
  aZ (some (true,75)) (some (.cells (ak bg' st' rest' many' taken') E (0,0))) 0 (.agg (ak bg st rest many taken))=some (.cells (ak bg st rest many taken) E (0,0)):=
 ur _ ⟨h.1,h.2.1,lP h.2.2⟩
theorem DJ (b:Nat) (bg:Bool) (s:Hs) (taken:UInt64) (w:World) (hG:GlobE w) (hb:3<b) (hs:s.Ok)
  (ho:w.heap[b]? =some (.cells (ak bg s.st s.rest s.many taken) 298 (0,0))):
  Rets Tryz.prog 186 #[vp b 0] w (fun v D=>v= .agg (a8 (hsum (lR bg s) taken))∧D= []):=by
 obtain⟨e0,e1,f0,f1,h0,h1⟩:=id hG
 obtain⟨st,rest,many⟩:=s
 obtain⟨bP,nR,uW⟩:=id hs
 simp only at ho bP nR uW ⊢
 refine Rets.enterV Tryz.func186 rfl (rs:= [.cell 2 24]) Tryz.results186 Tryz.ntmps186 ?_
 refine kf ?_
 first|with_reducible refine ks [] @co ?_|refine kp @co ?_
 refine Ow.alloc rfl rfl Tryz.zr24 fun b1 bJ aG=> ?_
 refine ko @co ?_
 first|with_reducible refine ks [] @co ?_|refine kp @co ?_
 refine Ow.alloc rfl rfl tJ fun b2 ck ar=> ?_
 obtain⟨jZ,-⟩:=ck
 have dg:=(Array.getElem?_eq_some_iff.1 ho).1
 rw[Kp]
 refine ko @co ?_
 first|with_reducible refine ks [] (And.intro @co (And.intro @ho (@Nc))) ?_|refine kp (And.intro @co (And.intro @ho (@Nc))) ?_
 refine Ow.callM rfl rfl Tryz.call226 (by simp[keys]) (fun w' a7=>Kx _ _ _ _ _ _ w' (GlobE.of hG a7 (by simp[keys];omega)) (by omega) bP nR (a7.has _ _ (List.mem_cons_of_mem _ List.mem_cons_self))) ?_
 refine ko @co ?_
 first|with_reducible refine ks [] @co ?_|refine kp @co ?_
 have e:ak true (if bg=true then st else initL) rest many taken=fN (lR bg ⟨st,rest,many⟩) taken:=by cases bg<;>rfl
 rw[e]
 have mU:=LO bg hs
 generalize lR bg ⟨st,rest,many⟩=S0 at*
 refine Ow.callM rfl rfl Tryz.call227 (by simp[keys]) (fun w' a7=>wM _ _ _ 128 w' (GlobE.of hG a7 (by simp[keys];omega)) (by omega) mU (a7.has _ _ (List.mem_cons_of_mem _ List.mem_cons_self))) ?_
 refine ko @co ?_
 have mV:=wA 128 mU
 have ep:ly S0 taken=cU (cU (ez S0 128) (List.replicate (fe (ez S0 128).many) 0)) (len8 taken):=rfl
 unfold hsum
 rw[ep]
 generalize ez S0 128=S1 at*
 first|with_reducible refine ks [] @co ?_|refine kp @co ?_
 rw[show fN S1 taken=fN (cU S1 (List.replicate 0 0)) taken from rfl]
 have hz: (S1.many+fe S1.many)%64=56∧fe S1.many<64:=by have:=mV.many;unfold fe;omega
 refine Cw.loopG (G:=Nat) [15,16,17,18] (fun g=> []) (fun g=> [(b1, .cells (a8 (List.replicate 32 0)) 24 (0,0)),(b2, .cells (fN (cU S1 (List.replicate g 0)) taken) 298 (0,0))]) (fun g=>g≤fe S1.many) (fun g=>fe S1.many - g) 0 rfl rfl ?_ ?_
 ·omega
 intro g j hg
 refine kv ?_
 have kT:=p_ (List.replicate g 0) mV
 have hm:=CM (List.replicate g 0) mV
 rw[List.length_replicate] at hm
 have gp:=kT.st
 have iG:=kT.rest
 by_cases aC:g<fe S1.many
 ·have TE: (S1.many+g)%64≠56:=by have:=mV.many;unfold fe at aC;omega
  unfold fN
  first|with_reducible refine ks [] @co ?_|refine kp @co ?_
  refine Ow.callM rfl rfl Tryz.call227 (by simp[keys]) (fun w' a7=>wM _ _ _ 0 w' (GlobE.of hG a7 (by simp[keys];omega)) (by omega) kT (a7.has _ _ (List.mem_cons_of_mem _ List.mem_cons_self))) ?_
  refine ko @co ?_
  first|with_reducible refine ks [] @co ?_|refine kp @co ?_
  refine Again.mk (g+1) (by omega) (by omega) ?_ rfl
  rw[Cx];rfl
 ·have pL:g=fe S1.many:=by omega
  subst pL
  unfold fN
  first|with_reducible refine ks [] @co ?_|refine kp @co ?_
  generalize cU S1 (List.replicate (fe S1.many) 0)=S2 at*
  rw[show ak true S2.st S2.rest S2.many taken=fN (cU S2 ((len8 taken).take 0)) taken from rfl]
  have h8:=L8 taken
  refine Cw.loopG (G:=Nat) [19,20,23,24,25,26,27,28,29,21,22,4] (fun k=> [(4,vi (56 - 8*k))]) (fun k=> [(b1, .cells (a8 (List.replicate 32 0)) 24 (0,0)),(b2, .cells (fN (cU S2 ((len8 taken).take k)) taken) 298 (0,0))]) (fun k=>k≤8) (fun k=>8 - k) 0 rfl rfl ?_ ?_
  ·omega
  intro k jk hk
  refine kv ?_
  have pZ:=p_ ((len8 taken).take k) kT
  have bk:=pZ.st
  have ap:=pZ.rest
  by_cases N6:k<8
  ·unfold fN
   first|with_reducible refine ks [] @co ?_|refine kp @co ?_
   rw[show(56 - 8* (k:Int)).toNat=56 - 8*k from by omega]
   refine Ow.callM rfl rfl Tryz.call227 (by simp[keys]) (fun w' a7=>wM _ _ _ (lenB taken k) w' (GlobE.of hG a7 (by simp[keys];omega)) (by omega) pZ (a7.has _ _ (List.mem_cons_of_mem _ List.mem_cons_self))) ?_
   refine ko @co ?_
   first|with_reducible refine ks [] @co ?_|refine kp @co ?_
   refine Again.mk (k+1) (by omega) (by omega) ?_ ?_
   ·rw[M3 _ _ _ (by omega),De _ _ N6];rfl
   ·rw[show(56 - 8* ((k+1:Nat):Int))=56 - 8* (k:Int) - 8 from by omega];rfl
  ·have pR:k=8:=by omega
   subst pR
   first|with_reducible refine ks [] @co ?_|refine kp @co ?_
   rw[List.take_of_length_le (show(len8 taken).length≤8 by omega)] at*
   generalize cU S2 (len8 taken)=S3 at*
   refine Ow.alloc rfl rfl Tryz.zr24 fun b3 cQ bA=> ?_
   obtain⟨mD,mE,-⟩:=cQ
   unfold fN
   refine ko @co ?_
   first|with_reducible refine ks [] @co ?_|refine kp @co ?_
   rw[show a8 (List.replicate 32 0)=a8 (g8 S3.st (4*0)) from by rw[Kd]]
   have Sd:=(p_ (len8 taken) kT).st
   have gG:S3.st.length=8:=bk
   refine Cw.loopG (G:=Nat) [33,34,35,6,7,36,37,38,39,40,41,42,43,44,45,46,47,48,49,50,51,52,53,54,55,56,57,58,59,60,61,62,32] (fun i=> [(32,vi i)]) (fun i=> [(b1, .cells (a8 (g8 S3.st (4*0))) 24 (0,0)),(b2, .cells (ak true S3.st S3.rest S3.many taken) 298 (0,0)),(b3, .cells (a8 (g8 S3.st (4*i))) 24 (0,0))]) (fun i=>i≤8) (fun i=>8 - i) 0 rfl rfl ?_ ?_
   ·omega
   intro i ji hi
   refine kv ?_
   have K2:=outPre_length S3.st (4*i)
   have Ru:=outPre_length S3.st (4*0)
   by_cases N3:i<8
   ·first|with_reducible refine ks [] @co ?_|refine kp @co ?_
    refine Again.mk (i+1) (by omega) (by omega) ?_ rfl
    rw[Ak]
   ·have pO:i=8:=by omega
    subst pO
    first|with_reducible refine ks [] @co ?_|refine kp @co ?_
    rw[show 4*8=32 from rfl]
    refine⟨_,(ke @co),⟨aG,ar,bA,trivial⟩, ?_⟩
    rfl
end Go.Proofs
end
section
open Go Go.Proofs Go.Sx Go.Dig
namespace Go.Proofs
set_option maxRecDepth 10000
set_option maxHeartbeats 1000000
set_option linter.unusedSimpArgs false
set_option linter.defProp false
def iT:=And.intro (And.intro (And.intro (And.intro (@xX) (@xQ)) (And.intro (@xV) (And.intro (@xK) (@xP)))) (And.intro (And.intro (@xR) (@xY)) (And.intro (@xi) (And.intro (@ur) (@xF))))) (And.intro (And.intro (And.intro (@xH) (@xG)) (And.intro (@xJ) (And.intro (@xI) (@xL)))) (And.intro (And.intro (@qr) (@og)) (And.intro (@oQ) (And.intro (@oS) (@oC)))))
theorem Dn (x:Value) (b2 off:Nat) (l:List (List UInt8)) (arr:Array Value) (E:TypeId) (fz:Nat×Nat) (w:World) (hG:GlobE w)
  (hS:StrS w x l b2 off arr E fz) (hn:l.length<1099511627776) (hz: ∀i,i<l.length→(l.getD i []).length<1099511627776):
  Rets Tryz.prog 118 #[x] w (fun v D=>v= .agg (a8 (sumV l))∧D= []):=by
 obtain⟨e0,e1,f0,f1,h0,h1⟩:=id hG
 have gp:3<w.heap.size:=(Array.getElem?_eq_some_iff.1 h1).1
 have dg:0<l.length→b2<w.heap.size:=fun h=>(Array.getElem?_eq_some_iff.1 (hS.has h)).1
 refine Rets.enterV Tryz.func118 rfl (rs:= [.cell 2 24]) Tryz.results118 Tryz.ntmps118 ?_
 refine kf ?_
 first|with_reducible refine ks [] @iT ?_|refine kp @iT ?_
 refine Ow.alloc rfl rfl Tryz.zr24 fun b1 bJ aG=> ?_
 refine ko @iT ?_
 first|with_reducible refine ks [] @iT ?_|refine kp @iT ?_
 refine Ow.alloc rfl rfl tJ fun b3 cQ bA=> ?_
 obtain⟨mD,-⟩:=cQ
 rw[Kp]
 refine ko @iT ?_
 first|with_reducible refine ks [] @iT ?_|refine kp @iT ?_
 refine Ow.callM rfl rfl Tryz.call185 (by simp[keys]) (fun w' a7=>zY _ _ ⟨List.replicate 8 0,List.replicate 64 0,0⟩ _ _ _ _ _ _ _ _ w' (GlobE.of hG a7 (by simp[keys];omega)) (by omega) ⟨by simp,by simp,by simp⟩ (fun h=>by have:=dg h;omega) (hS.old a7 (fun h=>by have:=dg h;simp[keys];omega)) hn hz (a7.has _ _ (List.mem_cons_of_mem _ List.mem_cons_self))) ?_
 refine ko @iT ?_
 first|with_reducible refine ks [] @iT ?_|refine kp @iT ?_
 have nO:=p_ l.flatten tY
 have e:lR false ⟨List.replicate 8 0,List.replicate 64 0,0⟩=H0:=rfl
 rw[e]
 refine Ow.callFV rfl Tryz.call186 (fun w' a7=>DJ _ true _ _ w' (GlobE.of hG a7 (by simp[keys];omega)) (by omega) nO (a7.has _ _ (List.mem_cons_of_mem _ List.mem_cons_self))) ?_
 have di: (hsum (lR true (cU H0 l.flatten)) (jQ 0 l)).length=32:=outPre_length _ _
 refine ko @iT ?_
 first|with_reducible refine ks [] @iT ?_|refine kp @iT ?_
 refine⟨_,(ke @iT),⟨aG,bA,trivial⟩, ?_⟩
 rfl
end Go.Proofs
end
namespace Go.Dig
open Go.Sx
def quoN (t:UInt64):Nat→UInt64
 |0=>t
 |n+1=>quoN t n / 256
theorem C2 (t:UInt64) (n:Nat): (quoN t n).toNat=t.toNat / 256^n:=by
 induction n with
 |zero=>simp[quoN]
 |succ n ih=>
  show(quoN t n / 256).toNat=_
  rw[UInt64.toNat_div,ih,Nat.pow_succ,Nat.div_div_eq_div_mul];rfl
def oq (t:UInt64) (j:Nat):UInt8:=UInt8.ofNat (iP t (56 - 8*j)).toNat
theorem Fa (t:UInt64) (i:Nat) (h:i<8):UInt8.ofNat (quoN t i%256).toNat=oq t (7 - i):=by
 apply UInt8.toNat.inj
 unfold oq
 rw[UInt8.toNat_ofNat',UInt8.toNat_ofNat',UInt64.toNat_mod,C2,iP,UInt64.toNat_ofNat']
 have e:56 - 8* (7 - i)=8*i:=by omega
 have ht:=t.toNat_lt
 have hd:t.toNat / 2^ (8*i)≤t.toNat:=Nat.div_le_self _ _
 rw[e,Nat.mod_eq_of_lt (a:=t.toNat / 2^ (8*i)) (by omega)]
 have e2:256^i=2^ (8*i):=by rw[Nat.pow_mul]
 rw[e2,show(256:UInt64).toNat=256 from rfl]
 omega
def gr (t:UInt64) (i:Nat):List UInt8:=(List.range 8).map fun j=>if 8≤j+i then oq t j else 0
theorem PV (t:UInt64) (i:Nat): (gr t i).length=8:=by simp[gr]
theorem P5 (t:UInt64):gr t 0=List.replicate 8 0:=by
 apply List.ext_getElem
 ·simp[gr]
 intro k bk ap
 have:k<8:=by simpa [gr] using bk
 simp only[gr,List.getElem_map,List.getElem_range,List.getElem_replicate]
 rw[if_neg (by omega)]
theorem PC (t:UInt64) (i:Nat) (h:i<8): (gr t i).set (7 - i) (UInt8.ofNat (quoN t i%256).toNat)=gr t (i+1):=by
 rw[Fa t i h]
 apply List.ext_getElem
 ·simp[gr]
 intro j Ss RW
 have hj:j<8:=by simpa [gr] using RW
 rw[List.getElem_set]
 by_cases h1:7 - i=j
 ·rw[if_pos h1]
  simp only[gr,List.getElem_map,List.getElem_range]
  rw[if_pos (by omega),h1]
 ·rw[if_neg h1]
  simp only[gr,List.getElem_map,List.getElem_range]
  by_cases h2:8≤j+i
  ·rw[if_pos h2,if_pos (by omega)]
  ·rw[if_neg h2,if_neg (by omega)]
theorem zF (t:UInt64):gr (8*t) 8=len8 t:=by
 unfold gr len8
 apply List.map_congr_left
 intro j hj
 rw[if_pos (by omega)];rfl
def padR (m:List UInt8):List UInt8:=m++ [128]++List.replicate (fe ((m.length+1)%64)) 0++len8 (UInt64.ofNat m.length)
theorem M7 (n:Nat): (n+fe (n%64))%64=56∧fe (n%64)<64:=by unfold fe;omega
theorem AC (m:List UInt8): (padR m).length%64=0∧(padR m).length≤m.length+72:=by
 have:=M7 (m.length+1)
 simp only[padR,List.length_append,List.length_replicate,L8,List.length_cons,List.length_nil]
 omega
def shaR (m:List UInt8):List UInt8:=g8 (iV initL (padR m) ((padR m).length / 64)) 32
theorem CZ (st s:List UInt32):gz st s 8= [st.getD 0 0+s.getD 0 0,st.getD 1 0+s.getD 1 0,st.getD 2 0+s.getD 2 0,st.getD 3 0+s.getD 3 0,st.getD 4 0+s.getD 4 0,st.getD 5 0+s.getD 5 0,st.getD 6 0+s.getD 6 0,st.getD 7 0+s.getD 7 0]:=rfl
end Go.Dig
section
open Go Go.Proofs Go.Sx Go.Dig
namespace Go.Proofs
set_option maxRecDepth 10000
set_option maxHeartbeats 1000000
set_option linter.unusedSimpArgs false
set_option linter.defProp false
def ae:= @qr
theorem Nr (m:List UInt8) (hm:m.length<1099511627776) (w:World):
  Rets Tryz.prog 136 #[vs m] w (fun v D=>v=vs (padR m)∧D= []):=by
 refine Rets.enterV Tryz.func136 rfl (rs:= [.tmp 2]) Tryz.results136 Tryz.ntmps136 ?_
 refine kf ?_
 first|with_reducible refine ks [] @ae ?_|refine kp @ae ?_
 have hz:=M7 (m.length+1)
 rw[show m++ [128]=m++ [128]++List.replicate 0 0 from(List.append_nil _).symm]
 refine Cw.loopG (G:=Nat) [9,10,11,12,13,14,3] (fun g=> [(3,vs (m++ [128]++List.replicate g 0))]) (fun g=> []) (fun g=>g≤fe ((m.length+1)%64)) (fun g=>fe ((m.length+1)%64) - g) 0 rfl rfl ?_ ?_
 ·omega
 intro g j hg
 refine kv ?_
 have hl: (m++ [128]++List.replicate g 0).length=m.length+1+g:=by simp;omega
 by_cases aC:g<fe ((m.length+1)%64)
 ·have Qd: (m.length+1+g)%64≠56:=by unfold fe at*;omega
  first|with_reducible refine ks [] (And.intro @ae @hl) ?_|refine kp (And.intro @ae @hl) ?_
  refine Again.mk (g+1) (by omega) (by omega) rfl ?_
  rw[show m++ [128]++List.replicate (g+1) 0=m++ [128]++List.replicate g 0++ [0] from by rw[List.replicate_succ'];simp]
  rfl
 ·have pL:g=fe ((m.length+1)%64):=by omega
  subst pL
  first|with_reducible refine ks [] (And.intro @ae @hl) ?_|refine kp (And.intro @ae @hl) ?_
  refine Ow.alloc rfl rfl Tryz.zr306 fun b1 bJ aG=> ?_
  rw[show UInt64.ofInt (m.length:Int)=UInt64.ofNat m.length from xv _]
  refine ko @ae ?_
  first|with_reducible refine ks [] @ae ?_|refine kp @ae ?_
  generalize ht:UInt64.ofNat m.length*8=t
  rw[←P5 t]
  refine Cw.loopG (G:=Nat) [19,20,23,24,25,26,27,28,29,30,4,21,22,6] (fun i=> [(4,v64 (quoN t i)),(6,vi i)]) (fun i=> [(b1, .cells (a8 (gr t i)) 306 (0,0))]) (fun i=>i≤8) (fun i=>8 - i) 0 rfl rfl ?_ ?_
  ·omega
  intro i ji hi
  refine kv ?_
  have jM:=PV t i
  by_cases N3:i<8
  ·first|with_reducible refine ks [] @ae ?_|refine kp @ae ?_
   refine Again.mk (i+1) (by omega) (by omega) ?_ rfl
   rw[PC t i N3]
  ·have pO:i=8:=by omega
   subst pO
   first|with_reducible refine ks [] @ae ?_|refine kp @ae ?_
   rw[List.drop_zero,List.take_of_length_le (show(gr t 8).length≤8 by omega),←ht,UInt64.mul_comm,zF]
   refine⟨_,(ke @ae),⟨aG,trivial⟩, ?_⟩
   rfl
theorem BE (st:List UInt32) (blk:List UInt8) (bP:st.length=8) (Mv:blk.length=64) (w:World):
  Rets Tryz.prog 137 #[.agg (a32 st),vs blk] w (fun v D=>v= .agg (a32 (comp st blk))∧D= []):=by
 have wy:kL.length=64:=rfl
 refine Rets.enterV Tryz.func137 rfl (rs:= [.cell 4 251]) Tryz.results137 Tryz.ntmps137 ?_
 refine kf ?_
 first|with_reducible refine ks [] @ae ?_|refine kp @ae ?_
 refine Ow.box rfl rfl fun b1 bJ aG=> ?_
 refine ko @ae ?_
 refine Ow.alloc rfl rfl Tryz.zr251 fun b2 ck ar=> ?_
 obtain⟨jZ,-⟩:=ck
 refine ko @ae ?_
 first|with_reducible refine ks [] @ae ?_|refine kp @ae ?_
 refine Ow.alloc rfl rfl Tryz.zr307 fun b3 cQ bA=> ?_
 obtain⟨mD,mE,-⟩:=cQ
 refine ko @ae ?_
 first|with_reducible refine ks [] @ae ?_|refine kp @ae ?_
 rw[←Ln blk]
 refine Cw.loopG (G:=Nat) [22,23,26,27,28,29,30,31,32,33,34,35,36,37,38,39,40,41,42,43,44,45,46,47,48,49,50,51,52,53,54,55,56,24,25,6] (fun g=> [(6,vi g)]) (fun g=> [(b1, .cells (a32 st) 251 (0,0)),(b2, .cells (a32 (List.replicate 8 0)) 251 (0,0)),(b3, .cells (a32 (fU blk g)) 307 (0,0))]) (fun g=>g≤16) (fun g=>16 - g) 0 rfl rfl ?_ ?_
 ·omega
 intro g j hg
 refine kv ?_
 have aQ:=xE blk g
 by_cases aC:g<16
 ·first|with_reducible refine ks [] @ae ?_|refine kp @ae ?_
  refine Cw.regionO [0,1,2,3,4,5,6,7,8,9,10,11,12,13,14,15,16,17,18,19,20,21,22,23,24,25,26,27,28,29,30,31] [31] rfl (by kernel_rfl) (by kernel_rfl) ?_
  simp only[aN, ↓aM, ↓aH, ↓aL, ↓aK,aI]
  refine kq @ae ?_
  refine Ow.store rfl rfl rfl (ke @ae) ?_
  refine ko @ae ?_
  first|with_reducible refine ks [] @ae ?_|refine kp @ae ?_
  exact Again.mk (g+1) (by omega) (by omega) (by rw[←LJ];rfl) rfl
 ·have pJ:g=16:=by omega
  subst pJ
  first|with_reducible refine ks [] @ae ?_|refine kp @ae ?_
  rw[ru]
  refine Cw.loopG (G:=Nat) [57,58,61,62,63,64,65,66,67,68,8,9,69,70,71,72,73,74,75,76,77,78,79,80,81,82,83,84,85,86,87,88,89,90,91,92,93,94,95,96,97,59,60,7] (fun g=> [(7,vi g)]) (fun g=> [(b1, .cells (a32 st) 251 (0,0)),(b2, .cells (a32 (List.replicate 8 0)) 251 (0,0)),(b3, .cells (a32 (wG blk g)) 307 (0,0))]) (fun g=>16≤g∧g≤64) (fun g=>64 - g) 16 rfl rfl ?_ ?_
  ·omega
  intro g j hg
  refine kv ?_
  obtain⟨gp,iG⟩:=hg
  have aQ:=LY blk g
  by_cases aC:g<64
  ·first|with_reducible refine ks [] @ae ?_|refine kp @ae ?_
   refine Cw.regionO [0,1,2,4,5,6,3,8,7,9] [] rfl (by kernel_rfl) (by kernel_rfl) ?_
   simp only[aN, ↓aM, ↓aH, ↓aL, ↓aK,aI]
   refine kq @ae ?_
   first|with_reducible refine ks [] @ae ?_|refine kp @ae ?_
   refine Cw.regionO [0,1,3,6,7,9,10,11,14,16,19,20,23,24,25,12,26,2,4,5,8,13,15,17,18,21,22,27,28,29] [29] rfl (by kernel_rfl) (by kernel_rfl) ?_
   simp only[aN, ↓aM, ↓aH, ↓aL, ↓aK,aI]
   refine kq @ae ?_
   refine Ow.callFV rfl Tryz.call196 (fun w' a7=>lQ _ 17 w') ?_
   refine kq @ae ?_
   refine Ow.callFV rfl Tryz.call196 (fun w' a7=>lQ _ 19 w') ?_
   refine kq @ae ?_
   refine Ow.callFV rfl Tryz.call196 (fun w' a7=>lQ _ 7 w') ?_
   refine kq @ae ?_
   refine Ow.callFV rfl Tryz.call196 (fun w' a7=>lQ _ 18 w') ?_
   refine kq @ae ?_
   refine Ow.store rfl rfl rfl (ke @ae) ?_
   refine ko @ae ?_
   first|with_reducible refine ks [] @ae ?_|refine kp @ae ?_
   exact Again.mk (g+1) (by omega) (by omega) (by rw[sW blk g gp];rfl) rfl
  ·have iH:g=64:=by omega
   subst iH
   rw[tH]
   have SH:=L6 blk
   first|with_reducible refine ks [] @ae ?_|refine kp @ae ?_
   refine Ow.callFV rfl Tryz.call197 (fun w' a7=>zM w') ?_
   refine ko @ae ?_
   refine Ow.alloc rfl rfl Tryz.zr307 fun b4 dN cB=> ?_
   obtain⟨we,Is,qN,-⟩:=dN
   refine ko @ae ?_
   first|with_reducible refine ks [] @ae ?_|refine kp @ae ?_
   refine Cw.regionO [0,2,4,6,1,8,3,9,5,10,7,11] [] rfl (by kernel_rfl) (by kernel_rfl) ?_
   simp only[aN, ↓aM, ↓aH, ↓aL, ↓aK,aI]
   refine kq @ae ?_
   first|with_reducible refine ks [] @ae ?_|refine kp @ae ?_
   refine Cw.regionO [0,2,4,6,1,8,3,9,5,10,7,11] [] rfl (by kernel_rfl) (by kernel_rfl) ?_
   simp only[aN, ↓aM, ↓aH, ↓aL, ↓aK,aI]
   refine kq @ae ?_
   first|with_reducible refine ks [] @ae ?_|refine kp @ae ?_
   generalize hw:gO blk=W at*
   refine Cw.loopG (G:=Nat) [115,116,119,120,121,122,123,124,125,126,127,128,129,130,131,132,133,134,135,136,137,138,139,140,141,142,143,144,145,20,146,147,148,149,150,151,152,153,154,155,156,157,158,159,160,161,162,163,164,165,21,166,18,167,17,168,16,169,170,171,15,172,14,173,13,174,12,175,176,177,11,117,118,19] (fun g=> [(19,vi g),(11,v32 ((rGo st W g).getD 0 0)),(12,v32 ((rGo st W g).getD 1 0)),(13,v32 ((rGo st W g).getD 2 0)),(14,v32 ((rGo st W g).getD 3 0)),(15,v32 ((rGo st W g).getD 4 0)),(16,v32 ((rGo st W g).getD 5 0)),(17,v32 ((rGo st W g).getD 6 0)),(18,v32 ((rGo st W g).getD 7 0))]) (fun g=> [(b1, .cells (a32 st) 251 (0,0)),(b2, .cells (a32 (List.replicate 8 0)) 251 (0,0)),(b3, .cells (a32 W) 307 (0,0)),(b4, .cells (a32 kL) 307 (0,0))]) (fun g=>g≤64) (fun g=>64 - g) 0 rfl rfl ?_ ?_
   ·omega
   ·intro g j hg
    refine kv ?_
    by_cases aC:g<64
    ·first|with_reducible refine ks [] @ae ?_|refine kp @ae ?_
     refine Cw.regionO [0,1,3,6,10,11,12,13,14,15,16,17,19,20,23,24,21,25,2,4,5,7,8,9,18,22,26,27] [] rfl (by kernel_rfl) (by kernel_rfl) ?_
     simp only[aN, ↓aM, ↓aH, ↓aL, ↓aK,aI]
     refine kq @ae ?_
     refine Ow.callFV rfl Tryz.call196 (fun w' a7=>lQ _ 6 w') ?_
     refine kq @ae ?_
     refine Ow.callFV rfl Tryz.call196 (fun w' a7=>lQ _ 11 w') ?_
     refine kq @ae ?_
     refine Ow.callFV rfl Tryz.call196 (fun w' a7=>lQ _ 25 w') ?_
     refine kq @ae ?_
     first|with_reducible refine ks [] @ae ?_|refine kp @ae ?_
     refine Ow.callFV rfl Tryz.call196 (fun w' a7=>lQ _ 2 w') ?_
     refine ko @ae ?_
     refine Ow.callFV rfl Tryz.call196 (fun w' a7=>lQ _ 13 w') ?_
     refine ko @ae ?_
     refine Ow.callFV rfl Tryz.call196 (fun w' a7=>lQ _ 22 w') ?_
     refine ko @ae ?_
     first|with_reducible refine ks [] @ae ?_|refine kp @ae ?_
     exact Again.mk (g+1) (by omega) (by omega) rfl rfl
    ·have iH:g=64:=by omega
     subst iH
     first|with_reducible refine ks [] @ae ?_|refine kp @ae ?_
     have uG:comp st blk=gz st (rGo st W 64) 8:=by rw[←hw];rfl
     rw[uG]
     generalize rGo st W 64=R at*
     rw[CZ]
     refine Ow.build (.agg (a32 [st.getD 0 0+R.getD 0 0,st.getD 1 0+R.getD 1 0,st.getD 2 0+R.getD 2 0,st.getD 3 0+R.getD 3 0,st.getD 4 0+R.getD 4 0,st.getD 5 0+R.getD 5 0,st.getD 6 0+R.getD 6 0,st.getD 7 0+R.getD 7 0])) rfl (by kernel_rfl) ?_
     refine ko @ae ?_
     first|with_reducible refine ks [] @ae ?_|refine kp @ae ?_
     refine⟨_,(ke @ae),⟨aG,ar,bA,cB,trivial⟩, ?_⟩
     rfl
end Go.Proofs
end
section
open Go Go.Proofs Go.Sx Go.Dig
namespace Go.Proofs
set_option maxRecDepth 10000
set_option maxHeartbeats 1000000
set_option linter.unusedSimpArgs false
set_option linter.defProp false
def dS:= @qr
theorem An (m:List UInt8) (hm:m.length<1099511627776) (w:World):
  Rets Tryz.prog 70 #[vs m] w (fun v D=>v= .agg (a8 (shaR m))∧D= []):=by
 refine Rets.enterV Tryz.func70 rfl (rs:= [.cell 2 24]) Tryz.results70 Tryz.ntmps70 ?_
 refine kf ?_
 first|with_reducible refine ks [] @dS ?_|refine kp @dS ?_
 refine Ow.alloc rfl rfl Tryz.zr24 fun b1 bJ aG=> ?_
 refine ko @dS ?_
 first|with_reducible refine ks [] @dS ?_|refine kp @dS ?_
 refine Ow.callFV rfl Tryz.call136 (fun w' a7=>Nr m hm w') ?_
 have hp:=AC m
 unfold shaR
 generalize padR m=p at*
 refine ko @dS ?_
 first|with_reducible refine ks [] @dS ?_|refine kp @dS ?_
 refine Ow.build (.agg (a32 initL)) rfl (by kernel_rfl) ?_
 refine ko @dS ?_
 refine Ow.alloc rfl rfl Tryz.zr251 fun b2 ck ar=> ?_
 obtain⟨jZ,-⟩:=ck
 have f_:initL.length=8:=rfl
 refine ko @dS ?_
 first|with_reducible refine ks [] @dS ?_|refine kp @dS ?_
 rw[show a32 initL=a32 (iV initL p 0) from rfl]
 refine Cw.loopG (G:=Nat) [11,12,13,14,17,18,19,20,21,22,23,15,16,5] (fun g=> [(5,vi (64*g))]) (fun g=> [(b1, .cells (a8 (List.replicate 32 0)) 24 (0,0)),(b2, .cells (a32 (iV initL p g)) 251 (0,0))]) (fun g=>64*g≤p.length) (fun g=>p.length - 64*g) 0 rfl rfl ?_ ?_
 ·omega
 intro g j hg
 refine kv ?_
 have gl:=PH initL p g rfl
 by_cases aC:64*g<p.length
 ·first|with_reducible refine ks [] @dS ?_|refine kp @dS ?_
  refine Cw.regionO [1,2,3,4,5,0,6,7] [7] rfl (by kernel_rfl) (by kernel_rfl) ?_
  simp only[aN, ↓aM, ↓aH, ↓aL, ↓aK,aI]
  refine kq @dS ?_
  rw[show List.drop (64*g) (List.take (64*g+64) p)=(p.drop (64*g)).take 64 from by rw[List.drop_take];congr 1;omega]
  refine Ow.callFV rfl Tryz.call137 (fun w' a7=>BE _ _ gl (by simp;omega) w') ?_
  have RA:=KU (iV initL p g) ((p.drop (64*g)).take 64)
  refine kq @dS ?_
  refine Ow.store rfl rfl rfl (ke @dS) ?_
  refine ko @dS ?_
  first|with_reducible refine ks [] @dS ?_|refine kp @dS ?_
  exact Again.mk (g+1) (by omega) (by omega) rfl (by rw[show 64* ((g+1:Nat):Int)=64* (g:Int)+64 from by omega];rfl)
 ·have pL:g=p.length / 64:=by omega
  first|with_reducible refine ks [] @dS ?_|refine kp @dS ?_
  rw[←pL]
  refine Ow.alloc rfl rfl Tryz.zr24 fun b3 cQ bA=> ?_
  obtain⟨mD,mE,-⟩:=cQ
  refine ko @dS ?_
  first|with_reducible refine ks [] @dS ?_|refine kp @dS ?_
  generalize iV initL p g=S at*
  rw[show [(b1,Obj.cells (a8 (List.replicate 32 0)) 24 (0,0)),(b2, .cells (a32 S) 251 (0,0)),(b3, .cells (a8 (List.replicate 32 0)) 24 (0,0))]= [(b1,Obj.cells (a8 (List.replicate 32 0)) 24 (0,0)),(b2, .cells (a32 S) 251 (0,0)),(b3, .cells (a8 (g8 S 0)) 24 (0,0))] from by rw[Kd]]
  refine Cw.loopG (G:=Nat) [24,25,28,29,30,31,32,33,34,35,36,37,38,39,40,26,27,7] (fun k=> [(7,vi k)]) (fun k=> [(b1, .cells (a8 (List.replicate 32 0)) 24 (0,0)),(b2, .cells (a32 S) 251 (0,0)),(b3, .cells (a8 (g8 S k)) 24 (0,0))]) (fun k=>k≤32) (fun k=>32 - k) 0 rfl rfl ?_ ?_
  ·omega
  intro k jk hk
  refine kv ?_
  have K2:=outPre_length S k
  by_cases hk:k<32
  ·first|with_reducible refine ks [] @dS ?_|refine kp @dS ?_
   refine Again.mk (k+1) (by omega) (by omega) ?_ rfl
   have e: (UInt64.ofInt (24 - 8* ((k:Int)%4))).toNat=24 - 8* (k%4):=by
    rw[show(24 - 8* ((k:Int)%4))=((24 - 8* (k%4):Nat):Int) from by omega,xv,UInt64.toNat_ofNat',Nat.mod_eq_of_lt (by omega)]
   rw[e,←vu];rfl
  ·have pR:k=32:=by omega
   subst pR
   first|with_reducible refine ks [] @dS ?_|refine kp @dS ?_
   refine⟨_,(ke @dS),⟨aG,ar,bA,trivial⟩, ?_⟩
   rfl
end Go.Proofs
end
namespace Go.Dig
open Go.Sx
structure Inv (s:Hs) (p:List UInt8):Prop where
 ok:s.Ok
 st:s.st=iV initL p (p.length / 64)
 many:s.many=p.length%64
 rest:s.rest.take s.many=p.drop (64* (p.length / 64))
theorem Inv.put {s:Hs} {p:List UInt8} (h:Inv s p) (x:UInt8):Inv (ez s x) (p++ [x]):=by
 obtain⟨nO,bP,nM,kc⟩:=h
 have hk:=wA x nO
 have Jv:=nO.many
 have jn:=nO.rest
 have eN:64* (p.length / 64)≤p.length:=by omega
 have nS: (s.rest.set s.many x).take (s.many+1)=p.drop (64* (p.length / 64))++ [x]:=by
  rw[List.take_add_one,List.take_set,←kc]
  congr 1
  ·rw[List.set_eq_of_length_le (by simp only[List.length_take];exact Nat.min_le_left _ _)]
  ·simp[jn,Jv]
 have aQ: (p++ [x]).length=p.length+1:=by simp
 have hc:iV initL (p++ [x]) (p.length / 64)=iV initL p (p.length / 64):=PQ _ _ _ _ eN
 by_cases gj:s.many+1=64
 ·have e:ez s x=⟨comp s.st (s.rest.set s.many x),s.rest.set s.many x,0⟩:=by unfold ez;rw[if_pos gj]
  have hd: (p.length+1) / 64=p.length / 64+1:=by omega
  have hr: (s.rest.set s.many x)=p.drop (64* (p.length / 64))++ [x]:=by
   rw[←nS,gj,List.take_of_length_le (by simp[jn])]
  refine⟨hk, ?_, ?_, ?_⟩
  ·rw[e,aQ,hd]
   show comp s.st _=comp (iV initL (p++ [x]) (p.length / 64)) _
   rw[hc,←bP,hr,List.drop_append_of_le_length eN,List.take_of_length_le (by simp;omega)]
  ·rw[e,aQ];show 0=_;omega
  ·rw[e,aQ]
   show List.take 0 _=_
   rw[List.take_zero,List.drop_of_length_le (by rw[aQ];omega)]
 ·have e:ez s x=⟨s.st,s.rest.set s.many x,s.many+1⟩:=by unfold ez;rw[if_neg gj]
  have hd: (p.length+1) / 64=p.length / 64:=by omega
  refine⟨hk, ?_, ?_, ?_⟩
  ·rw[e,aQ,hd,hc];exact bP
  ·rw[e,aQ];show s.many+1=_;omega
  ·rw[e,aQ,hd]
   show List.take (s.many+1) (s.rest.set s.many x)=_
   rw[nS,List.drop_append_of_le_length eN]
theorem Inv.puts {s:Hs} {p:List UInt8} (h:Inv s p) (l:List UInt8):Inv (cU s l) (p++l):=by
 induction l generalizing s p with
 |nil=>rw[List.append_nil];exact h
 |cons x r ih=>
  have:=ih (h.put x)
  rw[List.append_assoc] at this
  exact this
theorem Inv.zero:Inv H0 []:=⟨tY,rfl,rfl,rfl⟩
theorem GL (p:List UInt8): (cU H0 p).st=iV initL p (p.length / 64):=(Inv.zero.puts p).st
theorem E7 (l:List (List UInt8)) (n:Nat):jQ (UInt64.ofNat n) l=UInt64.ofNat (n+l.flatten.length):=by
 induction l generalizing n with
 |nil=>rfl
 |cons a r ih=>
  show jQ (UInt64.ofNat n+UInt64.ofNat a.length) r=_
  rw[←UInt64.ofNat_add,ih,List.flatten_cons,List.length_append,Nat.add_assoc]
theorem HN (m:List UInt8):hsum (cU H0 m) (UInt64.ofNat m.length)=shaR m:=by
 unfold hsum shaR
 rw[←GL]
 suffices h:ly (cU H0 m) (UInt64.ofNat m.length)=cU H0 (padR m) by rw[h]
 have nM: (ez (cU H0 m) 128).many=(m.length+1)%64:=by
  have:=((Inv.zero.puts m).put 128).many
  rw[this];simp
 unfold ly padR
 rw[nM,qq,qq,qq,show cU (cU H0 m) [128]=ez (cU H0 m) 128 from rfl]
theorem sumV_eq (l:List (List UInt8)):sumV l=shaR l.flatten:=by
 unfold sumV
 have:=E7 l 0
 rw[Nat.zero_add] at this
 rw[show(0:UInt64)=UInt64.ofNat 0 from rfl,this,HN]
end Go.Dig
section
open Go Go.Proofs Go.Sx Go.StP
namespace Go.Proofs
set_option maxRecDepth 10000
set_option maxHeartbeats 400000
set_option linter.unusedSimpArgs false
theorem GlobE.new {w0 w:World} {L:a6} (hg:GlobE w0) (h:Hp w0 L w) (hn:New w0.heap.size L):GlobE w:=by
 obtain⟨e0,e1,f0,f1,h0,h1⟩:=id hg
 have:3<w0.heap.size:=(Array.getElem?_eq_some_iff.1 h1).1
 exact hg.of h fun b hb=>by have:=hn.le b hb;omega
theorem zq {k:Int} {t:List UInt8} (h:bN k t=true): (gh k t).length<100000:=by
 obtain⟨h1,h2,h3⟩:=q9 h
 have hh: (ik k).length≤4:=by unfold ik;simp only[List.length_drop,List.length_take,List.length_cons,List.length_nil];omega
 have:=j2 (t.length:Int)
 unfold gh dH
 rw[List.length_append,List.length_append]
 omega
theorem wR (m:List UInt8): (Dig.shaR m).length=32:=Dig.outPre_length _ _
set_option linter.defProp false
def bI:=And.intro (And.intro (And.intro (@gB) (@gZ)) (And.intro (@gY) (@gX))) (And.intro (And.intro (@Sx.tup2_0) (@Sx.tup2_1)) (And.intro (@cP) (@cO)))
def idV (k:Int) (t:List UInt8):IdL:=if bN k t then⟨Dig.shaR (gh k t),wR _⟩ else id0
theorem DN:eP (dK Tryz.prog 24) (aw Tryz.prog 24) []=some (.agg (a8 id0.l)):=id (by kernel_rfl)
theorem xy (k:Int) (t:List UInt8) (w:World) (hG:GlobE w):Rets Tryz.prog 66 #[obV k t] w (fun v D=>v= .tuple #[.agg (a8 (idV k t).l), .bool (bN k t)]∧D= []):=by
 refine Rets.enterV Tryz.func66 rfl (rs:= [.cell 2 24, .tmp 3]) Tryz.results66 Tryz.ntmps66 ?_
 refine kf ?_
 first|with_reducible refine ks [] @bI ?_|refine kp @bI ?_
 refine Ow.box rfl rfl fun b1 bJ aG=> ?_
 simp only[bp,bj,cJ,aU,List.nil_append]
 refine ko @bI ?_
 refine Ow.alloc rfl rfl jV fun b2 ck ar=> ?_
 simp only[aU,List.nil_append,List.cons_append]
 have jZ:b1<b2:=aP ck (by simp[keys])
 have uN:=id0.h
 refine ko @bI ?_
 refine Ow.callC rfl rfl Tryz.call117 (fun w' a7=>zI k t w') (fun B v D hA hB hN hS=> ?_)
 have hD:New w.heap.size D:=New.mono hB hN
 unfold idV
 cases hr:bN k t
 ·rw[hr,if_neg (by decide)] at hS
  subst hS
  have e: ((1:Int) !=0)=true:=rfl
  refine ko @bI ?_
  first|with_reducible refine ks [] (And.intro @bI @e) ?_|refine kp (And.intro @bI @e) ?_
  refine Ow.build (.agg (a8 id0.l)) rfl DN ?_
  refine ko @bI ?_
  first|with_reducible refine ks [] @bI ?_|refine kp @bI ?_
  refine⟨_,(ke @bI),⟨aG,ar,hD⟩, ?_⟩
  rfl
 ·rw[hr,if_pos rfl] at hS
  subst hS
  have e: ((0:Int) !=0)=false:=rfl
  have kN:=zq hr
  have SN: ∀i,i< [gh k t].length→([gh k t].getD i []).length<1099511627776:=fun i hi=>by
   obtain rfl:i=0:=by simpa using hi
   show(gh k t).length<_;omega
  refine ko @bI ?_
  first|with_reducible refine ks [] (And.intro @bI @e) ?_|refine kp (And.intro @bI @e) ?_
  refine Ow.buildSlice (e:=9) #[vs (gh k t)] rfl rfl (by kernel_rfl) fun b15 R0 uq=> ?_
  refine ko @bI ?_
  refine Ow.callFV rfl Tryz.call118 (fun w' a7=>Dn _ b15 0 [gh k t] _ _ _ w' (hG.new a7 (by exact⟨aG,ar,New.app hD ⟨uq,trivial⟩⟩)) (StrS.lit [gh k t] rfl rfl (a7.has _ (.cells #[vs (gh k t)] 9 (0,0)) (by simp))) (by show(1:Nat)<1099511627776;omega) SN) ?_
  rw[Dig.sumV_eq,show([gh k t]:List (List UInt8)).flatten=gh k t by simp]
  have di:=wR (gh k t)
  refine ko @bI ?_
  first|with_reducible refine ks [] @bI ?_|refine kp @bI ?_
  refine⟨_,(ke @bI),⟨aG,ar,hD.app ⟨uq,trivial⟩⟩, ?_⟩
  rfl
def mp (k:Int) (t:List UInt8):List UInt8:=(if k=3 then [99] else if k=2 then [116] else [98])++dH t
theorem Cm {k:Int} {t:List UInt8} (h:bN k t=true):mp k t=gh k t:=by
 obtain⟨h1,h2,-⟩:=q9 h
 unfold mp gh
 rcases(show k=1∨k=2∨k=3 by omega) with rfl|rfl|rfl<;>rfl
theorem AT (k:Int) (t:List UInt8) (w:World) (ht:t.length<100000):Rets Tryz.prog 71 #[obV k t] w (fun v D=>v=vs (mp k t)∧D= []):=by
 have tl:=qE (s:=t) (by omega)
 refine Rets.enterV Tryz.func71 rfl (rs:= [.tmp 2]) Tryz.results71 Tryz.ntmps71 ?_
 refine kf ?_
 first|with_reducible refine ks [] @bI ?_|refine kp @bI ?_
 refine Ow.box rfl rfl fun b1 bJ aG=> ?_
 simp only[bp,bj,cJ,aU,List.nil_append]
 unfold mp
 by_cases h3:k=3
 ·have e2: (k==2)=false:=beq_eq_false_iff_ne.2 (by omega)
  have e3: (k==3)=true:=by simp[h3]
  rw[if_pos h3]
  refine ko (And.intro @bI (And.intro @e2 (@e3))) ?_
  first|with_reducible refine ks [] (And.intro @bI (And.intro @e2 (@e3))) ?_|refine kp (And.intro @bI (And.intro @e2 (@e3))) ?_
  refine Ow.callFV rfl Tryz.call138 (fun w' a7=>uw t w' (by omega)) ?_
  refine ko @bI ?_
  first|with_reducible refine ks [] @bI ?_|refine kp @bI ?_
  refine⟨_,(ke @bI),⟨aG,trivial⟩, ?_⟩
  rfl
 ·have e3: (k==3)=false:=by simpa using h3
  rw[if_neg h3]
  by_cases h2:k=2
  ·have e2: (k==2)=true:=by simp[h2]
   rw[if_pos h2]
   refine ko (And.intro @bI (And.intro @e2 (@e3))) ?_
   first|with_reducible refine ks [] (And.intro @bI (And.intro @e2 (@e3))) ?_|refine kp (And.intro @bI (And.intro @e2 (@e3))) ?_
   refine Ow.callFV rfl Tryz.call138 (fun w' a7=>uw t w' (by omega)) ?_
   refine ko @bI ?_
   first|with_reducible refine ks [] @bI ?_|refine kp @bI ?_
   refine⟨_,(ke @bI),⟨aG,trivial⟩, ?_⟩
   rfl
  ·have e2: (k==2)=false:=by simpa using h2
   rw[if_neg h2]
   refine ko (And.intro @bI (And.intro @e2 (@e3))) ?_
   first|with_reducible refine ks [] (And.intro @bI (And.intro @e2 (@e3))) ?_|refine kp (And.intro @bI (And.intro @e2 (@e3))) ?_
   refine Ow.callFV rfl Tryz.call138 (fun w' a7=>uw t w' (by omega)) ?_
   refine ko @bI ?_
   first|with_reducible refine ks [] @bI ?_|refine kp @bI ?_
   refine⟨_,(ke @bI),⟨aG,trivial⟩, ?_⟩
   rfl
theorem yR (k:Int) (t:List UInt8) (w:World) (ht:t.length<100000):Rets Tryz.prog 20 #[obV k t] w (fun v D=>v= .agg (a8 (Dig.shaR (mp k t)))∧D= []):=by
 have tl:=qE (s:=t) (by omega)
 have fl: (mp k t).length<1099511627776:=by
  have nl:=j2 (t.length:Int)
  unfold mp dH;rw[List.length_append,List.length_append]
  have: ((if k=3 then [99] else if k=2 then [116] else [98]:List UInt8)).length=1:=by split<;>(try split)<;>rfl
  omega
 have di:=wR (mp k t)
 refine Rets.enterV Tryz.func20 rfl (rs:= [.cell 2 24]) Tryz.results20 Tryz.ntmps20 ?_
 refine kf ?_
 first|with_reducible refine ks [] @bI ?_|refine kp @bI ?_
 refine Ow.box rfl rfl fun b1 bJ aG=> ?_
 simp only[bp,bj,cJ,aU,List.nil_append]
 refine ko @bI ?_
 refine Ow.alloc rfl rfl jV fun b2 ck ar=> ?_
 simp only[aU,List.nil_append,List.cons_append]
 have jZ:b1<b2:=aP ck (by simp[keys])
 have uN:=id0.h
 refine ko @bI ?_
 refine Ow.callFV rfl Tryz.call71 (fun w' a7=>AT k t w' ht) ?_
 refine ko @bI ?_
 refine Ow.callFV rfl Tryz.call70 (fun w' a7=>An _ fl w') ?_
 refine ko @bI ?_
 first|with_reducible refine ks [] @bI ?_|refine kp @bI ?_
 refine⟨_,(ke @bI),⟨aG,ar,trivial⟩, ?_⟩
 rfl
instance:DecidableEq ChildL:=fun a b=>if h:a.id.l=b.id.l∧a.kind=b.kind then .isTrue (by cases a;cases b;simp only at h;obtain⟨h3,rfl⟩:=h;rw[IdL.ext' h3]) else .isFalse (fun e=>h (by rw[e];exact⟨rfl,rfl⟩))
theorem ChildL.ext' {a b:ChildL} (h: (a.id.l==b.id.l&&a.kind==b.kind)=true):a=b:=by
 simp only[Bool.and_eq_true,beq_iff_eq] at h
 cases a;cases b;simp only at h;obtain⟨h3,rfl⟩:=h;rw[IdL.ext' h3]
set_option linter.defProp false
end Go.Proofs
end
section
open Go Go.Proofs Go.Sx Go.StP
namespace Go.Proofs
set_option maxRecDepth 10000
set_option maxHeartbeats 1000000
set_option linter.unusedSimpArgs false
theorem Ei {t:List UInt8} (h:bN 2 t=true):lW t=some (cL t).1:=by
 rw[ux] at h
 unfold nx at h
 split at h
 ·cases h
 ·rw[if_pos rfl] at h
  unfold lW at h ⊢
  split at h
  ·rw[if_pos (by assumption)]
  ·cases h
theorem Fh {t:List UInt8} (h:bN 3 t=true):lT t=some (bY t).1:=by
 rw[ux] at h
 unfold nx at h
 split at h
 ·cases h
 ·rw[if_neg (by decide),if_pos rfl] at h
  unfold lT at h ⊢
  split at h
  ·rw[if_pos (by assumption)]
  ·cases h
theorem sR {t:List UInt8} (h:bN 2 t=true):dr (cL t).1=true:=by
 have:=h
 unfold bN at this
 rw[if_pos (q9 h),if_neg (by decide),if_pos rfl] at this
 simp only[Bool.and_eq_true] at this
 exact this.2
set_option linter.defProp false
def cD:=And.intro (And.intro (And.intro (And.intro (@gB) (@gZ)) (And.intro (@gY) (And.intro (@gX) (@Sx.tup2_0)))) (And.intro (And.intro (@Sx.tup2_1) (@vE)) (And.intro (@vF) (And.intro (@vK) (@ve))))) (And.intro (And.intro (And.intro (@qD) (@qA)) (And.intro (@qy) (And.intro (@r6) (@j0)))) (And.intro (And.intro (@iR) (@gM)) (And.intro (@jO) (And.intro (@cP) (@cO)))))
theorem Nk (k:Int) (t:List UInt8) (w:World) (hr:bN k t=true):Rets Tryz.prog 74 #[obV k t] w (XS w [] (fun v D=>Gr D 59 33 v (eO k t).length ((eO k t).map aB).flatten)):=by
 obtain⟨bk,nK,ht⟩:=q9 hr
 refine Rets.enterX Tryz.func74 rfl (rs:= [.tmp 2]) Tryz.results74 Tryz.ntmps74 (fun p hp=>by cases hp) (by simp[keys]) ?_
 refine kf ?_
 first|with_reducible refine ks [] @cD ?_|refine kp @cD ?_
 refine Ow.box rfl rfl fun b1 bJ aG=> ?_
 simp only[bp,bj,cJ,aU,List.nil_append]
 rcases(show k=1∨k=2∨k=3 by omega) with rfl|rfl|rfl
 ·have e2: ((1:Int)==2)=false:=rfl
  have e3: ((1:Int)==3)=false:=rfl
  refine ko (And.intro @cD (And.intro @e2 (@e3))) ?_
  first|with_reducible refine ks [] (And.intro @cD (And.intro @e2 (@e3))) ?_|refine kp (And.intro @cD (And.intro @e2 (@e3))) ?_
  refine⟨_,(ke @cD), ?_⟩
  refine⟨Ext.of_new ⟨aG,trivial⟩, ?_⟩
  have e:eO 1 t= []:=by unfold eO;rw[hr];rfl
  rw[e];exact Gr.nl
 ·have e2: ((2:Int)==2)=true:=rfl
  have e3: ((2:Int)==3)=false:=rfl
  refine ko (And.intro @cD (And.intro @e2 (@e3))) ?_
  first|with_reducible refine ks [] (And.intro @cD (And.intro @e2 (@e3))) ?_|refine kp (And.intro @cD (And.intro @e2 (@e3))) ?_
  refine Ow.callC rfl rfl Tryz.call68 (fun w' a7=>MU t w' (by omega)) (fun B v D hA hB hN hS=> ?_)
  unfold lr at hS
  rw[Ei hr] at hS
  obtain⟨v1,rfl,nB⟩:=hS
  have Js:=(xl (sR hr)).1
  have gl:eO 2 t=(cL t).1.map dA:=by unfold eO;rw[hr,if_pos rfl,if_pos rfl]
  rw[gl]
  generalize (cL t).1=l at*
  obtain⟨MY,-⟩:=hA
  have ln1:=nB.len
  have hD:New w.heap.size D:=New.mono hB hN
  refine ko @cD ?_
  first|with_reducible refine ks [] (And.intro @cD @ln1) ?_|refine kp (And.intro @cD @ln1) ?_
  refine Cw.permL (M:=(b1,Obj.cells #[vi 2,vs t] 35 (0,0)):: (D++ [])) (by rw[List.append_nil]) ?_
  refine Cw.loopG (G:=ChG) [19,20,21,22,25,26,27,28,29,30,31,32,33,34,35,36,37,38,3,23,24,6] (fun q=> [(3,q.v),(6,vi q.g)]) (fun q=>(b1,Obj.cells #[vi 2,vs t] 35 (0,0)):: (D++q.D)) (fun q=>q.g≤l.length∧New w.heap.size q.D∧SepK b1 D q.D∧Gr q.D 59 33 q.v ((l.take q.g).map dA).length (((l.take q.g).map dA).map aB).flatten) (fun q=>l.length - q.g) ⟨0, .slice none 0 0,[]⟩ rfl rfl ?_ ?_
  ·exact⟨Nat.zero_le _,trivial,SepK.nil,Gr.nl⟩
  ·intro q jq hq
   refine kv ?_
   obtain⟨g,v,D2⟩:=q
   simp only at hq ⊢
   obtain⟨uL,cw,jA,hG⟩:=hq
   by_cases aC:g<l.length
   ·obtain⟨c,cc,rest,rfl,kQ⟩:=Gr.rows nB (by omega)
    have nG:=cE kQ
    have wu:=hN.le c nG
    have cF:b1≠c:=by omega
    have dE:c∉keys D2:=fun hm=>by have:=(jA c hm).2 c nG;omega
    have rdc: ∀M,aO w (D++M) c=some (cI rest l):=fun M=>ah (bB kQ)
    have ldc1: ∀n,aS (some (false,n)) (some (cI rest l)) (g*34+1)=some (vi (l.getD g ent0).kind):=fun n=>by
     obtain⟨A,C,e,J0,-⟩:=xe (z:=ent0) (rest:=rest) eB aC
     show aS (some (false,n)) (some (.cells ((l.map aD).flatten++rest).toArray 117 (0,0))) (g*34+1)=_
     rw[e]
     generalize l.getD g ent0=x
     rw[show A++ (aD x++C)=(A++ [vs x.name])++ ([vi x.kind]++ (x.id.l.map v8++C)) by unfold aD;simp only[List.append_assoc]]
     exact my _ _ _ n _ _ (by simp[J0])
    have ldc2:aS (some (true,32)) (some (cI rest l)) (g*34+2)=some (.agg (a8 (l.getD g ent0).id.l)):=by
     obtain⟨A,C,e,J0,-⟩:=xe (z:=ent0) (rest:=rest) eB aC
     show aS (some (true,32)) (some (.cells ((l.map aD).flatten++rest).toArray 117 (0,0))) (g*34+2)=_
     rw[e]
     generalize l.getD g ent0=x
     rw[show A++ (aD x++C)=(A++ ([vs x.name]++ [vi x.kind]))++ (x.id.l.map v8++C) by unfold aD;simp only[List.append_assoc]]
     exact mr _ _ _ _ _ (by simp[J0]) (by simp[x.id.h])
    have iu:=xm dA ent0 aC
    have iL: ((l.take g).map dA).length=g:=by rw[List.length_map,List.length_take];omega
    generalize hx:l.getD g ent0=x at ldc1 ldc2 iu
    first|with_reducible refine ks [6] @cD ?_|refine kp @cD ?_
    refine Cw.regionS [c] [0,1,2,3,4,6,7,8,9,5,10,11,12,13,14] [] (by kernel_rfl) (by kernel_rfl) (by kernel_rfl) ?_
    simp only[aN, ↓aM, ↓aH, ↓aL, ↓aK,aI]
    refine kq (And.intro @cD (And.intro @rdc (And.intro @ldc1 (@ldc2)))) ?_
    refine Ow.build (.agg (aB (dA x)).toArray) rfl (qx (dA x)) ?_
    refine kq @cD ?_
    refine Ow.soft rfl rfl rfl ?_
    refine Ow.buildSlice (e:=59) (aB (dA x)).toArray rfl rfl (gw Tryz.underlying44 fK d_ (by decide) (bU _)) fun b13 bz dp=> ?_
    with_reducible refine Ow.nil ?_
    refine⟨fun q hq=>by rw[List.mem_singleton.1 hq];exact vO (by simp only[keys,List.map_cons,List.map_append,List.mem_cons,List.mem_append] at nG ⊢;simp[nG]), ?_⟩
    try simp only[List.cons_append,List.append_assoc]
    refine Ow.soft rfl rfl rfl ?_
    refine Ow.permL (M:=D2++ ((b1,Obj.cells #[vi 2,vs t] 35 (0,0)):: (D++ [(b13,Obj.cells (aB (dA x)).toArray 59 (0,0))]))) (by classical exact List.perm_iff_count.2 fun a=>by simp only[List.count_append,List.count_cons,List.count_nil]<;>omega) ?_
    refine Ow.appendX (e:=59) (k:=1) (new:=aB (dA x)) (X:=D2) v rfl rfl rfl rfl Tryz.underlying44 fK (by kernel_rfl) d_ (by rw[fj,List.size_toArray,bU]) Tryz.underlying44 (by intro k h;cases h) hG (fun w' a7=>AppX.one1 (a7.has b13 (.cells (aB (dA x)).toArray 59 (0,0)) (by simp)) (bU _) (iQ _)) (by omega) (by rw[iL];omega) (fun B2 v4 D4 dv eL bh bk ap jG=> ?_)
    have cq:New w.heap.size D4:=New.of_le fun q hq=>by
     rcases ap q hq with h|h
     ·exact cw.le q h
     ·omega
    have nD:SepK b1 D D4:=jA.grow ap (aP dv (by simp[aT,keys])) fun d hd=>aP dv (by simp only[keys,List.map_cons,List.map_nil,List.map_append,List.mem_cons,List.mem_append] at hd ⊢;simp[hd])
    have fq:c∉keys D4:=fun hm=>by have:=(nD c hm).2 c nG;omega
    have eX:SepK b1 D (D4++ [(b13,Obj.cells (aB (dA x)).toArray 59 (0,0))]):=by
     refine nD.app ?_
     exact SepK.nil.cons (aP bz (by simp[keys])) fun d hd=>aP bz (by simp only[keys,List.map_cons,List.map_nil,List.map_append,List.mem_cons,List.mem_append] at hd ⊢;simp[hd])
    with_reducible refine Ow.nil ?_
    refine⟨fun q hq=> ?_, ?_⟩
    ·rw[List.mem_singleton.1 hq,uy fq]
     simp(disch:=omega) only[dD]
     rw[rdc,rdc]
    refine kq @cD ?_
    refine Cw.permL (M:=(b1,Obj.cells #[vi 2,vs t] 35 (0,0)):: (D++ (D4++ [(b13,Obj.cells (aB (dA x)).toArray 59 (0,0))]))) (by classical exact List.perm_iff_count.2 fun a=>by simp only[List.count_append,List.count_cons,List.count_nil]<;>omega) ?_
    first|with_reducible refine ks [] @cD ?_|refine kp @cD ?_
    refine Again.mk (ChG.mk (g+1) v4 (D4++ [(b13,Obj.cells (aB (dA x)).toArray 59 (0,0))])) (by show l.length - (g+1)<l.length - g;omega) ⟨by show g+1≤l.length;omega,cq.app ⟨dp,trivial⟩,eX, ?_⟩ rfl rfl
    show Gr _ _ _ _ ((l.take (g+1)).map dA).length (((l.take (g+1)).map dA).map aB).flatten
    rw[iu]
    exact Gr.app (Gr.snoc rfl bh)
   ·obtain rfl:g=l.length:=by omega
    rw[List.take_length] at hG
    first|with_reducible refine ks [] (And.intro @cD (And.intro @e3 (@ln1))) ?_|refine kp (And.intro @cD (And.intro @e3 (@ln1))) ?_
    refine⟨_,(ke @cD), ?_⟩
    refine⟨Ext.of_new ⟨aG,hD.app cw⟩, ?_⟩
    exact hG.keep fun b o hb ho=>jA.look ho
 ·have e2: ((3:Int)==2)=false:=rfl
  have e3: ((3:Int)==3)=true:=rfl
  refine ko (And.intro @cD (And.intro @e2 (@e3))) ?_
  first|with_reducible refine ks [] (And.intro @cD (And.intro @e2 (@e3))) ?_|refine kp (And.intro @cD (And.intro @e2 (@e3))) ?_
  refine Ow.callC rfl rfl Tryz.call69 (fun w' a7=>MQ t w' (by omega)) (fun B v D hA hB hN hS=> ?_)
  unfold lZ at hS
  rw[Fh hr] at hS
  obtain⟨p,rfl,qd⟩:=hS
  have g7:=yW t
  have gl:eO 3 t=⟨(bY t).1.tree,2⟩:: (bY t).1.par.map cS:=by
   unfold eO
   rw[hr,if_pos rfl,if_neg (by decide),if_pos rfl]
  rw[gl]
  generalize (bY t).1.par=pl at*
  generalize (bY t).1.tree=T at*
  generalize (bY t).1.text=tx at*
  have lnp:=qd.len
  have hD:New w.heap.size D:=New.mono hB hN
  have st7: ∀a E,aZ (some (a,34)) (some (.cells (aY id0 (.slice none 0 0) []).toArray E (0,0))) 0 (.agg (aY T p tx).toArray)=some (.cells (aY T p tx).toArray E (0,0)):=fun a E=>wb _ _ _ _ a E (by rw[List.size_toArray,pu]) qd.cell.1
  refine ko @cD ?_
  refine Ow.alloc rfl rfl kC fun b7 jg ma=> ?_
  simp only[aU,List.nil_append,List.cons_append]
  have ou:b1<b7:=aP jg (by simp[keys])
  have mH: ∀d,d∈keys D→d<b7:=fun d hd=>aP jg (by simp only[keys,List.map_cons,List.map_append,List.mem_cons,List.mem_append] at hd ⊢;simp[hd])
  refine Ow.permL (M:=(b7,Obj.cells (aY id0 (.slice none 0 0) []).toArray 126 (0,0)):: (b1,Obj.cells #[vi 3,vs t] 35 (0,0))::D) (by classical exact List.perm_iff_count.2 fun a=>by simp only[List.count_append,List.count_cons,List.count_nil]<;>omega) ?_
  refine ko (And.intro @cD @st7) ?_
  first|with_reducible refine ks [] @cD ?_|refine kp @cD ?_
  refine Ow.build (.agg (aB ⟨T,2⟩).toArray) rfl (qx ⟨T,2⟩) ?_
  refine ko @cD ?_
  refine Ow.buildSlice (e:=59) (aB ⟨T,2⟩).toArray rfl rfl (gw Tryz.underlying44 fK d_ (by decide) (bU _)) fun b13 bz dp=> ?_
  have I':b7<b13:=aP bz (by simp[keys])
  have QM:b1<b13:=aP bz (by simp[keys])
  have ox: ∀d,d∈keys D→d<b13:=fun d hd=>by have:=mH d hd;omega
  refine Ow.permL (M:= []++ ((b13,Obj.cells (aB ⟨T,2⟩).toArray 59 (0,0)):: (b7,Obj.cells (aY T p tx).toArray 126 (0,0)):: (b1,Obj.cells #[vi 3,vs t] 35 (0,0))::D)) (by classical exact List.perm_iff_count.2 fun a=>by simp only[List.count_append,List.count_cons,List.count_nil]<;>omega) ?_
  refine Ow.appendX (e:=59) (n:=0) (cs:= []) (k:=1) (new:=aB ⟨T,2⟩) (X:= []) (.slice none 0 0) rfl rfl rfl rfl Tryz.underlying44 fK (by kernel_rfl) d_ (by rw[fj,List.size_toArray,bU]) Tryz.underlying44 (by intro k h;cases h) Gr.nl (fun w' a7=>AppX.one1 (a7.has b13 (.cells (aB ⟨T,2⟩).toArray 59 (0,0)) (by simp)) (bU _) (iQ _)) (by omega) (by omega) (fun B2 v4 D4 dv eL bh bk ap jG=> ?_)
  have cq:New w.heap.size D4:=New.of_le fun q hq=>by
   rcases ap q hq with h|h
   ·cases h
   ·omega
  have eX:SepK b7 ((b1,Obj.cells #[vi 3,vs t] 35 (0,0))::D) (D4++ [(b13,Obj.cells (aB ⟨T,2⟩).toArray 59 (0,0))]):=by
   refine SepK.app (SepK.nil.grow ap (aP dv (by simp[keys])) fun d hd=>aP dv (by simp only[keys,List.map_cons,List.map_append,List.nil_append,List.mem_cons,List.mem_append] at hd ⊢;rcases hd with hd|hd<;>simp[hd])) (SepK.nil.cons I' fun d hd=> ?_)
   simp only[keys,List.map_cons,List.mem_cons] at hd
   rcases hd with hd|hd
   ·omega
   ·exact ox d hd
  refine Ow.permL (M:=(b7,Obj.cells (aY T p tx).toArray 126 (0,0)):: ((b1,Obj.cells #[vi 3,vs t] 35 (0,0))::D++ (D4++ [(b13,Obj.cells (aB ⟨T,2⟩).toArray 59 (0,0))]))) (by classical exact List.perm_iff_count.2 fun a=>by simp only[List.count_append,List.count_cons,List.count_nil]<;>omega) ?_
  have kD:Gr (D4++ [(b13,Obj.cells (aB ⟨T,2⟩).toArray 59 (0,0))]) 59 33 v4 (⟨T,2⟩:: (pl.take 0).map cS:List ChildL).length ((⟨T,2⟩:: (pl.take 0).map cS:List ChildL).map aB).flatten:=by
   have:=Gr.snoc (l:=([]:List ChildL)) (x:=⟨T,2⟩) rfl (by simpa using bh)
   exact this.app
  have eW:=cq.app (show New w.heap.size [(b13,Obj.cells (aB ⟨T,2⟩).toArray 59 (0,0))] from⟨dp,trivial⟩)
  generalize D4++ [(b13,Obj.cells (aB ⟨T,2⟩).toArray 59 (0,0))]=D5 at eX kD eW ⊢
  refine ko @cD ?_
  first|with_reducible refine ks [] @cD ?_|refine kp @cD ?_
  refine Cw.loopG (G:=ChG) [54,55,56,57,58,61,62,63,64,65,66,67,68,69,3,59,60,9] (fun q=> [(3,q.v),(9,vi q.g)]) (fun q=>(b7,Obj.cells (aY T p tx).toArray 126 (0,0)):: ((b1,Obj.cells #[vi 3,vs t] 35 (0,0))::D++q.D)) (fun q=>q.g≤pl.length∧New w.heap.size q.D∧SepK b7 ((b1,Obj.cells #[vi 3,vs t] 35 (0,0))::D) q.D∧Gr q.D 59 33 q.v (⟨T,2⟩:: (pl.take q.g).map cS:List ChildL).length ((⟨T,2⟩:: (pl.take q.g).map cS:List ChildL).map aB).flatten) (fun q=>pl.length - q.g) ⟨0,v4,D5⟩ rfl rfl ?_ ?_
  ·exact⟨Nat.zero_le _,eW,eX,kD⟩
  ·intro q jq hq
   refine kv ?_
   obtain⟨g,v,D2⟩:=q
   simp only at hq ⊢
   obtain⟨uL,cw,jA,hG⟩:=hq
   by_cases aC:g<pl.length
   ·obtain⟨c,cc,rest,rfl,kQ⟩:=Gr.rows qd (by omega)
    have nG:=cE kQ
    have wu:=hN.le c nG
    have cF:b1≠c:=by have:=hA.1;omega
    have Sm:b7≠c:=by have:=mH c nG;omega
    have rdc: ∀M,aO w (D++M) c=some (idRO rest pl):=fun M=>ah (bB kQ)
    have ldc:=Li (rest:=rest) g aC
    have iu:=xm cS id0 aC
    have iL: ((pl.take g).map cS).length=g:=by rw[List.length_map,List.length_take];omega
    generalize hx:pl.getD g id0=x at ldc iu
    have gI:=x.h
    have d9:decide (((g:Nat):Int)< ((pl.length:Nat):Int))=true:=decide_eq_true (by omega)
    first|with_reducible refine ks [] (And.intro @cD (And.intro @rdc (And.intro @ldc (@d9)))) ?_|refine kp (And.intro @cD (And.intro @rdc (And.intro @ldc (@d9)))) ?_
    refine Ow.build (.agg (aB (cS x)).toArray) rfl (qx (cS x)) ?_
    refine ko @cD ?_
    refine Ow.buildSlice (e:=59) (aB (cS x)).toArray rfl rfl (gw Tryz.underlying44 fK d_ (by decide) (bU _)) fun b14 kI up=> ?_
    refine Ow.permL (M:=D2++ ((b7,Obj.cells (aY T (vsl c 0 pl.length cc) tx).toArray 126 (0,0)):: (b14,Obj.cells (aB (cS x)).toArray 59 (0,0)):: (b1,Obj.cells #[vi 3,vs t] 35 (0,0))::D)) (by classical exact List.perm_iff_count.2 fun a=>by simp only[List.count_append,List.count_cons,List.count_nil]<;>omega) ?_
    refine Ow.appendX (e:=59) (k:=1) (new:=aB (cS x)) (X:=D2) v rfl rfl rfl rfl Tryz.underlying44 fK (by kernel_rfl) d_ (by rw[fj,List.size_toArray,bU]) Tryz.underlying44 (by intro k h;cases h) hG (fun w' a7=>AppX.one1 (a7.has b14 (.cells (aB (cS x)).toArray 59 (0,0)) (by simp)) (bU _) (iQ _)) (by omega) (by rw[List.length_cons,iL];omega) (fun B3 v6 D6 tf qQ bh RX uP uS=> ?_)
    have mL:New w.heap.size D6:=New.of_le fun q hq=>by
     rcases uP q hq with h|h
     ·exact cw.le q h
     ·omega
    have JL:SepK b7 ((b1,Obj.cells #[vi 3,vs t] 35 (0,0))::D) (D6++ [(b14,Obj.cells (aB (cS x)).toArray 59 (0,0))]):=by
     refine SepK.app (jA.grow uP (aP tf (by simp[keys])) fun d hd=>aP tf (by simp only[keys,List.map_cons,List.map_append,List.mem_cons,List.mem_append] at hd ⊢;rcases hd with hd|hd<;>simp[hd])) (SepK.nil.cons (aP kI (by simp[keys])) fun d hd=>aP kI ?_)
     simp only[keys,List.map_cons,List.map_append,List.mem_cons,List.mem_append] at hd ⊢
     rcases hd with hd|hd<;>simp[hd]
    refine Ow.permL (M:=(b7,Obj.cells (aY T (vsl c 0 pl.length cc) tx).toArray 126 (0,0)):: ((b1,Obj.cells #[vi 3,vs t] 35 (0,0))::D++ (D6++ [(b14,Obj.cells (aB (cS x)).toArray 59 (0,0))]))) (by classical exact List.perm_iff_count.2 fun a=>by simp only[List.count_append,List.count_cons,List.count_nil]<;>omega) ?_
    refine ko @cD ?_
    first|with_reducible refine ks [] @cD ?_|refine kp @cD ?_
    refine Again.mk (ChG.mk (g+1) v6 (D6++ [(b14,Obj.cells (aB (cS x)).toArray 59 (0,0))])) (by show pl.length - (g+1)<pl.length - g;omega) ⟨by show g+1≤pl.length;omega,mL.app ⟨up,trivial⟩,JL, ?_⟩ rfl rfl
    show Gr _ _ _ _ (⟨T,2⟩:: (pl.take (g+1)).map cS:List ChildL).length ((⟨T,2⟩:: (pl.take (g+1)).map cS:List ChildL).map aB).flatten
    rw[iu]
    exact Gr.app (Gr.snoc (l:=(⟨T,2⟩:: (pl.take g).map cS:List ChildL)) rfl bh)
   ·obtain rfl:g=pl.length:=by omega
    rw[List.take_length] at hG
    have d9:decide (((pl.length:Nat):Int)< ((pl.length:Nat):Int))=false:=decide_eq_false (by omega)
    first|with_reducible refine ks [] (And.intro @cD (And.intro @lnp (@d9))) ?_|refine kp (And.intro @cD (And.intro @lnp (@d9))) ?_
    refine⟨_,(ke @cD), ?_⟩
    refine⟨Ext.of_new ⟨ma,New.app (show New w.heap.size ((b1,Obj.cells #[vi 3,vs t] 35 (0,0))::D) from⟨aG,hD⟩) cw⟩, ?_⟩
    exact hG.keep fun b o hb ho=>jA.look ho
end Go.Proofs
end
namespace Go.RooP
open Go Go.Sx
abbrev Il:=List (List UInt8)
def putI (x:List UInt8):Il→Il
 | []=> [x]
 |a::l=>if ltB a x=true then a::putI x l else if a==x then a::l else x::a::l
def Ris (l:Il):Prop:=l.Pairwise fun a b=>ltB a b=true
theorem mem_putI {x y:List UInt8}: ∀ {l:Il},y∈putI x l↔y=x∨y∈l
 | []=>by simp[putI]
 |a::l=>by
  unfold putI
  split
  ·rw[List.mem_cons,mem_putI (l:=l),List.mem_cons]
   constructor
   ·rintro(h|h|h)<;>simp[h]
   ·rintro(h|h|h)<;>simp[h]
  ·split
   ·rename_i h;have h:=eq_of_beq h;subst h
    rw[List.mem_cons]
    constructor
    ·rintro(h|h)<;>simp[h]
    ·rintro(h|h|h)<;>simp[h]
   ·rw[List.mem_cons]
theorem sI {x:List UInt8}: ∀ {l:Il},Ris l→Ris (putI x l)
 | [],_=>by simp[putI,Ris]
 |a::l,h=>by
  have h1:=List.pairwise_cons.1 h
  unfold putI
  split
  ·rename_i aC
   refine List.pairwise_cons.2 ⟨fun y hy=> ?_,sI h1.2⟩
   rcases mem_putI.1 hy with rfl|hy
   ·exact aC
   ·exact h1.1 y hy
  ·rename_i aC
   split
   ·exact h
   ·rename_i ai
    have NP:ltB x a=true:=qB (by simpa using aC) (fun e=>ai (by simp[e]))
    refine List.pairwise_cons.2 ⟨fun y hy=> ?_,h⟩
    rcases List.mem_cons.1 hy with rfl|hy
    ·exact NP
    ·exact r4 NP (h1.1 y hy)
theorem Ris.ext: ∀ {a b:Il},Ris a→Ris b→(∀x,x∈a↔x∈b)→a=b
 | [],[],_,_,_=>rfl
 | [],y::b,_,_,h=>by have:=(h y).2 List.mem_cons_self;cases this
 |x::a,[],_,_,h=>by have:=(h x).1 List.mem_cons_self;cases this
 |x::a,y::b,ha,hb,h=>by
  have pa:=List.pairwise_cons.1 ha
  have pb:=List.pairwise_cons.1 hb
  have lI:x=y:=by
   rcases List.mem_cons.1 ((h x).1 List.mem_cons_self) with e|e
   ·exact e
   ·rcases List.mem_cons.1 ((h y).2 List.mem_cons_self) with e2|e2
    ·exact e2.symm
    ·have h1:=pa.1 y e2
     have h2:=pb.1 x e
     rw[xw h1] at h2;cases h2
  subst lI
  congr 1
  refine Ris.ext pa.2 pb.2 fun z=> ?_
  have hz:=h z
  rw[List.mem_cons,List.mem_cons] at hz
  constructor
  ·intro hm
   rcases hz.1 (.inr hm) with rfl|h3
   ·have:=pa.1 z hm;rw[pp] at this;cases this
   ·exact h3
  ·intro hm
   rcases hz.2 (.inr hm) with rfl|h3
   ·have:=pb.1 z hm;rw[pp] at this;cases this
   ·exact h3
end Go.RooP
namespace Go.RefP
open Go Go.Sx
abbrev Pr:=List UInt8×List UInt8
def zp:Pr:=([],[])
def setM (z:List UInt8) (r:Pr) (m:az):az:=if r.2==z then delV r.1 (updV r.1 r.2 m) else updV r.1 r.2 m
def j' (x:Pr):az→Bool→az
 | [],dn=>if dn then [] else [x]
 |p::r,dn=>if p.1==x.1 then j' x r dn else if !dn&& !(ltB p.1 x.1||p.1==x.1) then x::p::j' x r true else p::j' x r dn
def setL (z:List UInt8) (l:az) (x:Pr):az:=j' x l (x.2==z)
def Rising (l:az):Prop:=l.Pairwise fun a b=>ltB a.1 b.1=true
def kr (m:az):Prop:=(m.map Prod.fst).Nodup
theorem Rising.nd {l:az} (h:Rising l):kr l:=by
 unfold kr List.Nodup
 rw[List.pairwise_map]
 exact List.Pairwise.imp (fun dc=>sx dc) h
def but (k:List UInt8) (m:az):az:=m.filter fun p=> !(p.1==k)
theorem yD {k:List UInt8} {m:az} (h:k∉m.map Prod.fst):but k m=m:=by
 unfold but
 refine List.filter_eq_self.2 fun p hp=> ?_
 have:p.1≠k:=fun e=>h (List.mem_map.2 ⟨p,hp,e⟩)
 simp[this]
theorem LM (k:List UInt8) (m:az):k∉ (but k m).map Prod.fst:=by
 intro h
 obtain⟨p,hp,rfl⟩:=List.mem_map.1 h
 simp[but] at hp
theorem xh {k v:List UInt8}: ∀ {m:az},kr m→(updV k v m).Perm ((k,v)::but k m)
 | [],_=>List.Perm.refl _
 |p::r,h=>by
  simp only[kr,List.map_cons,List.nodup_cons] at h
  unfold updV
  cases hk: (k==p.1)
  ·simp only[Bool.false_eq_true, ↓reduceIte]
   have iI: (p.1==k)=false:=by
    rw[beq_eq_false_iff_ne] at hk ⊢;exact fun e=>hk e.symm
   have ih:=xh (k:=k) (v:=v) (m:=r) h.2
   have:but k (p::r)=p::but k r:=by unfold but;rw[List.filter_cons];simp[iI]
   rw[this]
   exact(List.Perm.cons p ih).trans (List.Perm.swap _ _ _)
  ·simp only[↓reduceIte]
   have e:k=p.1:=by simpa using hk
   subst e
   have:but p.1 (p::r)=r:=by
    have h2:=yD h.1
    unfold but at h2 ⊢;rw[List.filter_cons];simp[h2]
   rw[this]
theorem Gv {k v:List UInt8} {m:az} (h:kr m):kr (updV k v m):=by
 have hp:=(xh (k:=k) (v:=v) h).map Prod.fst
 refine(List.Perm.nodup_iff hp).2 ?_
 simp only[List.map_cons,List.nodup_cons]
 refine⟨LM k m, ?_⟩
 exact List.Nodup.sublist (List.Sublist.map _ List.filter_sublist) h
theorem sg {k:List UInt8}: ∀ {m:az},kr m→delV k m=but k m
 | [],_=>rfl
 |p::r,h=>by
  simp only[kr,List.map_cons,List.nodup_cons] at h
  unfold delV
  cases hk: (k==p.1)
  ·have iI: (p.1==k)=false:=by
    rw[beq_eq_false_iff_ne] at hk ⊢;exact fun e=>hk e.symm
   simp only[Bool.false_eq_true, ↓reduceIte,sg h.2]
   unfold but;rw[List.filter_cons];simp[iI]
  ·have e:k=p.1:=by simpa using hk
   subst e
   simp only[↓reduceIte]
   have h2:=yD h.1
   unfold but at h2 ⊢;rw[List.filter_cons];simp[h2]
theorem H2 {k v:List UInt8} {m:az} (h:kr m): (but k (updV k v m)).Perm (but k m):=by
 have hp:=(xh (k:=k) (v:=v) h).filter fun p=> !(p.1==k)
 have e1:List.filter (fun p=> !(p.1==k)) ((k,v)::but k m)=but k m:=by
  rw[List.filter_cons]
  simp only[beq_self_eq_true,Bool.not_true,Bool.false_eq_true, ↓reduceIte]
  exact yD (LM k m)
 rw[e1] at hp
 exact hp
theorem Dq {z:List UInt8} {r:Pr} {m:az} (h:kr m): (setM z r m).Perm (if r.2==z then but r.1 m else r::but r.1 m):=by
 unfold setM
 split
 ·rw[sg (Gv h)];exact H2 h
 ·exact xh h
theorem rG (x:Pr): ∀ (l:az),j' x l true=but x.1 l
 | []=>rfl
 |p::r=>by
  unfold j'
  cases h: (p.1==x.1)
  ·simp only[Bool.false_eq_true, ↓reduceIte,Bool.not_true,Bool.false_and,rG x r]
   unfold but;rw[List.filter_cons];simp[h]
  ·simp only[↓reduceIte,rG x r]
   unfold but;rw[List.filter_cons];simp[h]
theorem xS (x:Pr): ∀ (l:az),(j' x l false).Perm (x::but x.1 l)
 | []=>List.Perm.refl _
 |p::r=>by
  unfold j'
  cases h: (p.1==x.1)
  ·have e:but x.1 (p::r)=p::but x.1 r:=by unfold but;rw[List.filter_cons];simp[h]
   simp only[Bool.false_eq_true, ↓reduceIte,Bool.not_false,Bool.true_and,Bool.or_false]
   rw[e]
   split
   ·rw[rG]
   ·exact(List.Perm.cons p (xS x r)).trans (List.Perm.swap _ _ _)
  ·have e:but x.1 (p::r)=but x.1 r:=by unfold but;rw[List.filter_cons];simp[h]
   simp only[↓reduceIte]
   rw[e]
   exact xS x r
theorem Dm (z:List UInt8) (l:az) (x:Pr): (setL z l x).Perm (if x.2==z then but x.1 l else x::but x.1 l):=by
 unfold setL
 cases x.2==z
 ·exact xS x l
 ·rw[rG];exact List.Perm.refl _
theorem MA {k:List UInt8} {l:az} (h:Rising l):Rising (but k l):=List.Pairwise.sublist List.filter_sublist h
theorem CG {x p:Pr} {l:az} (h:p∈j' x l false):p=x∨p∈l:=by
 have:=(xS x l).mem_iff.1 h
 rcases List.mem_cons.1 this with rfl|h2
 ·exact .inl rfl
 ·exact .inr (List.mem_filter.1 h2).1
theorem KP (x:Pr): ∀ {l:az},Rising l→Rising (j' x l false)
 | [],_=>List.pairwise_singleton _ _
 |p::r,h=>by
  have h':=List.pairwise_cons.1 h
  unfold j'
  cases hk: (p.1==x.1)
  ·simp only[Bool.false_eq_true, ↓reduceIte,Bool.not_false,Bool.true_and,Bool.or_false]
   have ai:p.1≠x.1:=by simpa using hk
   cases hl:ltB p.1 x.1
   ·have hx:=qB hl ai
    simp only[Bool.not_false, ↓reduceIte]
    rw[rG]
    refine List.pairwise_cons.2 ⟨?_,List.pairwise_cons.2 ⟨?_,MA h'.2⟩⟩
    ·intro q hq
     rcases List.mem_cons.1 hq with rfl|hq
     ·exact hx
     ·exact r4 hx (h'.1 q (List.mem_filter.1 hq).1)
    ·intro q hq
     exact h'.1 q (List.mem_filter.1 hq).1
   ·simp only[Bool.not_true,Bool.false_eq_true, ↓reduceIte]
    refine List.pairwise_cons.2 ⟨?_,KP x h'.2⟩
    intro q hq
    rcases CG hq with rfl|hq
    ·exact hl
    ·exact h'.1 q hq
  ·simp only[↓reduceIte]
   exact KP x h'.2
theorem Ai {z:List UInt8} {l:az} {x:Pr} (h:Rising l):Rising (setL z l x):=by
 unfold setL
 cases x.2==z
 ·exact KP x h
 ·rw[rG];exact MA h
def Rel (m l:az):Prop:=m.Perm l∧Rising l
theorem Rel.nd {m l:az} (h:Rel m l):kr m:=(List.Perm.nodup_iff (h.1.map Prod.fst)).2 h.2.nd
theorem Rel.set {z:List UInt8} {m l:az} {x:Pr} (h:Rel m l):Rel (setM z x m) (setL z l x):=by
 refine⟨?_,Ai h.2⟩
 have hb: (but x.1 m).Perm (but x.1 l):=h.1.filter _
 refine(Dq h.nd).trans (List.Perm.trans ?_ (Dm z l x).symm)
 split
 ·exact hb
 ·exact List.Perm.cons _ hb
def II (nm:List UInt8→Bool) (z:List UInt8) (t:az) (g:Nat):Bool:=
 nm (t.getD g zp).1&& !((t.getD g zp).2==z)&& (g==0||ltB (t.getD (g - 1) zp).1 (t.getD g zp).1)
def logL (nm:List UInt8→Bool) (z:List UInt8) (l:az) (m0:az):Nat→Option az
 |0=>some m0
 |g+1=>(logL nm z l m0 g).bind fun m=>if(nm (l.getD g zp).1&&decide ((setL z m (l.getD g zp)).length≤16))=true then some (setL z m (l.getD g zp)) else none
def IS (nm:List UInt8→Bool) (z:List UInt8) (t:az):Bool:=(List.range t.length).all (II nm z t)
def ofL (nm:List UInt8→Bool) (z:List UInt8) (t l:az) (k:Nat):Option az:=
 if t.length≤16∧l.length≤100∧IS nm z t=true then logL nm z l t k else none
def nx (nm:List UInt8→Bool) (z:List UInt8) (t l:az):Bool:=(ofL nm z t l l.length).isSome
theorem y6 {k v:List UInt8}: ∀ {m:az} {p:Pr},p∈updV k v m→p.2=v∨p∈m
 | [],p,h=>by simp only[updV,List.mem_singleton] at h;exact .inl (by rw[h])
 |q::r,p,h=>by
  unfold updV at h
  split at h
  ·rcases List.mem_cons.1 h with rfl|h
   ·exact .inl rfl
   ·exact .inr (List.mem_cons_of_mem _ h)
  ·rcases List.mem_cons.1 h with rfl|h
   ·exact .inr List.mem_cons_self
   ·rcases y6 h with h|h
    ·exact .inl h
    ·exact .inr (List.mem_cons_of_mem _ h)
theorem ro {k:List UInt8}: ∀ {m:az} {p:Pr},p∈delV k m→p∈m
 | [],_,h=>h
 |q::r,p,h=>by
  unfold delV at h
  split at h
  ·exact List.mem_cons_of_mem _ h
  ·rcases List.mem_cons.1 h with rfl|h
   ·exact List.mem_cons_self
   ·exact List.mem_cons_of_mem _ (ro h)
theorem FN {z:List UInt8} {r p:Pr} {m:az} (h:p∈setM z r m):p.2=r.2∨p∈m:=by
 unfold setM at h
 split at h
 ·exact y6 (ro h)
 ·exact y6 h
def AllLen (m:az):Prop:= ∀p,p∈m→p.2.length=32
theorem AllLen.set {z:List UInt8} {r:Pr} {m:az} (h:AllLen m) (hr:r.2.length=32):AllLen (setM z r m):=by
 intro p hp
 rcases FN hp with e|h2
 ·rw[e];exact hr
 ·exact h p h2
end Go.RefP
section
open Go Go.Proofs Go.Sx Go.RefP Go.RooP
namespace Go.Proofs
set_option maxRecDepth 100000
set_option maxHeartbeats 400000
set_option linter.unusedSimpArgs false
theorem sX: ∀ (a b:List UInt8),Lib.compareBytes a b=if ltB a b=true then -1 else if ltB b a=true then 1 else 0
 | [],[]=>by simp[Lib.compareBytes,ltB,Op.bytesLess]
 |_::_,[]=>by simp[Lib.compareBytes,ltB,Op.bytesLess]
 | [],_::_=>by simp[Lib.compareBytes,ltB,Op.bytesLess]
 |a::x,b::y=>by
  have ih:=sX x y
  unfold Lib.compareBytes
  rw[mq,mq] at*
  rw[ih]
  simp only[List.cons_lt_cons_iff,decide_eq_true_eq]
  by_cases h1:a<b
  ·simp[h1]
  ·by_cases h2:b<a
   ·have: ¬a=b:=fun e=>by subst e;exact h1 h2
    simp[h1,h2,this]
   ·have:a=b:=UInt8.le_antisymm (UInt8.not_lt.1 h2) (UInt8.not_lt.1 h1)
    subst this
    simp[h1]
theorem Nb {b:Nat} {E:TypeId} {fz:Nat×Nat} {arr:Array Value} {w:World} (hb:w.heap[b]? =some (.cells arr E fz)): ∀ (l:List UInt8) (off:Nat) (acc:ByteArray),(∀j,j<l.length→arr[off+j]? =some (v8 (l.getD j 0)))→
  (Extern.Bytes.loadBytes ⟨b,off,none⟩ l.length acc).run Tryz.prog w= .ok (acc++ ⟨l.toArray⟩) w
 | [],off,acc,_=>by
  show Result.ok acc w=_
  congr 1
  apply ByteArray.ext
  simp
 |x::l,off,acc,h=>by
  have h0:=h 0 (by simp)
  simp only[Nat.add_zero,List.getD_cons_zero] at h0
  have hc:w.cell? ⟨b,off,none⟩=some (v8 x):=by rw[cell_of_row w b _ arr E fz hb];exact h0
  have qf: (load ⟨b,off,none⟩).run Tryz.prog w= .ok (v8 x) w:=by
   simp only[load,Sem.run,hc]
  rw[List.length_cons,Extern.Bytes.loadBytes,Sem.run_bind,qf,Result.andThen_ok]
  simp only[v8,gu]
  have e: ((x.toNat:Int).toNat.toUInt8)=x:=by
   rw[Int.toNat_natCast]
   exact UInt8.ofNat_toNat
  rw[e,Nb hb l (off+1) _ (fun j hj=>by
   have:=h (j+1) (by simpa using hj)
   rw[List.getD_cons_succ] at this
   rw[←this];congr 1;omega)]
  congr 1
  apply ByteArray.ext
  simp
theorem Kg {b:Nat} {l:List UInt8} {E:TypeId} {w:World} (hb:w.heap[b]? =some (.cells (a8 l) E (0,0))): (Extern.Bytes.bytesOf (vsl b 0 l.length l.length)).run Tryz.prog w= .ok ⟨l.toArray⟩ w:=by
 have h:=Nb hb l 0 .empty (fun j hj=>by simp[a8,v8,hj])
 show(Extern.Bytes.loadBytes ⟨b,0,none⟩ l.length .empty).run Tryz.prog w=_
 rw[h]
 congr 1
theorem EP {b c:Nat} {l m:List UInt8} {E E2:TypeId} {w:World} (hb:w.heap[b]? =some (.cells (a8 l) E (0,0))) (hc:w.heap[c]? =some (.cells (a8 m) E2 (0,0))):
  (callFunc 201 #[vsl b 0 l.length l.length,vsl c 0 m.length m.length]).run Tryz.prog w= .ok (.value (.int .i64 (Lib.compareBytes l m))) w:=by
 rw[run_callFunc_extern Tryz.func201 (by kernel_rfl) (by kernel_rfl) (by kernel_rfl) (e:=Extern.BytealgCompare.compare) (by kernel_rfl)]
 show((Extern.BytealgCompare.compare #[vsl b 0 l.length l.length,vsl c 0 m.length m.length]).run Tryz.prog w).andThen _=_
 have: (Extern.BytealgCompare.compare #[vsl b 0 l.length l.length,vsl c 0 m.length m.length]).run Tryz.prog w= .ok (.int .i64 (Lib.compareBytes l m)) w:=by
  change Sem.run Tryz.prog (do pure (goInt (Extern.BytealgCompare.cmp (←Extern.Bytes.bytesOf _) (←Extern.Bytes.bytesOf _)))) w=_
  have h1:=Kg hb
  have h2:=Kg hc
  rw[Sem.run_bind]
  erw[h1]
  rw[Result.andThen_ok,Sem.run_bind]
  erw[h2]
  rw[Result.andThen_ok,Lib.cmp_eq]
  rfl
 rw[this];rfl
theorem P2 {b c:Nat} {l m:List UInt8} {E E2:TypeId} {w:World} (hb:w.heap[b]? =some (.cells (a8 l) E (0,0))) (hc:w.heap[c]? =some (.cells (a8 m) E2 (0,0))):
  Calls Tryz.prog 143 #[vsl b 0 l.length l.length,vsl c 0 m.length m.length] w fun e w'=>e= .returned (.int .i64 (Lib.compareBytes l m))∧w'=w:=by
 have hr:=EP hb hc
 generalize vsl b 0 l.length l.length=x at hr ⊢
 generalize vsl c 0 m.length m.length=y at hr ⊢
 go_enter Tryz.func143,Tryz.ntmps143
 go_wp2
 go_ret
 exact⟨rfl,rfl⟩
theorem Nt {b c:Nat} {x y:IdL} {E E2:TypeId} {w:World} (hb:w.heap[b]? =some (.cells (a8 x.l) E (0,0))) (hc:w.heap[c]? =some (.cells (a8 y.l) E2 (0,0))):
  Calls Tryz.prog 143 #[.slice (some ⟨b,0,none⟩) 32 32, .slice (some ⟨c,0,none⟩) 32 32] w fun e w'=>e= .returned (.int .i64 (Lib.compareBytes x.l y.l))∧w'=w:=by
 have h:=P2 hb hc
 rw[x.h,y.h] at h
 exact h
theorem BN (x y:IdL) (W:World):Calls Tryz.prog 142 #[.agg (a8 x.l), .agg (a8 y.l)] W fun e w'=>e= .returned (.int .i64 (Lib.compareBytes x.l y.l))∧ ∃q os',w'=Go.Sort.grow (W.drewN q) os':=by
 have hx: (Value.agg (a8 x.l)).cells=a8 x.l:=rfl
 have hy: (Value.agg (a8 y.l)).cells=a8 y.l:=rfl
 go_enter Tryz.func142,Tryz.ntmps142
 go_wp2
 have h0: ((W.alloc (Obj.cells (a8 x.l) 24)).alloc (Obj.cells (a8 y.l) 24)).heap[W.heap.size]? =some (.cells (a8 x.l) 24 (0,0)):=by
  show((W.heap.push _).push _)[W.heap.size]? =_
  rw[Array.getElem?_push,if_neg (by simp),Array.getElem?_push,if_pos rfl]
 have h1: ((W.alloc (Obj.cells (a8 x.l) 24)).alloc (Obj.cells (a8 y.l) 24)).heap[W.heap.size+1]? =some (.cells (a8 y.l) 24 (0,0)):=by
  show((W.heap.push _).push _)[W.heap.size+1]? =_
  rw[Array.getElem?_push,if_pos (by simp)]
 refine wp_region_quiet_lit (by kernel_rfl) (by kernel_rfl) ?_
 quiet_step (skip)
 quiet_step (skip)
 refine wpQuiet_step (fun K hK=> ?_)
 go_simp
 refine⟨.int .i64 (Lib.compareBytes x.l y.l),fun n=>Calls.quiet_of_same (Nt h0 h1),hK _ ?_⟩
 clear hK K
 quiet_step (skip)
 refine wpQuiet_nil ?_
 intro _ a7
 obtain⟨nq,rfl⟩:=a7
 go_wp2
 go_ret
 trace_state
 exact⟨rfl,nq,_,by rw[Go.Sort.alloc_eq_grow,Go.Sort.alloc_eq_grow,Go.Sort.grow_grow];rfl⟩
theorem mm (x:IdL): (aJ x).all Value.oneCell'=true:=n7 _
theorem j6 (a b:IdL):aj Tryz.prog .eql 24 (.agg (a8 a.l)) (.agg (a8 b.l))=some (.bool (a.l==b.l)):=
 sP Tryz.underlying24 Tryz.underlying5 Tryz.ag5 (by kernel_rfl) a.l b.l ⟨a.h,b.h⟩
theorem mB (a b:IdL):aj Tryz.prog .neq 24 (.agg (a8 a.l)) (.agg (a8 b.l))=some (.bool (!(a.l==b.l))):=
 rj Tryz.underlying24 Tryz.underlying5 Tryz.ag5 (by kernel_rfl) a.l b.l ⟨a.h,b.h⟩
theorem IdL.ext2 {a b:IdL} (h:a.l=b.l):a=b:=by cases a;cases b;simp only at h;subst h;rfl
theorem k6:aw Tryz.prog 24=some (.agg (a8 (List.replicate 32 0))):=Tryz.zr24
theorem tR: ∀ (g:Nat) (a b:List UInt8),a.take g=b.take g→g<a.length→g<b.length→a.getD g 0≠b.getD g 0→ltB a b=decide (a.getD g 0<b.getD g 0)
 |_,[],_,_,h,_,_=>by simp at h
 |_,_::_,[],_,_,h,_=>by simp at h
 |0,x::a,y::b,_,_,_,ai=>by
  simp only[List.getD_cons_zero] at ai ⊢
  rw[mq]
  simp only[List.cons_lt_cons_iff]
  simp[ai]
 |g+1,x::a,y::b,h,h1,h2,ai=>by
  simp only[List.take_succ_cons,List.cons.injEq] at h
  simp only[List.getD_cons_succ] at ai ⊢
  obtain⟨rfl,h⟩:=h
  have ih:=tR g a b h (by simpa using h1) (by simpa using h2) ai
  rw[mq] at ih ⊢
  rw[←ih]
  simp
set_option linter.defProp false
def fc:=And.intro (And.intro (@cP) (@cO)) (And.intro (@j6) (@mB))
theorem Be (x y:IdL) (w:World):Rets Tryz.prog 139 #[.agg (a8 x.l), .agg (a8 y.l)] w (fun v D=>v= .bool (ltB x.l y.l)∧D= []):=by
 have hx:=x.h
 have hy:=y.h
 refine Rets.enterV Tryz.func139 rfl (rs:= [.tmp 4]) Tryz.results139 Tryz.ntmps139 ?_
 refine kf ?_
 first|with_reducible refine ks [] @fc ?_|refine kp @fc ?_
 refine Ow.box rfl rfl fun b2 ck ar=> ?_
 simp only[bp,bj,cJ,aU,List.nil_append,List.cons_append]
 refine Ow.go rfl ?_
 simp(disch:=(first|assumption|omega| (simp only[ac,ab,UInt64.reduceToNat];try omega))) only[↓Sx.S0,Sx.S1,Tryz.fx,fc,Nat.reduceAdd,Nat.reducePow,Int.reducePow,Nat.reduceBEq, ↓reduceIte,UInt8.reduceToNat,UInt16.reduceToNat,UInt32.reduceToNat,UInt64.reduceToNat,Int.reduceToNat]
 refine Ow.box rfl rfl fun b3 cQ bA=> ?_
 simp only[bp,bj,cJ,aU,List.nil_append,List.cons_append]
 refine Ow.go rfl ?_
 simp(disch:=(first|assumption|omega| (simp only[ac,ab,UInt64.reduceToNat];try omega))) only[↓Sx.S0,Sx.S1,Tryz.fx,fc,Nat.reduceAdd,Nat.reducePow,Int.reducePow,Nat.reduceBEq, ↓reduceIte,UInt8.reduceToNat,UInt16.reduceToNat,UInt32.reduceToNat,UInt64.reduceToNat,Int.reduceToNat]
 obtain⟨mE,-⟩:=cQ
 first|with_reducible refine ks [] @fc ?_|refine kp @fc ?_
 refine Cw.loopG (G:=Nat) [6,7,10,11,12,13,14,15,16,17,18,19,20,21,22,23,4,8,9,5] (fun g=> [(5,vi g)]) (fun g=> [(b2, .cells (a8 x.l) 24 (0,0)),(b3, .cells (a8 y.l) 24 (0,0))]) (fun g=>g≤32∧x.l.take g=y.l.take g) (fun g=>32 - g) 0 rfl rfl ?_ ?_
 ·exact⟨Nat.zero_le _,rfl⟩
 intro g j hg
 refine kv ?_
 obtain⟨gp,iG⟩:=hg
 by_cases aC:g<32
 ·have d1:decide ((g:Int)<32)=true:=decide_eq_true (by omega)
  first|with_reducible refine ks [] (And.intro @fc @d1) ?_|refine kp (And.intro @fc @d1) ?_
  refine Cw.regionS [b2,b3] [0,1,3,4,2,5,6] [] (by kernel_rfl) (by kernel_rfl) (by kernel_rfl) ?_
  simp only[aN, ↓aM, ↓aH, ↓aL, ↓aK,aI]
  refine kq @fc ?_
  by_cases ai:x.l.getD g 0=y.l.getD g 0
  ·have d2: (x.l.getD g 0 !=y.l.getD g 0)=false:=by rw[ai];exact bne_self_eq_false _
   first|with_reducible refine ks [] (And.intro @fc @d2) ?_|refine kp (And.intro @fc @d2) ?_
   refine Again.mk (G:=Nat) (g+1) (by show 32 - (g+1)<32 - g;omega) ⟨by show g+1≤32;omega, ?_⟩ rfl rfl
   rw[StP.take_snoc (z:=0) (by omega),StP.take_snoc (z:=0) (by omega),iG,ai]
  ·have d2: (x.l.getD g 0 !=y.l.getD g 0)=true:=by simpa using ai
   first|with_reducible refine ks [] (And.intro @fc @d2) ?_|refine kp (And.intro @fc @d2) ?_
   refine Cw.regionS [b2,b3] [0,1,3,4,2,5,6,7] [] (by kernel_rfl) (by kernel_rfl) (by kernel_rfl) ?_
   simp only[aN, ↓aM, ↓aH, ↓aL, ↓aK,aI]
   refine kq @fc ?_
   try with_reducible refine Ow.nil ?_
   first|with_reducible refine ks [] @fc ?_|refine kp @fc ?_
   refine⟨_,(ke @fc),⟨ar,bA,trivial⟩, ?_⟩
   rw[tR g x.l y.l iG (by omega) (by omega) ai];rfl
 ·obtain rfl:g=32:=by omega
  have d1:decide (((32:Nat):Int)<32)=false:=rfl
  first|with_reducible refine ks [] (And.intro @fc @d1) ?_|refine kp (And.intro @fc @d1) ?_
  have e:ltB x.l y.l=false:=by
   rw[List.take_of_length_le (by omega),List.take_of_length_le (by omega)] at iG
   rw[iG];exact pp _
  refine⟨_,(ke @fc),⟨ar,bA,trivial⟩, ?_⟩
  rw[e];rfl
def du (x:IdL):List IdL→List IdL
 | []=> [x]
 |a::l=>if ltB a.l x.l=true then a::du x l else if a.l==x.l then a::l else x::a::l
theorem rz (x:IdL): ∀ (l:List IdL),(du x l).map IdL.l=putI x.l (l.map IdL.l)
 | []=>rfl
 |a::l=>by
  unfold du
  simp only[List.map_cons,putI]
  split
  ·rw[List.map_cons,rz x l]
  ·split<;>rfl
theorem rk (x:IdL): ∀ (l:List IdL),(du x l).length≤l.length+1
 | []=>Nat.le_refl _
 |a::l=>by
  unfold du
  have:=rk x l
  split
  ·simp only[List.length_cons];omega
  ·split<;>simp
abbrev IdSl (w:World) (v:Value) (l:List IdL):Prop:=SlV 32 aJ id0 w v l
theorem lM (i:IdL):jR Tryz.prog 30 1 [(0, .agg (a8 i.l))]=some (24,(aJ i).toArray):=
 gw Tryz.underlying30 Tryz.ag24 k6 (by decide) (fQ i)
theorem pw (x:IdL) (E:TypeId):aS (some (true,32)) (some (.cells (a8 x.l) E (0,0))) 0=some (.agg (a8 x.l)):=wc _ E (0,0) 32 x.h
theorem rR {w:World} {v:Value} {l:List IdL} {b off:Nat} {arr:Array Value} {E:TypeId} {fz:Nat×Nat} (h:RowS 32 aJ id0 w v l b off arr E fz) {k:Nat} (hk:k<l.length):
  aS (some (true,32)) (some (.cells arr E fz)) (off+k*32)=some (.agg (a8 (l.getD k id0).l)):=RowS.load h fQ (by omega) hk
def PutS (v:Value) (l:List IdL) (x:IdL) (v':Value) (D:a6):Prop:=
 (v'=v∧du x l=l)∨GrI D 24 32 v' (du x l).length ((du x l).map aJ).flatten
set_option linter.defProp false
def bL:=And.intro (And.intro (@cP) (@cO)) (And.intro (@j6) (And.intro (@mB) (@pw)))
theorem yb (v:Value) (l:List IdL) (x:IdL) (w:World) (hv:IdSl w v l) (hl:l.length<100000):
  Rets Tryz.prog 73 #[v, .agg (a8 x.l)] w (XS w [] (PutS v l x)):=by
 obtain⟨b,off,arr,E,fz,hr⟩:=hv.row
 have ln:=hv.len
 refine Rets.enterX Tryz.func73 rfl (rs:= [.tmp 4]) Tryz.results73 Tryz.ntmps73 (fun p hp=>by cases hp) (by simp[keys]) ?_
 refine kf ?_
 first|with_reducible refine ks [] @bL ?_|refine kp @bL ?_
 refine Ow.box rfl rfl fun b3 cQ bA=> ?_
 simp only[bp,bj,cJ,aU,List.nil_append,List.cons_append]
 refine Ow.go rfl ?_
 simp(disch:=(first|assumption|omega| (simp only[ac,ab,UInt64.reduceToNat];try omega))) only[↓Sx.S0,Sx.S1,Tryz.fx,bL,Nat.reduceAdd,Nat.reducePow,Int.reducePow,Nat.reduceBEq, ↓reduceIte,UInt8.reduceToNat,UInt16.reduceToNat,UInt32.reduceToNat,UInt64.reduceToNat,Int.reduceToNat]
 first|with_reducible refine ks [] @bL ?_|refine kp @bL ?_
 have l9:New w.heap.size [(b3,Obj.cells (a8 x.l) 24 (0,0))]:=⟨bA,trivial⟩
 refine Cw.loopG (G:=Nat) [7,8,9,10,11,12,13,14,15,16,17,18,19,20,5] (fun g=> [(5,vi g)]) (fun g=> [(b3, .cells (a8 x.l) 24 (0,0))]) (fun g=>g≤l.length∧du x l=l.take g++du x (l.drop g)) (fun g=>l.length - g) 0 rfl rfl ?_ ?_
 ·exact⟨Nat.zero_le _,rfl⟩
 intro g j hg
 refine kv ?_
 obtain⟨h1,h2⟩:=hg
 obtain⟨vt,lF,uT,-⟩:=hv.take h1 true
 obtain⟨vd,xA,uR,-⟩:=hv.dropE h1 true
 by_cases aC:g<l.length
 ·have mO:0<l.length:=by omega
  have dg:=hr.lt mO
  have r2:=hr.has mO
  have ai:b3≠b:=by omega
  have i2:=hr.idx true g aC
  have l2:=rR hr aC
  have wv:=StP.drop_cons (z:=id0) aC
  generalize hy:l.getD g id0=y at*
  have rb:aO w [(b3,Obj.cells (a8 x.l) 24 (0,0))] b=some (.cells arr E fz):=by rw[jT (by simp[keys];omega)];exact r2
  have d1:decide ((g:Int)< (l.length:Int))=true:=decide_eq_true (by omega)
  first|with_reducible refine ks [] @bL ?_|refine kp @bL ?_
  refine Cw.regionS [b,b3] [0,1,2,3,4,5,6,7,8,9,10,11] [] (by kernel_rfl) (by kernel_rfl) (by kernel_rfl) ?_
  simp only[aN, ↓aM, ↓aH, ↓aL, ↓aK,aI]
  refine kq (And.intro @bL (And.intro @ln (And.intro @d1 (And.intro @i2 (And.intro @rb (@l2)))))) ?_
  refine Ow.soft rfl rfl rfl ?_
  refine Ow.callFV rfl Tryz.call139 (fun w' a7=>Be y x w') ?_
  with_reducible refine Ow.nil ?_
  refine⟨by intro b hb;simp only[List.mem_cons,List.not_mem_nil,or_false] at hb;(try subst hb);rfl, ?_⟩
  cases KI:ltB y.l x.l
  ·refine kq @bL ?_
   try with_reducible refine Ow.nil ?_
   first|with_reducible refine ks [] @bL ?_|refine kp @bL ?_
   refine Cw.regionS [b,b3] [0,1,2,3,4,5,6,7,8,9,10,11] [] (by kernel_rfl) (by kernel_rfl) (by kernel_rfl) ?_
   simp only[aN, ↓aM, ↓aH, ↓aL, ↓aK,aI]
   refine kq (And.intro @bL (And.intro @ln (And.intro @d1 (And.intro @i2 (And.intro @rb (@l2)))))) ?_
   cases lI: (y.l==x.l)
   ·have d5: (y.l==x.l)=false:=lI
    first|with_reducible refine ks [] (And.intro @bL @lF) ?_|refine kp (And.intro @bL @lF) ?_
    have K6:du x l=l.take g++x::l.drop g:=by rw[h2,wv,du,if_neg (by rw[KI];simp),if_neg (by rw[lI];simp)]
    have jM: (l.take g).length≤l.length:=by rw[List.length_take];omega
    have RF: (l.drop g).length≤l.length:=by rw[List.length_drop];omega
    refine Ow.appendXG (e:=24) (k:=(l.take g).length) (new:=((l.take g).map aJ).flatten) (X:= []) (n:=0) (cs:= []) (.slice none 0 0) rfl rfl rfl rfl Tryz.underlying30 Tryz.ag24 (by kernel_rfl) k6 (by simp[aU,a8]) Tryz.underlying30 (by intro k h;cases h) Gr.nl (fun w' a7=>(uT.oldN a7 l9).appX fQ mm) (by omega) (fun B4 v4 D4 dv eL kD Jl pP jG=> ?_)
    have cq:New w.heap.size D4:=New.of_le fun q hq=>by
     rcases pP q hq with h|h
     ·cases h
     ·omega
    rw[Nat.zero_add,List.nil_append] at kD
    refine Ow.permL (M:=(b3,Obj.cells (a8 x.l) 24 (0,0))::D4) (by classical exact List.perm_iff_count.2 fun a=>by simp only[List.count_append,List.count_cons,List.count_nil]<;>omega) ?_
    refine ko @bL ?_
    first|with_reducible refine ks [] @bL ?_|refine kp @bL ?_
    refine Ow.buildSlice (e:=24) (aJ x).toArray rfl rfl (lM x) fun b6 jB ei=> ?_
    refine Ow.permL (M:=D4++ [(b3,Obj.cells (a8 x.l) 24 (0,0)),(b6,Obj.cells (aJ x).toArray 24 (0,0))]) (by classical exact List.perm_iff_count.2 fun a=>by simp only[List.count_append,List.count_cons,List.count_nil]<;>omega) ?_
    refine ko @bL ?_
    refine Ow.appendXG (e:=24) (k:=1) (new:=aJ x) (X:=D4) v4 rfl rfl rfl rfl Tryz.underlying30 Tryz.ag24 (by kernel_rfl) k6 (by simp[aU,a8]) Tryz.underlying30 (by intro k h;cases h) kD (fun w' a7=>AppX.one1 (a7.has b6 (.cells (aJ x).toArray 24 (0,0)) (by simp)) (fQ x) (mm x)) (by omega) (fun B5 v5 D5 i9 nA ja fH cd iK=> ?_)
    have eW:New w.heap.size D5:=New.of_le fun q hq=>by
     rcases cd q hq with h|h
     ·exact cq.le q h
     ·omega
    have p5:New w.heap.size (D5++ [(b3,Obj.cells (a8 x.l) 24 (0,0)),(b6,Obj.cells (aJ x).toArray 24 (0,0))]):=eW.app ⟨bA,ei,trivial⟩
    refine ko @bL ?_
    first|with_reducible refine ks [] (And.intro @bL @xA) ?_|refine kp (And.intro @bL @xA) ?_
    refine Ow.appendXG (e:=24) (k:=(l.drop g).length) (new:=((l.drop g).map aJ).flatten) (X:=D5) v5 rfl rfl rfl rfl Tryz.underlying30 Tryz.ag24 (by kernel_rfl) k6 (by simp[aU,a8]) Tryz.underlying30 (by intro k h;cases h) ja (fun w' a7=>(uR.oldN a7 p5).appX fQ mm) (by omega) (fun B6 v6 D6 tf qQ ti Jm pQ uS=> ?_)
    have mL:New w.heap.size D6:=New.of_le fun q hq=>by
     rcases pQ q hq with h|h
     ·exact eW.le q h
     ·omega
    refine ko @bL ?_
    first|with_reducible refine ks [] @bL ?_|refine kp @bL ?_
    refine⟨_,(ke @bL), ?_⟩
    refine⟨Ext.of_new (mL.app ⟨bA,ei,trivial⟩), .inr (Gr.i (X:=D6) ?_ fun q hq=>List.mem_append_left _ hq)⟩
    rw[K6]
    have e1: (l.take g).length+1+ (l.drop g).length=(l.take g++x::l.drop g).length:=by simp only[List.length_append,List.length_cons];omega
    rw[e1] at ti
    show Gr D6 24 32 v6 _ _
    simpa only[List.map_append,List.map_cons,List.flatten_append,List.flatten_cons,List.append_assoc] using ti
   ·have g7:du x l=l:=by
     rw[h2,wv,du,if_neg (by rw[KI];simp),if_pos lI,←wv,List.take_append_drop]
    first|with_reducible refine ks [] @bL ?_|refine kp @bL ?_
    refine⟨_,(ke @bL), ?_⟩
    exact⟨Ext.of_new l9, .inl ⟨rfl,g7⟩⟩
  ·refine kq @bL ?_
   try with_reducible refine Ow.nil ?_
   first|with_reducible refine ks [] @bL ?_|refine kp @bL ?_
   refine Again.mk (G:=Nat) (g+1) (by show l.length - (g+1)<l.length - g;omega) ⟨aC, ?_⟩ rfl rfl
   rw[h2,wv,du,if_pos KI,StP.take_snoc (z:=id0) aC,hy,List.append_assoc];rfl
 ·obtain rfl:g=l.length:=by omega
  have d1:decide ((l.length:Int)< (l.length:Int))=false:=by simp
  first|with_reducible refine ks [] @bL ?_|refine kp @bL ?_
  refine Cw.regionS [] [0,1,2,3,4,5,6,7,8,9,10,11] [] (by kernel_rfl) (by kernel_rfl) (by kernel_rfl) ?_
  simp only[aN, ↓aM, ↓aH, ↓aL, ↓aK,aI]
  refine kq (And.intro @bL (And.intro @ln (@d1))) ?_
  try with_reducible refine Ow.nil ?_
  first|with_reducible refine ks [] @bL ?_|refine kp @bL ?_
  refine Cw.regionS [] [0,1,2,3,4,5,6,7,8,9,10,11] [] (by kernel_rfl) (by kernel_rfl) (by kernel_rfl) ?_
  simp only[aN, ↓aM, ↓aH, ↓aL, ↓aK,aI]
  refine kq (And.intro @bL (And.intro @ln (@d1))) ?_
  try with_reducible refine Ow.nil ?_
  first|with_reducible refine ks [] (And.intro @bL @lF) ?_|refine kp (And.intro @bL @lF) ?_
  generalize uL:l.length=g at*
  have K6:du x l=l.take g++x::l.drop g:=by rw[h2,←uL,List.drop_length];rfl
  have jM: (l.take g).length≤l.length:=by rw[List.length_take];omega
  have RF: (l.drop g).length≤l.length:=by rw[List.length_drop];omega
  refine Ow.appendXG (e:=24) (k:=(l.take g).length) (new:=((l.take g).map aJ).flatten) (X:= []) (n:=0) (cs:= []) (.slice none 0 0) rfl rfl rfl rfl Tryz.underlying30 Tryz.ag24 (by kernel_rfl) k6 (by simp[aU,a8]) Tryz.underlying30 (by intro k h;cases h) Gr.nl (fun w' a7=>(uT.oldN a7 l9).appX fQ mm) (by omega) (fun B4 v4 D4 dv eL kD Jl pP jG=> ?_)
  have cq:New w.heap.size D4:=New.of_le fun q hq=>by
   rcases pP q hq with h|h
   ·cases h
   ·omega
  rw[Nat.zero_add,List.nil_append] at kD
  refine Ow.permL (M:=(b3,Obj.cells (a8 x.l) 24 (0,0))::D4) (by classical exact List.perm_iff_count.2 fun a=>by simp only[List.count_append,List.count_cons,List.count_nil]<;>omega) ?_
  refine ko @bL ?_
  first|with_reducible refine ks [] @bL ?_|refine kp @bL ?_
  refine Ow.buildSlice (e:=24) (aJ x).toArray rfl rfl (lM x) fun b6 jB ei=> ?_
  refine Ow.permL (M:=D4++ [(b3,Obj.cells (a8 x.l) 24 (0,0)),(b6,Obj.cells (aJ x).toArray 24 (0,0))]) (by classical exact List.perm_iff_count.2 fun a=>by simp only[List.count_append,List.count_cons,List.count_nil]<;>omega) ?_
  refine ko @bL ?_
  refine Ow.appendXG (e:=24) (k:=1) (new:=aJ x) (X:=D4) v4 rfl rfl rfl rfl Tryz.underlying30 Tryz.ag24 (by kernel_rfl) k6 (by simp[aU,a8]) Tryz.underlying30 (by intro k h;cases h) kD (fun w' a7=>AppX.one1 (a7.has b6 (.cells (aJ x).toArray 24 (0,0)) (by simp)) (fQ x) (mm x)) (by omega) (fun B5 v5 D5 i9 nA ja fH cd iK=> ?_)
  have eW:New w.heap.size D5:=New.of_le fun q hq=>by
   rcases cd q hq with h|h
   ·exact cq.le q h
   ·omega
  have p5:New w.heap.size (D5++ [(b3,Obj.cells (a8 x.l) 24 (0,0)),(b6,Obj.cells (aJ x).toArray 24 (0,0))]):=eW.app ⟨bA,ei,trivial⟩
  refine ko @bL ?_
  first|with_reducible refine ks [] (And.intro @bL @xA) ?_|refine kp (And.intro @bL @xA) ?_
  refine Ow.appendXG (e:=24) (k:=(l.drop g).length) (new:=((l.drop g).map aJ).flatten) (X:=D5) v5 rfl rfl rfl rfl Tryz.underlying30 Tryz.ag24 (by kernel_rfl) k6 (by simp[aU,a8]) Tryz.underlying30 (by intro k h;cases h) ja (fun w' a7=>(uR.oldN a7 p5).appX fQ mm) (by omega) (fun B6 v6 D6 tf qQ ti Jm pQ uS=> ?_)
  have mL:New w.heap.size D6:=New.of_le fun q hq=>by
   rcases pQ q hq with h|h
   ·exact eW.le q h
   ·omega
  refine ko @bL ?_
  first|with_reducible refine ks [] @bL ?_|refine kp @bL ?_
  refine⟨_,(ke @bL), ?_⟩
  refine⟨Ext.of_new (mL.app ⟨bA,ei,trivial⟩), .inr (Gr.i (X:=D6) ?_ fun q hq=>List.mem_append_left _ hq)⟩
  rw[K6]
  have e1: (l.take g).length+1+ (l.drop g).length=(l.take g++x::l.drop g).length:=by simp only[List.length_append,List.length_cons];omega
  rw[e1] at ti
  show Gr D6 24 32 v6 _ _
  simpa only[List.map_append,List.map_cons,List.flatten_append,List.flatten_cons,List.append_assoc] using ti
end Go.Proofs
end
section
open Go Go.Proofs Go.Sx Go.StP Go.RooP
namespace Go.Proofs
set_option maxRecDepth 10000
set_option maxHeartbeats 400000
set_option linter.unusedSimpArgs false
structure ObK where
 k:Int
 t:List UInt8
instance:DecidableEq ObK:=fun a b=>if h:a.k=b.k∧a.t=b.t then .isTrue (by cases a;cases b;simp only at h;obtain⟨rfl,rfl⟩:=h;rfl) else .isFalse (fun e=>h (by rw[e];exact⟨rfl,rfl⟩))
def a_:ObK:=⟨0,[]⟩
def obKV (o:ObK):Value:=obV o.k o.t
abbrev bR:=IdL→ObK×Bool
structure WkS where
 q:List ChildL
 vis:List ChildL
 ms:List IdL
 lk:List ChildL
def dY (s:bR) (i:IdL):List ChildL:=eO (s i).1.k (s i).1.t
def dZ (s:bR) (c:ChildL):Bool:=(s c.id).2&& (c.kind==0||c.kind==(s c.id).1.k)
def en (s:bR) (W:WkS) (c:ChildL):WkS:=
 if dZ s c=true then(if c.id∈W.ms then{W with vis:=W.vis++ [c]} else{W with vis:=W.vis++ [c],ms:=W.ms++ [c.id],q:=W.q++dY s c.id})
 else{W with vis:=W.vis++ [c],lk:=W.lk++ [c]}
def stepQ (s:bR) (W:WkS):List ChildL→Bool×WkS
 | []=>(true,{W with q:= []})
 |c::q=>if c∈W.vis then stepQ s W q else(false,en s {W with q:=q} c)
def eQ (s:bR) (W:WkS):Bool×WkS:=stepQ s W W.q
def dJ (W:WkS) (r:List IdL):WkS:={W with q:=W.q++r.map fun i=>⟨i,0⟩}
def mz:WkS:=⟨[],[],[],[]⟩
def newK (r:List IdL):WkS:=dJ mz r
def runK (s:bR):Nat→WkS→WkS
 |0,W=>W
 |n+1,W=>if(eQ s W).1=true then(eQ s W).2 else runK s n (eQ s W).2
inductive ReachK (s:bR) (r:List IdL):ChildL→Prop
 |root {i:IdL} (h:i∈r):ReachK s r ⟨i,0⟩
 |kid {c d:ChildL} (h:ReachK s r c) (hf:dZ s c=true) (hd:d∈dY s c.id):ReachK s r d
structure WkI (s:bR) (r:List IdL) (W:WkS):Prop where
 q: ∀c,c∈W.q→ReachK s r c
 vis: ∀c,c∈W.vis→ReachK s r c
 root: ∀i,i∈r→(⟨i,0⟩:ChildL)∈W.vis∨(⟨i,0⟩:ChildL)∈W.q
 fine: ∀c,c∈W.vis→dZ s c=true→c.id∈W.ms
 lack: ∀c,c∈W.vis→dZ s c=false→c∈W.lk
 ms: ∀i,i∈W.ms→ ∃c,c∈W.vis∧dZ s c=true∧c.id=i
 lk: ∀c,c∈W.lk→c∈W.vis∧dZ s c=false
 kids: ∀i,i∈W.ms→ ∀d,d∈dY s i→d∈W.vis∨d∈W.q
 nv:W.vis.Nodup
 nm:W.ms.Nodup
theorem ReachK.mono {s:bR} {r r':List IdL} (h: ∀i,i∈r→i∈r') {c:ChildL} (hc:ReachK s r c):ReachK s r' c:=by
 induction hc with
 |root hi=>exact .root (h _ hi)
 |kid _ hf hd ih=>exact .kid ih hf hd
theorem WkI.new (s:bR) (r:List IdL):WkI s r (newK r) where
 q c hc:=by
  simp only[newK,dJ,mz,List.nil_append,List.mem_map] at hc
  obtain⟨i,hi,rfl⟩:=hc
  exact .root hi
 vis c hc:=by cases hc
 root i hi:= .inr (by simp only[newK,dJ,mz,List.nil_append,List.mem_map];exact⟨i,hi,rfl⟩)
 fine c hc:=by cases hc
 lack c hc:=by cases hc
 ms i hi:=by cases hi
 lk c hc:=by cases hc
 kids i hi:=by cases hi
 nv:=List.nodup_nil
 nm:=List.nodup_nil
theorem WkI.add {s:bR} {r:List IdL} {W:WkS} (h:WkI s r W) (r':List IdL):WkI s (r++r') (dJ W r') where
 q c hc:=by
  simp only[dJ,List.mem_append,List.mem_map] at hc
  rcases hc with hc| ⟨i,hi,rfl⟩
  ·exact(h.q c hc).mono fun i hi=>List.mem_append_left _ hi
  ·exact .root (List.mem_append_right _ hi)
 vis c hc:=(h.vis c hc).mono fun i hi=>List.mem_append_left _ hi
 root i hi:=by
  simp only[dJ,List.mem_append,List.mem_map]
  rcases List.mem_append.1 hi with hi|hi
  ·rcases h.root i hi with h1|h1
   ·exact .inl h1
   ·exact .inr (.inl h1)
  ·exact .inr (.inr ⟨i,hi,rfl⟩)
 fine:=h.fine
 lack:=h.lack
 ms:=h.ms
 lk:=h.lk
 kids i hi d hd:=(h.kids i hi d hd).imp id fun h1=>List.mem_append_left _ h1
 nv:=h.nv
 nm:=h.nm
theorem WkI.visit {s:bR} {r:List IdL} {W:WkS} {c:ChildL} {q:List ChildL} (h:WkI s r W) (hq: ∀d,d∈W.q→d=c∨d∈q∨d∈W.vis) (kX: ∀d,d∈q→d∈W.q) (hc:c∈W.q) (hn:c∉W.vis):WkI s r (en s {W with q:=q} c):=by
 have hR:=h.q c hc
 have nv: (W.vis++ [c]).Nodup:=by
  rw[List.nodup_append]
  exact⟨h.nv,by simp,fun a ha b hb=>by simp only[List.mem_singleton] at hb;subst hb;intro e;subst e;exact hn ha⟩
 have root: ∀i,i∈r→(⟨i,0⟩:ChildL)∈W.vis++ [c]∨(⟨i,0⟩:ChildL)∈q:=fun i hi=>by
  rw[List.mem_append,List.mem_singleton]
  rcases h.root i hi with h1|h1
  ·exact .inl (.inl h1)
  ·rcases hq _ h1 with h2|h2|h2
   ·exact .inl (.inr h2)
   ·exact .inr h2
   ·exact .inl (.inl h2)
 have kids: ∀i,i∈W.ms→ ∀d,d∈dY s i→d∈W.vis++ [c]∨d∈q:=fun i hi d hd=>by
  rw[List.mem_append,List.mem_singleton]
  rcases h.kids i hi d hd with h1|h1
  ·exact .inl (.inl h1)
  ·rcases hq _ h1 with h2|h2|h2
   ·exact .inl (.inr h2)
   ·exact .inr h2
   ·exact .inl (.inl h2)
 have vis: ∀d,d∈W.vis++ [c]→ReachK s r d:=fun d hd=>by
  rw[List.mem_append,List.mem_singleton] at hd
  rcases hd with hd|rfl
  ·exact h.vis d hd
  ·exact hR
 unfold en
 by_cases hf:dZ s c=true
 ·rw[if_pos hf]
  by_cases hm:c.id∈W.ms
  ·rw[if_pos hm]
   exact{
    q:=fun d hd=>h.q d (kX d hd)
    vis:=vis
    root:=root
    fine:=fun d hd gn=>by
     rcases List.mem_append.1 hd with hd|hd
     ·exact h.fine d hd gn
     ·rw[List.mem_singleton] at hd;subst hd;exact hm
    lack:=fun d hd gn=>by
     rcases List.mem_append.1 hd with hd|hd
     ·exact h.lack d hd gn
     ·rw[List.mem_singleton] at hd;subst hd;rw[hf] at gn;cases gn
    ms:=fun i hi=>by
     obtain⟨d,h1,h2⟩:=h.ms i hi
     exact⟨d,List.mem_append_left _ h1,h2⟩
    lk:=fun d hd=>⟨List.mem_append_left _ (h.lk d hd).1,(h.lk d hd).2⟩
    kids:=kids
    nv:=nv
    nm:=h.nm}
  ·rw[if_neg hm]
   exact{
    q:=fun d hd=>by
     rcases List.mem_append.1 hd with hd|hd
     ·exact h.q d (kX d hd)
     ·exact .kid hR hf hd
    vis:=vis
    root:=fun i hi=>(root i hi).imp id fun h1=>List.mem_append_left _ h1
    fine:=fun d hd gn=>by
     rcases List.mem_append.1 hd with hd|hd
     ·exact List.mem_append_left _ (h.fine d hd gn)
     ·rw[List.mem_singleton] at hd;subst hd;exact List.mem_append_right _ (List.mem_singleton.2 rfl)
    lack:=fun d hd gn=>by
     rcases List.mem_append.1 hd with hd|hd
     ·exact h.lack d hd gn
     ·rw[List.mem_singleton] at hd;subst hd;rw[hf] at gn;cases gn
    ms:=fun i hi=>by
     rcases List.mem_append.1 hi with hi|hi
     ·obtain⟨d,h1,h2⟩:=h.ms i hi
      exact⟨d,List.mem_append_left _ h1,h2⟩
     ·rw[List.mem_singleton] at hi;subst hi
      exact⟨c,List.mem_append_right _ (List.mem_singleton.2 rfl),hf,rfl⟩
    lk:=fun d hd=>⟨List.mem_append_left _ (h.lk d hd).1,(h.lk d hd).2⟩
    kids:=fun i hi d hd=>by
     rcases List.mem_append.1 hi with hi|hi
     ·exact(kids i hi d hd).imp id fun h1=>List.mem_append_left _ h1
     ·rw[List.mem_singleton] at hi;subst hi
      exact .inr (List.mem_append_right _ hd)
    nv:=nv
    nm:=by
     rw[List.nodup_append]
     exact⟨h.nm,by simp,fun a ha b hb=>by simp only[List.mem_singleton] at hb;subst hb;intro e;subst e;exact hm ha⟩}
 ·have uJ:dZ s c=false:=by simpa using hf
  rw[if_neg hf]
  exact{
   q:=fun d hd=>h.q d (kX d hd)
   vis:=vis
   root:=root
   fine:=fun d hd gn=>by
    rcases List.mem_append.1 hd with hd|hd
    ·exact h.fine d hd gn
    ·rw[List.mem_singleton] at hd;subst hd;exact absurd gn hf
   lack:=fun d hd gn=>by
    rcases List.mem_append.1 hd with hd|hd
    ·exact List.mem_append_left _ (h.lack d hd gn)
    ·exact List.mem_append_right _ hd
   ms:=fun i hi=>by
    obtain⟨d,h1,h2⟩:=h.ms i hi
    exact⟨d,List.mem_append_left _ h1,h2⟩
   lk:=fun d hd=>by
    rcases List.mem_append.1 hd with hd|hd
    ·exact⟨List.mem_append_left _ (h.lk d hd).1,(h.lk d hd).2⟩
    ·rw[List.mem_singleton] at hd;subst hd
     exact⟨List.mem_append_right _ (List.mem_singleton.2 rfl),uJ⟩
   kids:=kids
   nv:=nv
   nm:=h.nm}
theorem WkI.stepQ {s:bR} {r:List IdL} {W:WkS} (h:WkI s r W): ∀ (q:List ChildL),(∀d,d∈W.q→d∈q∨d∈W.vis)→(∀d,d∈q→d∈W.q)→WkI s r (stepQ s W q).2
 | [],h1,_=>by
  unfold Go.Proofs.stepQ
  exact{h with
   q:=fun c hc=>by cases hc
   root:=fun i hi=>by
    rcases h.root i hi with h2|h2
    ·exact .inl h2
    ·rcases h1 _ h2 with h3|h3
     ·cases h3
     ·exact .inl h3
   kids:=fun i hi d hd=>by
    rcases h.kids i hi d hd with h2|h2
    ·exact .inl h2
    ·rcases h1 _ h2 with h3|h3
     ·cases h3
     ·exact .inl h3}
 |c::q,h1,h2=>by
  unfold Go.Proofs.stepQ
  by_cases hc:c∈W.vis
  ·rw[if_pos hc]
   refine h.stepQ q (fun d hd=> ?_) (fun d hd=>h2 d (List.mem_cons_of_mem _ hd))
   rcases h1 d hd with h3|h3
   ·rcases List.mem_cons.1 h3 with rfl|h3
    ·exact .inr hc
    ·exact .inl h3
   ·exact .inr h3
  ·rw[if_neg hc]
   refine h.visit (fun d hd=> ?_) (fun d hd=>h2 d (List.mem_cons_of_mem _ hd)) (h2 c List.mem_cons_self) hc
   rcases h1 d hd with h3|h3
   ·rcases List.mem_cons.1 h3 with rfl|h3
    ·exact .inl rfl
    ·exact .inr (.inl h3)
   ·exact .inr (.inr h3)
theorem WkI.step {s:bR} {r:List IdL} {W:WkS} (h:WkI s r W):WkI s r (eQ s W).2:=h.stepQ W.q (fun _ hd=> .inl hd) (fun _ hd=>hd)
theorem WkI.run {s:bR} {r:List IdL}: ∀ (n:Nat) {W:WkS},WkI s r W→WkI s r (runK s n W)
 |0,_,h=>h
 |n+1,W,h=>by
  unfold runK
  split
  ·exact h.step
  ·exact WkI.run n h.step
theorem WkI.all {s:bR} {r:List IdL} {W:WkS} (h:WkI s r W) (hq:W.q= []) (c:ChildL):ReachK s r c↔c∈W.vis:=by
 refine⟨fun hc=> ?_,h.vis c⟩
 induction hc with
 |root hi=>
  rcases h.root _ hi with h1|h1
  ·exact h1
  ·rw[hq] at h1;cases h1
 |kid _ hf hd ih=>
  rcases h.kids _ (h.fine _ ih hf) _ hd with h1|h1
  ·exact h1
  ·rw[hq] at h1;cases h1
theorem WkI.marked {s:bR} {r:List IdL} {W:WkS} (h:WkI s r W) (hq:W.q= []) (i:IdL):i∈W.ms↔ ∃c,ReachK s r c∧dZ s c=true∧c.id=i:=by
 refine⟨fun hi=> ?_,fun⟨c,h1,h2,h3⟩=> ?_⟩
 ·obtain⟨c,h1,h2,h3⟩:=h.ms i hi
  exact⟨c,h.vis c h1,h2,h3⟩
 ·rw[←h3];exact h.fine c ((h.all hq c).1 h1) h2
theorem WkI.missing {s:bR} {r:List IdL} {W:WkS} (h:WkI s r W) (hq:W.q= []) (c:ChildL):c∈W.lk↔ReachK s r c∧dZ s c=false:=
 ⟨fun hc=>⟨h.vis c (h.lk c hc).1,(h.lk c hc).2⟩,fun⟨h1,h2⟩=>h.lack c ((h.all hq c).1 h1) h2⟩
theorem Bh (s:bR) (W:WkS) (c:ChildL): (en s W c).vis=W.vis++ [c]:=by
 unfold en;split
 ·split<;>rfl
 ·rfl
theorem Lx (s:bR) (W:WkS): ∀ (q:List ChildL),(stepQ s W q).1=true→(stepQ s W q).2={W with q:= []}
 | [],_=>rfl
 |c::q,h=>by
  unfold stepQ at h ⊢
  split
  ·rename_i hc;rw[if_pos hc] at h;exact Lx s W q h
  ·rename_i hc;rw[if_neg hc] at h;cases h
theorem sF (s:bR) (W:WkS): ∀ (q:List ChildL),(stepQ s W q).1=false→ ∃c,(stepQ s W q).2.vis=W.vis++ [c]
 | [],h=>by cases h
 |c::q,h=>by
  unfold stepQ at h ⊢
  split
  ·rename_i hc;rw[if_pos hc] at h;exact sF s W q h
  ·exact⟨c,Bh _ _ _⟩
theorem s6 {s:bR} {W:WkS} (h: (eQ s W).1=false): (eQ s W).2.vis.length=W.vis.length+1:=by
 obtain⟨c,hc⟩:=sF s W W.q h
 unfold eQ
 rw[hc,List.length_append];rfl
theorem ri {α:Type} [DecidableEq α] {a b:List α} (hn:a.Nodup) (h: ∀x,x∈a→x∈b):a.length≤b.length:=by
 induction a generalizing b with
 |nil=>exact Nat.zero_le _
 |cons x a ih=>
  rw[List.nodup_cons] at hn
  have hx:=h x List.mem_cons_self
  have:=ih (b:=b.erase x) hn.2 (fun y hy=>(List.mem_erase_of_ne (fun e=>hn.1 (by rw[←e];exact hy))).2 (h y (List.mem_cons_of_mem _ hy)))
  rw[List.length_erase_of_mem hx] at this
  have hp:=List.length_pos_of_mem hx
  rw[List.length_cons];omega
def lw (s:bR) (ids r:List IdL):List ChildL:=r.map (fun i=>⟨i,0⟩)++ (ids.map (dY s)).flatten
theorem ReachK.name {s:bR} {ids r:List IdL} (hi: ∀i,(s i).2=true→i∈ids) {c:ChildL} (h:ReachK s r c):c∈lw s ids r:=by
 cases h with
 |root h=>exact List.mem_append_left _ (List.mem_map.2 ⟨_,h,rfl⟩)
 | @kid c d h hf hd=>
  refine List.mem_append_right _ (List.mem_flatten.2 ⟨_,List.mem_map.2 ⟨c.id,hi _ ?_,rfl⟩,hd⟩)
  unfold dZ at hf
  simp only[Bool.and_eq_true] at hf
  exact hf.1
theorem WkI.le {s:bR} {ids r:List IdL} {W:WkS} (h:WkI s r W) (hi: ∀i,(s i).2=true→i∈ids):W.vis.length≤ (lw s ids r).length:=
 ri h.nv fun c hc=>(h.vis c hc).name hi
def bZ (l:List IdL):List IdL:=l.foldl (fun a x=>du x a) []
theorem rf (l:List IdL): (bZ l).map IdL.l=(l.map IdL.l).foldl (fun a x=>putI x a) []:=by
 have h: ∀ (l a:List IdL),(l.foldl (fun a x=>du x a) a).map IdL.l=(l.map IdL.l).foldl (fun a x=>putI x a) (a.map IdL.l):=by
  intro l
  induction l with
  |nil=>intro a;rfl
  |cons x l ih=>intro a;rw[List.foldl_cons,ih,rz];rfl
 exact h l []
theorem yZ: ∀ {a b:List IdL},a.map IdL.l=b.map IdL.l→a=b
 | [],[],_=>rfl
 | [],_::_,h=>by cases h
 |_::_,[],h=>by cases h
 |x::a,y::b,h=>by
  simp only[List.map_cons,List.cons.injEq] at h
  rw[IdL.ext2 h.1,yZ h.2]
theorem mem_srtI {x:IdL} {l:List IdL}:x∈bZ l↔x∈l:=by
 have key: ∀ (l a:List (List UInt8)) (y:List UInt8),y∈l.foldl (fun a x=>putI x a) a↔y∈l∨y∈a:=by
  intro l
  induction l with
  |nil=>intro a y;simp
  |cons z l ih=>
   intro a y
   rw[List.foldl_cons,ih,mem_putI,List.mem_cons]
   constructor
   ·rintro(h|h|h)
    ·exact .inl (.inr h)
    ·exact .inl (.inl h)
    ·exact .inr h
   ·rintro((h|h) |h)
    ·exact .inr (.inl h)
    ·exact .inl h
    ·exact .inr (.inr h)
 have h1: ∀ (l:List IdL) (x:IdL),x∈l↔x.l∈l.map IdL.l:=fun l x=>by
  rw[List.mem_map]
  exact⟨fun h=>⟨x,h,rfl⟩,fun⟨y,h,e⟩=>by rw[←IdL.ext2 e];exact h⟩
 rw[h1 (bZ l),h1 l,rf,key]
 simp
theorem yA (l:List IdL):Ris ((bZ l).map IdL.l):=by
 rw[rf]
 have: ∀ (l a:List (List UInt8)),Ris a→Ris (l.foldl (fun a x=>putI x a) a):=by
  intro l
  induction l with
  |nil=>intro a h;exact h
  |cons z l ih=>intro a h;rw[List.foldl_cons];exact ih _ (sI h)
 exact this _ _ List.Pairwise.nil
theorem rD {a b:List IdL} (h: ∀i,i∈a↔i∈b):bZ a=bZ b:=by
 refine yZ (Ris.ext (yA a) (yA b) fun x=> ?_)
 rw[List.mem_map,List.mem_map]
 constructor
 ·rintro⟨y,h1,h2⟩;exact⟨y,mem_srtI.2 ((h y).1 (mem_srtI.1 h1)),h2⟩
 ·rintro⟨y,h1,h2⟩;exact⟨y,mem_srtI.2 ((h y).2 (mem_srtI.1 h1)),h2⟩
theorem Lr (l:List IdL) (x:IdL):bZ (l++ [x])=du x (bZ l):=by
 unfold bZ
 rw[List.foldl_append];rfl
theorem Ax {l s:List IdL} (hp:s.Perm l) (hn:l.Nodup) (hs:s.Pairwise fun x y=>ltB y.l x.l=false):s=bZ l:=by
 have S5:s.Nodup:=hp.nodup_iff.2 hn
 have hr:Ris (s.map IdL.l):=by
  refine List.pairwise_map.2 ?_
  refine List.Pairwise.imp₂ ?_ hs S5
  intro x y h1 h2
  exact qB h1 fun e=>h2 (IdL.ext2 e.symm)
 refine yZ (Ris.ext hr (yA l) fun x=> ?_)
 rw[List.mem_map,List.mem_map]
 constructor
 ·rintro⟨y,h1,h2⟩;exact⟨y,mem_srtI.2 (hp.mem_iff.1 h1),h2⟩
 ·rintro⟨y,h1,h2⟩;exact⟨y,hp.mem_iff.2 (mem_srtI.1 h1),h2⟩
end Go.Proofs
end
section
open Go Go.Proofs Go.Sx Go.StP
namespace Go.Proofs
set_option maxRecDepth 10000
set_option maxHeartbeats 400000
set_option linter.unusedSimpArgs false
def eC (i:IdL):Value:= .agg (a8 i.l)
def chKV (c:ChildL):Value:= .agg (aB c).toArray
def blV (b:Bool):Value:= .bool b
theorem rW:KeyOk Tryz.prog 24 eC:=KeyOk.arr Tryz.underlying24 Tryz.underlying5 (id (by kernel_rfl):aF Tryz.prog 5=some (false,1)) IdL.l (fun a=>a.h) (fun a b=>by
 rw[Bool.eq_iff_iff,beq_iff_eq,beq_iff_eq]
 exact⟨fun h=>IdL.ext2 h,fun h=>by rw[h]⟩)
theorem OT {P:Program} {t e:TypeId} {n d:Nat} (hu:P.underlying t=some (.array n e)) (he:P.underlying e=some (.int .u8)) (hm:aF P e=some (false,1)) (l:List UInt8) (hl:l.length=n) (em:Bool) (w:World):
  (Instr.checkKey em (d+2) t (.agg (a8 l))).run P w= .ok () w:=by
 show(Instr.checkKey em ((d+1)+1) t (.agg (a8 l))).run P w= .ok () w
 rw[Instr.checkKey]
 simp only[Sem.run_bind,run_underlying hu,Result.andThen_ok]
 simp only[Std.Legacy.Range.forIn_eq_forIn_range',Std.Legacy.Range.size,Nat.sub_zero,Nat.add_one_sub_one,Nat.div_one]
 have each: ∀j,j∈List.range' 0 n→j<l.length:=by
  intro j hj
  rw[List.mem_range'] at hj
  obtain⟨i,hi,rfl⟩:=hj
  omega
 generalize List.range' 0 n=is at each
 induction is with
 |nil=>simp
 |cons j is ih=>
  have hj:=each j (by simp)
  have p1: (part e (a8 l) (j*1)).run P w= .ok (v8 (l.getD j 0)) w:=by
   refine i' hm ?_ w
   simp[partV,a8,v8,hj]
  have p2: (Instr.checkKey em (d+1) e (v8 (l.getD j 0))).run P w= .ok () w:=by
   rw[Instr.checkKey]
   simp only[Sem.run_bind,run_underlying he,Result.andThen_ok,v8]
   rfl
  simp only[List.forIn_cons,Sem.run_bind,Sx.run_sizeOf hm w,Result.andThen_ok,p1,p2,Sem.run_pure]
  exact ih (fun y hy=>each y (by simp[hy]))
theorem FO (w:World) (e:Bool) (k:ChildL): (Instr.checkKey e 10000 59 (chKV k)).run Tryz.prog w= .ok () w:=by
 show(Instr.checkKey e (9999+1) _ _).run Tryz.prog w=_
 rw[Instr.checkKey]
 have p1: (part 24 (aB k).toArray 0).run Tryz.prog w= .ok (.agg (a8 k.id.l)) w:=i' qG (tI k) w
 have p2: (part 3 (aB k).toArray 32).run Tryz.prog w= .ok (vi k.kind) w:=i' (id (by kernel_rfl):aF Tryz.prog 3=some (false,1)) (tA k) w
 have c1: (Instr.checkKey e 9999 24 (.agg (a8 k.id.l))).run Tryz.prog w= .ok () w:=OT (d:=9997) Tryz.underlying24 Tryz.underlying5 (id (by kernel_rfl):aF Tryz.prog 5=some (false,1)) _ k.id.h e w
 have c2: (Instr.checkKey e 9999 3 (vi k.kind)).run Tryz.prog w= .ok () w:=by
  show(Instr.checkKey e (9998+1) _ _).run Tryz.prog w=_
  rw[Instr.checkKey]
  simp only[Sem.run_bind,run_underlying Tryz.underlying3,Result.andThen_ok,vi]
  rfl
 simp only[Sem.run_bind,run_underlying Tryz.underlying59 w,Result.andThen_ok,chKV]
 simp[p1,p2,c1,c2]
theorem tF:KeyOk Tryz.prog 59 chKV:=KeyOk.struct Tryz.underlying59 chKV (fun a b=>by
  show eqD Tryz.prog 8 59 (.agg (aB a).toArray) (.agg (aB b).toArray)=_
  rw[sz]
  congr 1
  rw[Bool.eq_iff_iff,beq_iff_eq]
  exact⟨fun h=>ChildL.ext' h,fun h=>by rw[h];simp⟩) FO (fun k=>P3 _ fun x hx=>by
  unfold aB at hx
  rcases List.mem_append.1 hx with hx|hx
  ·obtain⟨y,-,rfl⟩:=List.mem_map.1 hx
   simp[v8,Instr.sameBits]
  ·rw[List.mem_singleton] at hx
   subst hx
   simp[vi,Instr.sameBits])
def bK (m:List (IdL×ObK)):bR:=fun i=>(eU i a_ m,hasG i m)
structure SrcAt (w:World) (sv:Value) (m:List (IdL×ObK)) (bx bm:Nat) (om:Obj):Prop where
 sv:sv= .iface 118 (vp bx 0)
 bx:w.heap[bx]? =some (.cells #[vm bm] 121 (0,0))
 bm:w.heap[bm]? =some om
 m:gD eC obKV om m
theorem SrcAt.old {w w':World} {L:a6} {sv:Value} {m:List (IdL×ObK)} {bx bm:Nat} {om:Obj} (h:SrcAt w sv m bx bm om) (hw:Hp w L w') (h1:bx∉keys L) (h2:bm∉keys L):SrcAt w' sv m bx bm om:=
 ⟨h.sv,(hw.old _ (Array.getElem?_eq_some_iff.1 h.bx).1 h1).trans h.bx,(hw.old _ (Array.getElem?_eq_some_iff.1 h.bm).1 h2).trans h.bm,h.m⟩
def SrcW (w:World) (sv:Value) (m:List (IdL×ObK)) (X:a6):Prop:= ∃bx bm om,SrcAt w sv m bx bm om∧bx∉keys X∧bm∉keys X
theorem SrcW.old {w w':World} {L X:a6} {sv:Value} {m:List (IdL×ObK)} (h:SrcW w sv m L) (hw:Hp w L w') (hX: ∀c,c∈keys X→c∈keys L):SrcW w' sv m X:=by
 obtain⟨bx,bm,om,h1,h2,h3⟩:=h
 exact⟨bx,bm,om,h1.old hw h2 h3,fun hm=>h2 (hX _ hm),fun hm=>h3 (hX _ hm)⟩
theorem SrcW.ext {w:World} {L X:a6} {sv:Value} {m:List (IdL×ObK)} (h:SrcW w sv m X) (hL: ∀c,c∈keys L→c∈keys X∨w.heap.size≤c):SrcW w sv m L:=by
 obtain⟨bx,bm,om,h1,h2,h3⟩:=h
 have k1:=(Array.getElem?_eq_some_iff.1 h1.bx).1
 have k2:=(Array.getElem?_eq_some_iff.1 h1.bm).1
 refine⟨bx,bm,om,h1,fun hm=> ?_,fun hm=> ?_⟩
 ·rcases hL _ hm with h|h
  ·exact h2 h
  ·omega
 ·rcases hL _ hm with h|h
  ·exact h3 h
  ·omega
theorem oZ {n:Nat} {E:a6} {o:Obj} {Q:Nat→Prop} (h:E= []∨ ∃b,E= [(b,o)]∧n≤b∧Q b):New n E:=by
 rcases h with rfl| ⟨b,rfl,h,-⟩
 ·trivial
 ·exact⟨h,trivial⟩
theorem oN (b:Nat) (n:Nat) (E:TypeId) (fz:Nat×Nat):aS (some (false,n)) (some (.cells #[vm b] E fz)) 0=some (vm b):=(rfl)
set_option linter.defProp false
def jY:=And.intro (And.intro (And.intro (@gB) (@gZ)) (And.intro (@gY) (And.intro (@gX) (@Sx.tup2_0)))) (And.intro (And.intro (@Sx.tup2_1) (@cP)) (And.intro (@cO) (And.intro (@jO) (@oN))))
theorem EJ (bx bm:Nat) (om:Obj) (m:List (IdL×ObK)) (i:IdL) (sv:Value) (w:World) (h:SrcAt w sv m bx bm om):
  Rets Tryz.prog 342 #[vp bx 0, .agg (a8 i.l)] w (fun v D=>v= .tuple #[obKV (bK m i).1, .bool (bK m i).2]∧D= []):=by
 have qc:=h.bx
 have nF:=h.bm
 have x3:=(Array.getElem?_eq_some_iff.1 qc).1
 have mQ:=(Array.getElem?_eq_some_iff.1 nF).1
 refine Rets.enterV Tryz.func342 rfl (rs:= [.cell 4 35, .tmp 5]) Tryz.results342 Tryz.ntmps342 ?_
 refine kf ?_
 first|with_reducible refine ks [] @jY ?_|refine kp @jY ?_
 refine Ow.box rfl rfl fun b3 cQ bA=> ?_
 simp only[bp,bj,cJ,aU,List.nil_append,List.cons_append]
 refine Ow.go rfl ?_
 simp(disch:=(first|assumption|omega| (simp only[ac,ab,UInt64.reduceToNat];try omega))) only[↓Sx.S0,Sx.S1,Tryz.fx,jY,Nat.reduceAdd,Nat.reducePow,Int.reducePow,Nat.reduceBEq, ↓reduceIte,UInt8.reduceToNat,UInt16.reduceToNat,UInt32.reduceToNat,UInt64.reduceToNat,Int.reduceToNat]
 refine Ow.alloc rfl rfl gC fun b4 dN cB=> ?_
 simp only[aU,List.nil_append,List.cons_append]
 have qN:b3<b4:=aP dN (by simp[keys])
 have tu:New w.heap.size [(b3,Obj.cells (a8 i.l) 24 (0,0)),(b4, .cells #[vi 0,vs []] 35 (0,0))]:=⟨bA,cB,trivial⟩
 have rbx:aO w [(b3,Obj.cells (a8 i.l) 24 (0,0)),(b4, .cells #[vi 0,vs []] 35 (0,0))] bx=some (.cells #[vm bm] 121 (0,0)):=by rw[jT (tu.not x3)];exact qc
 refine ko @jY ?_
 first|with_reducible refine ks [] @jY ?_|refine kp @jY ?_
 refine Cw.regionD [bx,b3] [10] 9 6 35 11 _ rfl (by kernel_rfl) (by kernel_rfl) rfl (by kernel_rfl) gC (fun hD=> ?_)
 simp only[List.replicate_succ,List.replicate_zero]
 refine OwD.run [0,1,2,3,4] [true,true,true,true,true,false,false,false,false,false,false,false] 6 rfl hD (by kernel_rfl) fun k hk=> ?_
 simp only[aN, ↓aM, ↓aH, ↓aL, ↓aK,aI]
 simp(disch:=(first|assumption|omega| (simp only[ac,ab,UInt64.reduceToNat];try omega))) only[↓Sx.S0,Sx.S1,Tryz.fx,jY,Nat.reduceAdd,Nat.reducePow,Int.reducePow,Nat.reduceBEq, ↓reduceIte,UInt8.reduceToNat,UInt16.reduceToNat,UInt32.reduceToNat,UInt64.reduceToNat,Int.reduceToNat,Md.next_sofnil,rbx]
 (with_reducible refine hk _ _ _ ?_);clear hk k
 refine OwD.soft 5 _ hD rfl (by kernel_rfl) (fun E hE=> ?_)
 have wl:=tu.app (oZ hE)
 refine Ow.mapGet2G (encK:=eC) (encV:=obKV) (k:=i) (z:=a_) rfl rfl Tryz.underlying119 rW gC rfl rfl (by rw[jT (wl.not mQ)];exact nF) h.m ?_
 with_reducible refine Ow.nil ?_
 refine⟨_,List.Perm.refl _,fun _ _=>rfl, ?_⟩
 simp only[List.set_cons_zero,List.set_cons_succ,ax,an,ao]
 refine OwD.run [6,7,8] [true,true,true,true,true,true,true,true,true,false,false,false] 2 rfl hD (by kernel_rfl) fun k hk=> ?_
 simp only[aN, ↓aM, ↓aH, ↓aL, ↓aK,aI]
 simp(disch:=(first|assumption|omega| (simp only[ac,ab,UInt64.reduceToNat];try omega))) only[↓Sx.S0,Sx.S1,Tryz.fx,jY,Nat.reduceAdd,Nat.reducePow,Int.reducePow,Nat.reduceBEq, ↓reduceIte,UInt8.reduceToNat,UInt16.reduceToNat,UInt32.reduceToNat,UInt64.reduceToNat,Int.reduceToNat,Md.next_sofnil,Sx.tup2_0,Sx.tup2_1]
 (with_reducible refine hk _ _ _ ?_);clear hk k
 refine OwD.real [10,11] rfl hD (by kernel_rfl) (by kernel_rfl) (by kernel_rfl) (by kernel_rfl) (fun r hr=>by simp only[List.mem_cons,List.not_mem_nil,or_false] at hr;rcases hr with rfl|rfl;exact .inr x3;exact .inl (by simp[keys])) ?_
 simp only[aN, ↓aM, ↓aH, ↓aL, ↓aK,aI]
 intro b6 ei dU
 simp only[an,ao]
 refine Ow.store rfl rfl rfl (L':= [(b3, .cells (a8 i.l) 24 (0,0)),(b4, .cells #[vi 0,vs []] 35 (0,0))]++ [(b6, .cells #[vi (bK m i).1.k,vs (bK m i).1.t] 35 (0,0))]) ?_ ?_
 ·simp only[bp,bj,cJ]
  have bP:aZ (some (true,2)) (some (Obj.cells (Value.cells (obV 0 [])) 35 (0,0))) 0 (obKV (eU i a_ m))=some (.cells #[vi (bK m i).1.k,vs (bK m i).1.t] 35 (0,0)):=rfl
  rw[Tryz.ag35,nk,xD dU,bP,ni,rK dU]
  exact []
 have j8:b3≠b6∧b4≠b6:=by simp[keys] at dU;omega
 obtain⟨j8,gj⟩:=j8
 simp only[List.cons_append,List.nil_append]
 refine ko @jY ?_
 first|with_reducible refine ks [] @jY ?_|refine kp @jY ?_
 refine⟨_,(ke @jY),⟨bA,cB,ei,trivial⟩, ?_⟩
 rfl
end Go.Proofs
end
namespace Go.Sx
open Go
section
variable {P:Program} {w0:World} {l:List Oper} {R ts:List Nat} {n:Nat} {listed:List Bool} {f:Fr} {L:a6} {N:Fr→a6→Prop}
def OwG (P:Program) (w0:World) (l:List Oper) (R ts:List Nat) (n:Nat) (listed:List Bool) (f:Fr) (L:a6) (N:Fr→a6→Prop):Prop:=
 ∀w,Hp w0 L w→g_ P l.toArray (d8 w0 N) ts (SR w0 R L) n listed.toArray (act f) w
theorem Cw.regionG {id:Nat} {K:bM} (R ts:List Nat) (m:Nat) (hl:l.length=m) (hm:P.follows .mixedOrders=true) (h:OwG P w0 l R ts m (List.replicate m false) f L (K .normal)):Cw P w0 (.region id l.toArray true) f L K:=by
 intro w hw
 subst hl
 refine wp_mono (wp_region_any hm ?_) fun _ _ _ h=>nV h
 have:=ut _ _ _ _ (h _ hw.drew)
 simpa using this
def chkG (P:Program) (l:List Oper) (ts:List Nat):List Nat→List Bool→Option (List Bool)
 | [],listed=>some listed
 |k::is,listed=>
  match cH l k with
  |some o=>if !ts.contains k&& (ts.all fun t=> !listed.toArray.getD t true)&& (Region.ready .any l.toArray listed.toArray).contains k&&Region.free .any l.toArray listed.toArray k&&
    (eI P o.op|| (l5 o.op&&nz l.toArray ts listed.toArray k)) then chkG P l ts is (listed.set k true) else none
  |none=>none
theorem OwG.step {k:Nat} {o:Oper} {v:Value} (ef:Region.noSelect l.toArray=true) (hk:cH l k=some o) {rest:List Bool} (hc:chkG P l ts [k] listed=some rest)
  (hY:YieldsC P l.toArray (SR w0 R L) (eI P o.op=true) o v (act f)) (h:OwG P w0 l R ts n rest (aX f o.dst v) L N):OwG P w0 l R ts (n+1) listed f L N:=by
 have fa:l.toArray[k]? =some o:=by rw[jN] at hk;simpa using hk
 unfold chkG at hc
 rw[hk] at hc
 simp only at hc
 split at hc
 ·rename_i gk
  simp only[chkG,Option.some.injEq] at hc
  subst hc
  simp only[Bool.and_eq_true,Bool.or_eq_true,Bool.not_eq_true',List.all_eq_true,List.contains_eq_mem,decide_eq_true_eq,decide_eq_false_iff_not] at gk
  obtain⟨⟨⟨⟨c2,c3⟩,c4⟩,c5⟩,c9⟩:=gk
  have fI:=Region.noSelect_spec ef
  intro w hw
  refine mj fa c2 fI (fun c a w h=>ij h) _ _ _ _ (mv (P:=P) fa c4 c5 (c9.imp id fun h=>⟨h.1,h.2,fun t ht=>c3 t ht⟩)) (.inr fun t ht=>c3 t ht) hY ?_
  rw[dX,jv]
  exact h w hw
 ·cases hc
theorem E' {k:Nat} {is:List Nat} {listed listed':List Bool} (h:chkG P l ts (k::is) listed=some listed'):chkG P l ts [k] listed=some (listed.set k true)∧chkG P l ts is (listed.set k true)=some listed':=by
 rw[chkG] at h
 cases ho:cH l k with
 |none=>rw[ho] at h;cases h
 |some o=>
  rw[ho] at h
  simp only at h
  split at h
  ·rename_i gk
   refine⟨?_,h⟩
   rw[chkG,ho]
   simp only
   rw[if_pos gk];rfl
  ·cases h
theorem OwG.runs {k:Md→List Oper→Fr→a6→Prop} (ef:Region.noSelect l.toArray=true): ∀ (is:List Nat) {listed listed':List Bool} {f:Fr} {L:a6},chkG P l ts is listed=some listed'→
  (∀md r f' L',k md r f' L'→r= []∧OwG P w0 l R ts n listed' f' L' N)→vcL P w0 l.toArray false (.sof R [] []) (eG l is) f L k→OwG P w0 l R ts (is.length+n) listed f L N
 | [],listed,listed',f,L,hc,hk,h=>by
  cases hc
  rw[List.length_nil,Nat.zero_add]
  exact(hk _ _ _ _ h).2
 |i::is,listed,listed',f,L,hc,hk,h=>by
  obtain⟨cF,dE⟩:=E' hc
  rw[aH] at h
  cases ho:cH l i with
  |none=>unfold chkG at cF;rw[ho] at cF;cases cF
  |some o=>
   rw[ho,aI] at h
   unfold vcL at h
   rw[List.length_cons,show is.length+1+n=(is.length+n)+1 by omega]
   cases hs:aq l.toArray f o with
   |true=>
    rw[hs] at h
    have dG:Region.wanted o (yielded l.toArray (act f).tmps)=false:=by rw[gW,hs];rfl
    exact OwG.step ef ho cF (v:=undef) (.inr ⟨dG,rfl⟩) (OwG.runs ef is dE hk h)
   |false=>
    rw[hs] at h
    have dG:Region.wanted o (yielded l.toArray (act f).tmps)=true:=by rw[gW,hs];rfl
    simp only[ib,vcB] at h
    split at h
    ·cases cG:fk (.sof R [] []) f o.op with
     |false=>rw[cG] at h;exact absurd (hk _ _ _ _ h).1 (by simp)
     |true=>
      rw[cG] at h
      simp only at h
      cases hv:et P w0 L f o.op with
      |none=>rw[hv] at h;exact absurd (hk _ _ _ _ h).1 (by simp)
      |some v=>
       rw[hv] at h
       refine OwG.step ef ho cF (v:=v) (.inl ⟨dG,fun w hw=> ?_⟩) (OwG.runs ef is dE hk h)
       rw[kl]
       rcases hw with hp|hw
       ·exact jt (Hp.refl w) (rJ hp hv w)
       ·exact jt (Hp.refl w) (KZ cG hv hw)
    ·exact absurd (hk _ _ _ _ h).1 (by simp)
    ·exact absurd (hk _ _ _ _ h).1 (by simp)
theorem OwG.run (is:List Nat) (listed':List Bool) (n:Nat) {m:Nat} (hm:m=is.length+n) (ef:Region.noSelect l.toArray=true) (hc:chkG P l ts is listed=some listed')
  (h: ∀k:Md→List Oper→Fr→a6→Prop,(∀md f L,OwG P w0 l R ts n listed' f L N→k md [] f L)→nl (eG l is) fun l'=>vcL P w0 l.toArray false (.sof R [] []) l' f L k):OwG P w0 l R ts m listed f L N:=by
 subst hm
 refine OwG.runs (k:=fun _ r f' L'=>r= []∧OwG P w0 l R ts n listed' f' L' N) ef is hc (fun _ _ _ _ h=>h) ?_
 exact h _ fun _ _ _ h=>⟨rfl,h⟩
def lq (l:List Oper) (ts:List Nat) (ks:List Nat) (listed:List Bool):Bool:=
 ((Region.ready .any l.toArray listed.toArray).all fun i=>ks.contains i)&& (Region.ready .any l.toArray listed.toArray != [])&&ks.all fun k=> !ts.contains k
theorem OwG.softs (ks:List Nat) (hs:lq l ts ks listed=true)
  (h: ∀k,k∈ks→ ∀o,cH l k=some o→Ow P w0 l.toArray .seq [o] f L (fun f' L'=>(∀r,r∈R→aO w0 L' r=aO w0 L r)∧OwG P w0 l R ts n (listed.set k true) f' L' N)):
  OwG P w0 l R ts (n+1) listed f L N:=by
 unfold lq at hs
 simp only[Bool.and_eq_true,List.all_eq_true,bne_iff_ne,ne_eq,List.contains_eq_mem,decide_eq_true_eq,Bool.not_eq_true',decide_eq_false_iff_not] at hs
 obtain⟨⟨c3,c4⟩,c6⟩:=hs
 intro w hw
 refine⟨fun _=>SR.of hw,fun hr=>absurd hr c4,fun i hi=> ?_⟩
 have RS:=c3 i hi
 obtain⟨-,oi,fa,-⟩:=mem_ready.1 hi
 have Rk:cH l i=some oi:=by rw[jN];simpa using fa
 refine q5 fa (X:=g_ P l.toArray (d8 w0 N) ts (SR w0 R L) n (listed.toArray.setIfInBounds i true)) ?_ hw
 intro w' a7
 have h1:=h i RS oi Rk w' a7
 refine xj ?_ h1
 rintro f' L' ⟨hS,hO⟩ w'' iO
 rw[rC hS,jv]
 exact hO w'' iO
theorem OwG.one (i:Nat) (oi:Oper) (hs:lq l ts [i] listed=true) (hi:cH l i=some oi)
  (h:Ow P w0 l.toArray .seq [oi] f L (fun f' L'=>(∀r,r∈R→aO w0 L' r=aO w0 L r)∧OwG P w0 l R ts n (listed.set i true) f' L' N)):OwG P w0 l R ts (n+1) listed f L N:=
 OwG.softs [i] hs fun k hk o ho=>by
  rw[List.mem_singleton] at hk
  subst hk
  rw[hi] at ho
  cases ho
  exact h
theorem OwG.two (i j:Nat) (oi oj:Oper) (hs:lq l ts [i,j] listed=true) (hi:cH l i=some oi) (hj:cH l j=some oj)
  (h1:Ow P w0 l.toArray .seq [oi] f L (fun f' L'=>(∀r,r∈R→aO w0 L' r=aO w0 L r)∧OwG P w0 l R ts n (listed.set i true) f' L' N))
  (h2:Ow P w0 l.toArray .seq [oj] f L (fun f' L'=>(∀r,r∈R→aO w0 L' r=aO w0 L r)∧OwG P w0 l R ts n (listed.set j true) f' L' N)):OwG P w0 l R ts (n+1) listed f L N:=
 OwG.softs [i,j] hs fun k hk o ho=>by
  simp only[List.mem_cons,List.not_mem_nil,or_false] at hk
  rcases hk with rfl|rfl
  ·rw[hi] at ho;cases ho;exact h1
  ·rw[hj] at ho;cases ho;exact h2
theorem OwG.permL {M:a6} (hp:M.Perm L) (hR: ∀r,r∈R→aO w0 M r=aO w0 L r) (h:OwG P w0 l R ts n listed f M N):OwG P w0 l R ts n listed f L N:=by
 intro w hw
 rw[rC hR]
 exact h w (hw.perm hp)
def tV (P:Program) (l:List Oper) (is ts:List Nat) (listed:List Bool):Bool:=
 Region.noSelect l.toArray&&n5 P l.toArray ts is listed.toArray&&ts.all fun t=> !listed.toArray.getD t true
theorem OwG.rest (is:List Nat) {m:Nat} (hm:m=is.length) (hB:tV P l is ts listed=true) (hl:is.map (fun i:Nat=>l[i]?)=(eG l is).map some)
  (h:nl (eG l is) fun l'=>Ow P w0 l.toArray (.sof R is ts) l' f L N):OwG P w0 l R ts m listed f L N:=by
 subst hm
 revert hl h
 generalize eG l is=l'
 intro hl h w hw
 simp only[tV,Bool.and_eq_true,List.all_eq_true,Bool.not_eq_true'] at hB
 obtain⟨⟨h1,h4⟩,h5⟩:=hB
 have aQ:is.length=l'.length:=by have:=congrArg List.length hl;simpa using this
 have hF:Fits P l.toArray ts is l' listed.toArray:=⟨aQ,fun j=>by
  have:=congrArg (·[j]?) hl
  simp only[List.getElem?_map] at this
  cases hj:is[j]? with
  |none=>
   rw[hj] at this
   simp only[Option.map_none] at this
   cases eM:l'[j]? with
   |none=>rfl
   |some x=>rw[eM] at this;cases this
  |some i=>
   rw[hj] at this
   simp only[Option.map_some] at this
   cases eM:l'[j]? with
   |none=>rw[eM] at this;cases this
   |some x=>
    rw[eM] at this
    simp only[Option.map_some,Option.some.injEq] at this
    simp[this],h1,h4⟩
 rw[aQ]
 exact(h:Ow P w0 l.toArray (.sof R is ts) l' f L N) listed.toArray hF (fun t ht=>h5 t ht) w hw
end
def CutO {G:Type} (M:List Nat) (S:G→List (Nat×Value)) (H:G→a6) (J:G→Prop) (f f':Fr) (L':a6):Prop:=
 ∃g,J g∧L'=H g∧f'=pin (gv (cj f') M 0 f) (S g)
theorem CutO.mk {G:Type} {M:List Nat} {S:G→List (Nat×Value)} {H:G→a6} {J:G→Prop} {f f':Fr} {L':a6} (g:G) (hJ:J g) (hL:L'=H g) (hf:f'=pin (gv (cj f') M 0 f) (S g)):CutO M S H J f f' L':=⟨g,hJ,hL,hf⟩
theorem Cw.cutO {P:Program} {w0:World} {x y:Code} {f:Fr} {L:a6} {K:bM} {G:Type} (M:List Nat) (S:G→List (Nat×Value)) (H:G→a6) (J:G→Prop) (h1:Cw P w0 x f L (gc (CutO M S H J f) K))
  (h2: ∀ (g:G) (j:Nat→Value),J g→Cw P w0 y (pin (gv j M 0 f) (S g)) (H g) K):Cw P w0 (.seq x y) f L K:=by
 refine Cw.seq (h1.mono fun e f' L' k=> ?_)
 cases e with
 |normal=>
  obtain⟨g,hJ,rfl,hf⟩:=k
  have:=h2 g (cj f') hJ
  rw[←hf] at this
  exact this
 |_=>exact k
end Go.Sx
section
open Go Go.Proofs Go.Sx Go.StP
namespace Go.Proofs
set_option maxRecDepth 10000
set_option maxHeartbeats 400000
set_option linter.unusedSimpArgs false
def e_ {α:Type} (l:List α):List (α×Bool):=l.map fun x=>(x,true)
theorem getT {α:Type} [DecidableEq α] (k:α): ∀ (l:List α),eU k false (e_ l)=decide (k∈l)
 | []=>rfl
 |x::l=>by
  have ih:=getT k l
  unfold eU e_ at ih ⊢
  rw[List.map_cons,List.find?_cons]
  by_cases h:k=x
  ·subst h;simp
  ·have h1: (k==x)=false:=by simpa using h
   simp only[h1]
   rw[ih]
   simp[h]
theorem sM {α:Type} [DecidableEq α] {k:α}: ∀ {l:List α},k∈l→fD k true (e_ l)=e_ l
 |x::l,h=>by
  unfold e_
  rw[List.map_cons,fD]
  by_cases h1:k=x
  ·subst h1;simp
  ·have h2: (k==x)=false:=by simpa using h1
   simp only[h2]
   have:=sM ((List.mem_cons.1 h).resolve_left h1)
   unfold e_ at this
   simp[this]
theorem wL {α:Type} [DecidableEq α] {k:α}: ∀ {l:List α},k∉l→fD k true (e_ l)=e_ (l++ [k])
 | [],_=>rfl
 |x::l,h=>by
  unfold e_
  rw[List.map_cons,fD,List.cons_append,List.map_cons]
  have h1:k≠x:=fun e=>h (by rw[e];exact List.mem_cons_self)
  have h2: (k==x)=false:=by simpa using h1
  simp only[h2]
  have:=wL (k:=k) (l:=l) (fun hm=>h (List.mem_cons_of_mem _ hm))
  unfold e_ at this
  simp[this]
structure WkA (bw:Nat) (sv:Value) (W:WkS) (vq:Value) (bv:Nat) (ov:Obj) (bm:Nat) (om:Obj) (vl:Value) (Q M X:a6):Prop where
 perm:X.Perm ((bw, .cells #[sv,vq,vm bv,vm bm,vl] 133 (0,0)):: (bv,ov):: (bm,om):: (Q++M))
 q:Qu Q 59 33 vq W.q.length (W.q.map aB).flatten
 l:Gr M 59 33 vl W.lk.length (W.lk.map aB).flatten
 v:gD chKV blV ov (e_ W.vis)
 m:gD eC blV om (e_ W.ms)
def WkP (bw:Nat) (sv:Value) (W:WkS) (X:a6):Prop:= ∃vq bv ov bm om vl Q M,WkA bw sv W vq bv ov bm om vl Q M X
theorem WkA.ne {bw:Nat} {sv:Value} {W:WkS} {vq:Value} {bv:Nat} {ov:Obj} {bm:Nat} {om:Obj} {vl:Value} {Q M X:a6} (h:WkA bw sv W vq bv ov bm om vl Q M X) (hn: (keys X).Nodup):
  bw≠bv∧bw≠bm∧bv≠bm∧(∀c,c∈keys Q∨c∈keys M→c≠bw∧c≠bv∧c≠bm):=by
 have:=(h.perm.map Prod.fst).nodup_iff.1 hn
 simp only[List.map_cons,List.map_append,List.nodup_cons,List.mem_cons,List.mem_append,not_or] at this
 obtain⟨⟨h1,h2,h3,h4⟩,⟨h5,h6,h7⟩,⟨h8,h9⟩,-⟩:=this
 refine⟨h1,h2,h5,fun c hc=> ?_⟩
 rcases hc with hc|hc
 ·exact⟨fun e=>h3 (e▸hc),fun e=>h6 (e▸hc),fun e=>h8 (e▸hc)⟩
 ·exact⟨fun e=>h4 (e▸hc),fun e=>h7 (e▸hc),fun e=>h9 (e▸hc)⟩
theorem WkA.ext {bw:Nat} {sv:Value} {W:WkS} {vq:Value} {bv:Nat} {ov:Obj} {bm:Nat} {om:Obj} {vl:Value} {Q M X D:a6} {w:World} (h:WkA bw sv W vq bv ov bm om vl Q M X)
  (h1: ∀c,c∈keys D↔c=bw∨c=bv∨c=bm∨c∈keys Q∨c∈keys M∨(c∈keys D∧w.heap.size≤c)):Ext w X D:=by
 have hk: ∀c,c∈keys X↔c=bw∨c=bv∨c=bm∨c∈keys Q∨c∈keys M:=fun c=>by
  have:=(h.perm.map Prod.fst).mem_iff (a:=c)
  simp only[List.map_cons,List.map_append,List.mem_cons,List.mem_append] at this
  exact this
 refine⟨fun c hc=> ?_,fun c hc=>(h1 c).2 ?_⟩
 ·rcases(h1 c).1 hc with h|h|h|h|h|h
  ·exact .inl ((hk c).2 (.inl h))
  ·exact .inl ((hk c).2 (.inr (.inl h)))
  ·exact .inl ((hk c).2 (.inr (.inr (.inl h))))
  ·exact .inl ((hk c).2 (.inr (.inr (.inr (.inl h)))))
  ·exact .inl ((hk c).2 (.inr (.inr (.inr (.inr h)))))
  ·exact .inr h.2
 ·rcases(hk c).1 hc with h|h|h|h|h
  ·exact .inl h
  ·exact .inr (.inl h)
  ·exact .inr (.inr (.inl h))
  ·exact .inr (.inr (.inr (.inl h)))
  ·exact .inr (.inr (.inr (.inr (.inl h))))
theorem l5_0 (a b c d e:Value) (n:Nat) (E:TypeId) (fz:Nat×Nat):aS (some (false,n)) (some (.cells #[a,b,c,d,e] E fz)) 0=some a:=(rfl)
theorem l5_1 (a b c d e:Value) (n:Nat) (E:TypeId) (fz:Nat×Nat):aS (some (false,n)) (some (.cells #[a,b,c,d,e] E fz)) 1=some b:=(rfl)
theorem l5_2 (a b c d e:Value) (n:Nat) (E:TypeId) (fz:Nat×Nat):aS (some (false,n)) (some (.cells #[a,b,c,d,e] E fz)) 2=some c:=(rfl)
theorem l5_3 (a b c d e:Value) (n:Nat) (E:TypeId) (fz:Nat×Nat):aS (some (false,n)) (some (.cells #[a,b,c,d,e] E fz)) 3=some d:=(rfl)
theorem l5_4 (a b c d e:Value) (n:Nat) (E:TypeId) (fz:Nat×Nat):aS (some (false,n)) (some (.cells #[a,b,c,d,e] E fz)) 4=some e:=(rfl)
theorem s5_1 (a b c d e v:Value) (E:TypeId) (h:Value.oneCell' v=true∧v.cells= #[v]):aZ (some (false,1)) (some (.cells #[a,b,c,d,e] E (0,0))) 1 v=some (.cells #[a,v,c,d,e] E (0,0)):=by
 simp[aZ,h,bQ]
theorem s5_4 (a b c d e v:Value) (E:TypeId) (h:Value.oneCell' v=true∧v.cells= #[v]):aZ (some (false,1)) (some (.cells #[a,b,c,d,e] E (0,0))) 4 v=some (.cells #[a,b,c,d,v] E (0,0)):=by
 simp[aZ,h,bQ]
theorem I5 (b:Nat) (w:World): (method (Tryz.prog.types.size+Made.depth) 118 (vp b 0) "Get").run Tryz.prog w= .ok (342,vp b 0) w:=by kernel_rfl
set_option linter.defProp false
def dW:=And.intro (And.intro (And.intro (And.intro (@gB) (@gZ)) (And.intro (@gY) (@gX))) (And.intro (And.intro (@Sx.tup2_0) (@Sx.tup2_1)) (And.intro (@cP) (And.intro (@cO) (@jO))))) (And.intro (And.intro (And.intro (@rE) (@qs)) (And.intro (@q_) (And.intro (@fj) (@rM)))) (And.intro (And.intro (@l5_0) (@l5_1)) (And.intro (@l5_2) (And.intro (@l5_3) (@l5_4)))))
theorem Dl (bw:Nat) (sv vq vv vk vl:Value) (m:List (IdL×ObK)) (c:ChildL) (w:World) (hb:w.heap[bw]? =some (.cells #[sv,vq,vv,vk,vl] 133 (0,0))) (hS:SrcW w sv m []):
  Rets Tryz.prog 79 #[vp bw 0, .agg (aB c).toArray] w (fun v D=>v= .tuple #[obKV (bK m c.id).1, .bool (dZ (bK m) c)]∧D= []):=by
 obtain⟨bx,bm,om,hA,-,-⟩:=hS
 have iN:=hA.sv
 subst iN
 have Ju:=(Array.getElem?_eq_some_iff.1 hb).1
 have x3:=(Array.getElem?_eq_some_iff.1 hA.bx).1
 have mQ:=(Array.getElem?_eq_some_iff.1 hA.bm).1
 refine Rets.enterV Tryz.func79 rfl (rs:= [.cell 4 35, .tmp 5]) Tryz.results79 Tryz.ntmps79 ?_
 refine kf ?_
 first|with_reducible refine ks [] @dW ?_|refine kp @dW ?_
 refine Ow.box rfl rfl fun b3 cQ bA=> ?_
 simp only[bp,bj,cJ,aU,List.nil_append,List.cons_append]
 refine Ow.go rfl ?_
 simp(disch:=(first|assumption|omega| (simp only[ac,ab,UInt64.reduceToNat];try omega))) only[↓Sx.S0,Sx.S1,Tryz.fx,dW,Nat.reduceAdd,Nat.reducePow,Int.reducePow,Nat.reduceBEq, ↓reduceIte,UInt8.reduceToNat,UInt16.reduceToNat,UInt32.reduceToNat,UInt64.reduceToNat,Int.reduceToNat]
 refine Ow.alloc rfl rfl gC fun b4 dN cB=> ?_
 simp only[aU,List.nil_append,List.cons_append]
 have qN:b3<b4:=aP dN (by simp[keys])
 have tu:New w.heap.size [(b3,Obj.cells (aB c).toArray 59 (0,0)),(b4, .cells #[vi 0,vs []] 35 (0,0))]:=⟨bA,cB,trivial⟩
 have rbw:aO w [(b3,Obj.cells (aB c).toArray 59 (0,0)),(b4, .cells #[vi 0,vs []] 35 (0,0))] bw=some (.cells #[.iface 118 (vp bx 0),vq,vv,vk,vl] 133 (0,0)):=by rw[jT (tu.not Ju)];exact hb
 refine ko @dW ?_
 first|with_reducible refine ks [] @dW ?_|refine kp @dW ?_
 refine Cw.regionD [bw,b3] [11] 10 6 35 12 _ rfl (by kernel_rfl) (by kernel_rfl) rfl (by kernel_rfl) gC (fun hD=> ?_)
 simp only[List.replicate_succ,List.replicate_zero]
 refine OwD.run [0,1,2,3,4,5] [true,true,true,true,true,true,false,false,false,false,false,false,false] 6 rfl hD (by kernel_rfl) fun k hk=> ?_
 simp only[aN, ↓aM, ↓aH, ↓aL, ↓aK,aI]
 simp(disch:=(first|assumption|omega| (simp only[ac,ab,UInt64.reduceToNat];try omega))) only[↓Sx.S0,Sx.S1,Tryz.fx,dW,Nat.reduceAdd,Nat.reducePow,Int.reducePow,Nat.reduceBEq, ↓reduceIte,UInt8.reduceToNat,UInt16.reduceToNat,UInt32.reduceToNat,UInt64.reduceToNat,Int.reduceToNat,Md.next_sofnil,rbw]
 (with_reducible refine hk _ _ _ ?_);clear hk k
 refine OwD.soft 6 _ hD rfl (by kernel_rfl) (fun E hE=> ?_)
 have wl:=tu.app (oZ hE)
 refine Ow.callIV rfl rfl rfl (I5 bx) Tryz.call342 (fun w' a7=>EJ bx bm om m c.id _ w' (hA.old a7 (wl.not x3) (wl.not mQ))) ?_
 with_reducible refine Ow.nil ?_
 refine⟨_,List.Perm.refl _,fun _ _=>rfl, ?_⟩
 simp only[List.set_cons_zero,List.set_cons_succ,ax,an,ao]
 refine OwD.run [7,8,9] [true,true,true,true,true,true,true,true,true,true,false,false,false] 2 rfl hD (by kernel_rfl) fun k hk=> ?_
 simp only[aN, ↓aM, ↓aH, ↓aL, ↓aK,aI]
 simp(disch:=(first|assumption|omega| (simp only[ac,ab,UInt64.reduceToNat];try omega))) only[↓Sx.S0,Sx.S1,Tryz.fx,dW,Nat.reduceAdd,Nat.reducePow,Int.reducePow,Nat.reduceBEq, ↓reduceIte,UInt8.reduceToNat,UInt16.reduceToNat,UInt32.reduceToNat,UInt64.reduceToNat,Int.reduceToNat,Md.next_sofnil,Sx.tup2_0,Sx.tup2_1]
 (with_reducible refine hk _ _ _ ?_);clear hk k
 refine OwD.real [11,12] rfl hD (by kernel_rfl) (by kernel_rfl) (by kernel_rfl) (by kernel_rfl) (fun r hr=>by simp only[List.mem_cons,List.not_mem_nil,or_false] at hr;rcases hr with rfl|rfl;exact .inr Ju;exact .inl (by simp[keys])) ?_
 simp only[aN, ↓aM, ↓aH, ↓aL, ↓aK,aI]
 intro b6 ei dU
 simp only[an,ao]
 have e1:dZ (bK m) c=((bK m c.id).2&& (c.kind==0||c.kind==(bK m c.id).1.k)):=rfl
 rw[e1]
 generalize (bK m c.id).2=ok at*
 generalize (bK m c.id).1=o at*
 refine Ow.store rfl rfl rfl (L':= [(b3, .cells (aB c).toArray 59 (0,0)),(b4, .cells #[vi 0,vs []] 35 (0,0))]++ [(b6, .cells #[vi o.k,vs o.t] 35 (0,0))]) ?_ ?_
 ·simp only[bp,bj,cJ]
  have bP:aZ (some (true,2)) (some (Obj.cells (Value.cells (obV 0 [])) 35 (0,0))) 0 (obKV o)=some (.cells #[vi o.k,vs o.t] 35 (0,0)):=rfl
  rw[Tryz.ag35,nk,xD dU,bP,ni,rK dU]
  exact []
 have j8:b3≠b6∧b4≠b6:=by simp[keys] at dU;omega
 obtain⟨j8,gj⟩:=j8
 simp only[List.cons_append,List.nil_append]
 refine ko @dW ?_
 first|with_reducible refine ks [] @dW ?_|refine kp @dW ?_
 have ph: ∀ (x y:Int) (s t:List UInt8),aZ (some (true,2)) (some (Obj.cells #[vi x,vs s] 35 (0,0))) 0 (obV y t)=some (.cells #[vi y,vs t] 35 (0,0)):=fun _ _ _ _=>rfl
 cases ok
 ·refine Cw.regionG [b3,b6] [] 16 (by kernel_rfl) rfl ?_
  simp only[List.replicate_succ,List.replicate_zero]
  refine OwG.run [0,1,2,3,4,5,6,7,8,9,10,11,12,13] [true,true,true,true,true,true,true,true,true,true,true,true,true,true,false,false] 2 rfl (by kernel_rfl) (by kernel_rfl) fun k hk=> ?_
  simp only[aN, ↓aM, ↓aH, ↓aL, ↓aK,aI]
  simp(disch:=(first|assumption|omega| (simp only[ac,ab,UInt64.reduceToNat];try omega))) only[↓Sx.S0,Sx.S1,Tryz.fx,dW,Nat.reduceAdd,Nat.reducePow,Int.reducePow,Nat.reduceBEq, ↓reduceIte,UInt8.reduceToNat,UInt16.reduceToNat,UInt32.reduceToNat,UInt64.reduceToNat,Int.reduceToNat,Md.next_sofnil,Md.next_sofnil]
  (with_reducible refine hk _ _ _ ?_);clear hk k
  refine OwG.one 14 _ (by kernel_rfl) rfl ?_
  refine ko (And.intro @dW @ph) ?_
  refine⟨fun r hr=>by simp only[List.mem_cons,List.not_mem_nil,or_false] at hr;rcases hr with rfl|rfl;exact(fT _ _ _ _).trans (fT _ _ _ _).symm;rw[dD _ _ _ _ _ j8,dD _ _ _ _ _ gj,dD _ _ _ _ _ j8,dD _ _ _ _ _ gj], ?_⟩
  simp only[List.set_cons_zero,List.set_cons_succ,ax,an,ao]
  refine OwG.rest [15] rfl (by kernel_rfl) (by kernel_rfl) ?_
  simp only[aN, ↓aM, ↓aH, ↓aL, ↓aK,aI]
  refine kq @dW ?_
  try with_reducible refine Ow.nil ?_
  first|with_reducible refine ks [] @dW ?_|refine kp @dW ?_
  refine⟨_,(ke @dW),⟨bA,cB,ei,trivial⟩, ?_⟩
  rfl
 ·cases hq: (c.kind==0)
  ·refine Cw.regionG [b3,b6] [] 16 (by kernel_rfl) rfl ?_
   simp only[List.replicate_succ,List.replicate_zero]
   refine OwG.run [0,1,2,3,4,5,6,7,8,9,10,11,12,13] [true,true,true,true,true,true,true,true,true,true,true,true,true,true,false,false] 2 rfl (by kernel_rfl) (by kernel_rfl) fun k hk=> ?_
   simp only[aN, ↓aM, ↓aH, ↓aL, ↓aK,aI]
   simp(disch:=(first|assumption|omega| (simp only[ac,ab,UInt64.reduceToNat];try omega))) only[↓Sx.S0,Sx.S1,Tryz.fx,dW,Nat.reduceAdd,Nat.reducePow,Int.reducePow,Nat.reduceBEq, ↓reduceIte,UInt8.reduceToNat,UInt16.reduceToNat,UInt32.reduceToNat,UInt64.reduceToNat,Int.reduceToNat,Md.next_sofnil,hq]
   (with_reducible refine hk _ _ _ ?_);clear hk k
   refine OwG.one 14 _ (by kernel_rfl) rfl ?_
   refine ko (And.intro @dW @ph) ?_
   refine⟨fun r hr=>by simp only[List.mem_cons,List.not_mem_nil,or_false] at hr;rcases hr with rfl|rfl;exact(fT _ _ _ _).trans (fT _ _ _ _).symm;rw[dD _ _ _ _ _ j8,dD _ _ _ _ _ gj,dD _ _ _ _ _ j8,dD _ _ _ _ _ gj], ?_⟩
   simp only[List.set_cons_zero,List.set_cons_succ,ax,an,ao]
   refine OwG.rest [15] rfl (by kernel_rfl) (by kernel_rfl) ?_
   simp only[aN, ↓aM, ↓aH, ↓aL, ↓aK,aI]
   refine kq @dW ?_
   try with_reducible refine Ow.nil ?_
   first|with_reducible refine ks [] @dW ?_|refine kp @dW ?_
   refine⟨_,(ke @dW),⟨bA,cB,ei,trivial⟩, ?_⟩
   rfl
  ·refine Cw.regionG [b3,b6] [] 16 (by kernel_rfl) rfl ?_
   simp only[List.replicate_succ,List.replicate_zero]
   refine OwG.run [0,1,2,3,4,5,6,7,8,9,10,11,12,13] [true,true,true,true,true,true,true,true,true,true,true,true,true,true,false,false] 2 rfl (by kernel_rfl) (by kernel_rfl) fun k hk=> ?_
   simp only[aN, ↓aM, ↓aH, ↓aL, ↓aK,aI]
   simp(disch:=(first|assumption|omega| (simp only[ac,ab,UInt64.reduceToNat];try omega))) only[↓Sx.S0,Sx.S1,Tryz.fx,dW,Nat.reduceAdd,Nat.reducePow,Int.reducePow,Nat.reduceBEq, ↓reduceIte,UInt8.reduceToNat,UInt16.reduceToNat,UInt32.reduceToNat,UInt64.reduceToNat,Int.reduceToNat,Md.next_sofnil,hq]
   (with_reducible refine hk _ _ _ ?_);clear hk k
   refine OwG.one 14 _ (by kernel_rfl) rfl ?_
   refine ko (And.intro @dW @ph) ?_
   refine⟨fun r hr=>by simp only[List.mem_cons,List.not_mem_nil,or_false] at hr;rcases hr with rfl|rfl;exact(fT _ _ _ _).trans (fT _ _ _ _).symm;rw[dD _ _ _ _ _ j8,dD _ _ _ _ _ gj,dD _ _ _ _ _ j8,dD _ _ _ _ _ gj], ?_⟩
   simp only[List.set_cons_zero,List.set_cons_succ,ax,an,ao]
   refine OwG.rest [15] rfl (by kernel_rfl) (by kernel_rfl) ?_
   simp only[aN, ↓aM, ↓aH, ↓aL, ↓aK,aI]
   refine kq @dW ?_
   try with_reducible refine Ow.nil ?_
   first|with_reducible refine ks [] @dW ?_|refine kp @dW ?_
   refine⟨_,(ke @dW),⟨bA,cB,ei,trivial⟩, ?_⟩
   rfl
end Go.Proofs
end
section
open Go Go.Proofs Go.Sx Go.StP
namespace Go.Proofs
set_option maxRecDepth 10000
set_option maxHeartbeats 1000000
set_option linter.unusedSimpArgs false
theorem Kz {k:Int} {t:List UInt8}: (eO k t).length≤40:=by
 unfold eO
 cases hr:bN k t
 ·simp
 ·rw[if_pos rfl]
  split
  ·rename_i h
   subst h
   rw[List.length_map]
   have:=(xl (sR hr)).1
   omega
  ·split
   ·have:=yW t
    simp only[List.length_cons,List.length_map];omega
   ·simp
set_option linter.defProp false
end Go.Proofs
end
namespace Go.Sx
open Go
theorem Ext.perm {w:World} {X D D':a6} (h:Ext w X D) (hp:D'.Perm D):Ext w X D':=
 ⟨fun c hc=>h.new c ((hp.map Prod.fst).mem_iff.1 hc),fun c hc=>(hp.map Prod.fst).mem_iff.2 (h.all c hc)⟩
section
variable {P:Program} {w0:World} {f:Fr} {L:a6} {N:Fr→a6→Prop} {ops:Array Oper} {rest:List Oper} {md:Md} {d:Option Tmp} {ty:TypeId} {ps:String} {af:Array Edge} {g:Option (Nat×Bool)}
end
end Go.Sx
section
open Go Go.Proofs Go.Sx Go.StP
namespace Go.Proofs
set_option maxRecDepth 10000
set_option maxHeartbeats 400000
set_option linter.unusedSimpArgs false
theorem qw (c:ChildL):jR Tryz.prog 44 1 [(0, .agg (aB c).toArray)]=some (59,(aB c).toArray):=
 gw Tryz.underlying44 fK d_ (by decide) (bU c)
theorem tN {bw bv bm:Nat} {a b c:Obj} {Q M D:a6} (h:D=(bw,a):: (bv,b):: (bm,c):: (Q++M)) (x:Nat):x∈keys D↔x=bw∨x=bv∨x=bm∨x∈keys Q∨x∈keys M:=by
 subst h
 simp only[keys,List.map_cons,List.map_append,List.mem_cons,List.mem_append]
theorem WkA.ext2 {bw:Nat} {sv:Value} {W:WkS} {vq:Value} {bv:Nat} {ov:Obj} {bm:Nat} {om:Obj} {vl:Value} {Q M X Q' M':a6} {a b c:Obj} {w:World} (h:WkA bw sv W vq bv ov bm om vl Q M X)
  (h1: ∀x,x∈keys Q→x∈keys Q') (h2: ∀x,x∈keys Q'→x∈keys Q∨w.heap.size≤x) (h3: ∀x,x∈keys M→x∈keys M') (h4: ∀x,x∈keys M'→x∈keys M∨w.heap.size≤x):
  Ext w X ((bw,a):: (bv,b):: (bm,c):: (Q'++M')):=by
 refine h.ext fun x=> ?_
 rw[tN rfl]
 constructor
 ·rintro(h|h|h|h|h)
  ·exact .inl h
  ·exact .inr (.inl h)
  ·exact .inr (.inr (.inl h))
  ·rcases h2 x h with h5|h5
   ·exact .inr (.inr (.inr (.inl h5)))
   ·exact .inr (.inr (.inr (.inr (.inr ⟨.inr (.inr (.inr (.inl h))),h5⟩))))
  ·rcases h4 x h with h5|h5
   ·exact .inr (.inr (.inr (.inr (.inl h5))))
   ·exact .inr (.inr (.inr (.inr (.inr ⟨.inr (.inr (.inr (.inr h))),h5⟩))))
 ·rintro(h|h|h|h|h|h)
  ·exact .inl h
  ·exact .inr (.inl h)
  ·exact .inr (.inr (.inl h))
  ·exact .inr (.inr (.inr (.inl (h1 x h))))
  ·exact .inr (.inr (.inr (.inr (h3 x h))))
  ·exact h.1
theorem gV {L D X:a6} {B c:Nat} (hA:ct L B) (hc:c∈keys L) (R8:c∉keys X) (hD: ∀q,q∈keys D→q∈keys X∨B≤q):c∉keys D:=fun h=>(hD c h).elim R8 fun hb=>by have:=aP hA hc;omega
theorem LD {b:Nat} {x:Obj}: ∀ {L M:a6},b∉keys L→setB (L++M) b x=L++setB M b x
 | [],_,_=>rfl
 | (c,y)::r,M,h=>by
  simp only[keys,List.map_cons,List.mem_cons,not_or] at h
  rw[List.cons_append,jU _ _ _ _ _ (Ne.symm h.1),LD (L:=r) h.2,List.cons_append]
theorem lN {D Y:a6} {b:Nat} {o x:Obj} (h:b∉keys D):setB (D++ ((b,o)::Y)) b x=D++ ((b,x)::Y):=by rw[LD h,j1]
theorem cp {D Y:a6} {b:Nat} {o:Obj} (h:b∉keys D):Sx.look (D++ ((b,o)::Y)) b=some o:=by rw[gN h];exact eA _ _ _
theorem fS {D Y:a6} {b c:Nat} {o x:Obj} (h:c∉keys D) (hn:b≠c):Sx.look (D++ ((b,o):: (c,x)::Y)) c=some x:=by rw[gN h,ii _ _ _ _ hn];exact eA _ _ _
theorem WkA.keysX {bw:Nat} {sv:Value} {W:WkS} {vq:Value} {bv:Nat} {ov:Obj} {bm:Nat} {om:Obj} {vl:Value} {Q M X:a6} (h:WkA bw sv W vq bv ov bm om vl Q M X) (x:Nat):x∈keys X↔x=bw∨x=bv∨x=bm∨x∈keys Q∨x∈keys M:=by
 rw[←tN rfl x];exact(h.perm.map Prod.fst).mem_iff
theorem zrBl:aw Tryz.prog 4=some (blV false):=id (by kernel_rfl)
set_option linter.defProp false
def cY:=And.intro (And.intro (And.intro (And.intro (@gB) (@gZ)) (And.intro (@gY) (@gX))) (And.intro (And.intro (@Sx.tup2_0) (@Sx.tup2_1)) (And.intro (@cP) (And.intro (@cO) (@jO))))) (And.intro (And.intro (And.intro (@rE) (@qs)) (And.intro (@q_) (And.intro (@fj) (@rM)))) (And.intro (And.intro (@l5_0) (@l5_1)) (And.intro (@l5_2) (And.intro (@l5_3) (@l5_4)))))
theorem BP (bw:Nat) (sv:Value) (W:WkS) (m:List (IdL×ObK)) (c:ChildL) (X:a6) (w:World) (hX: ∀p,p∈X→w.heap[p.1]? =some p.2) (hn: (keys X).Nodup) (hP:WkP bw sv W X) (hS:SrcW w sv m X) (hc:c∉W.vis)
  (bJ:W.q.length<10000000) (ck:W.lk.length<10000000):
  Rets Tryz.prog 72 #[vp bw 0, .agg (aB c).toArray] w (XS w X (fun v D=>v= .tuple #[]∧WkP bw sv (en (bK m) W c) D)):=by
 obtain⟨vq,bv,ov,bm,om,vl,Q,M,hA⟩:=hP
 obtain⟨jI,jJ,iv,mS⟩:=hA.ne hn
 have f9:=hA.keysX
 have aC: ∀x,x∈keys X→x<w.heap.size:=fun x hx=>by
  obtain⟨p,hp,rfl⟩:=List.mem_map.1 hx
  exact(Array.getElem?_eq_some_iff.1 (hX p hp)).1
 have qp:=aC bw ((f9 bw).2 (.inl rfl))
 have T5:=aC bv ((f9 bv).2 (.inr (.inl rfl)))
 have T3:=aC bm ((f9 bm).2 (.inr (.inr (.inl rfl))))
 have NN: ∀x,x∈keys Q→x<w.heap.size:=fun x hx=>aC x ((f9 x).2 (.inr (.inr (.inr (.inl hx)))))
 have SC: ∀x,x∈keys M→x<w.heap.size:=fun x hx=>aC x ((f9 x).2 (.inr (.inr (.inr (.inr hx)))))
 have Sq:=c.id.h
 refine Rets.enterX Tryz.func72 rfl (rs:= []) Tryz.results72 Tryz.ntmps72 hX hn ?_
 refine kf ?_
 refine Cw.permL hA.perm.symm ?_
 first|with_reducible refine ks [] @cY ?_|refine kp @cY ?_
 refine Ow.box rfl rfl fun b3 cQ bA=> ?_
 simp only[bp,bj,cJ,aU,List.nil_append,List.cons_append]
 refine Ow.go rfl ?_
 simp(disch:=(first|assumption|omega| (simp only[ac,ab,UInt64.reduceToNat];try omega))) only[↓Sx.S0,Sx.S1,Tryz.fx,cY,Nat.reduceAdd,Nat.reducePow,Int.reducePow,Nat.reduceBEq, ↓reduceIte,UInt8.reduceToNat,UInt16.reduceToNat,UInt32.reduceToNat,UInt64.reduceToNat,Int.reduceToNat]
 refine Cw.permL (M:=(b3, .cells (aB c).toArray 59 (0,0)):: (bw, .cells #[sv,vq,vm bv,vm bm,vl] 133 (0,0)):: (bv,ov):: (bm,om):: (Q++M)) (by classical exact List.perm_iff_count.2 fun a=>by simp only[List.count_append,List.count_cons,List.count_nil]<;>omega) ?_
 first|with_reducible refine ks [] @cY ?_|refine kp @cY ?_
 refine Cw.regionS [bw,b3] [0,1,2,3,4,5] [5] (by kernel_rfl) (by kernel_rfl) (by kernel_rfl) ?_
 simp only[aN, ↓aM, ↓aH, ↓aL, ↓aK,aI]
 refine kq @cY ?_
 refine Ow.mapUpdateG (encK:=chKV) (encV:=blV) (k:=c) (v:=true) rfl rfl Tryz.underlying130 tF rfl rfl rfl (by rw[ii _ _ _ _ (by omega),ii _ _ _ _ (by omega)];exact eA _ _ _) hA.v (fun o1 x4=> ?_)
 rw[wL hc] at x4
 rw[jU _ _ _ _ _ (by omega),jU _ _ _ _ _ (by omega),j1]
 refine ko @cY ?_
 first|with_reducible refine ks [] @cY ?_|refine kp @cY ?_
 have Qm: ∀x,x∈keys ((b3,Obj.cells (aB c).toArray 59 (0,0)):: (bw, .cells #[sv,vq,vm bv,vm bm,vl] 133 (0,0)):: (bv,o1):: (bm,om):: (Q++M))→x∈keys X∨w.heap.size≤x:=fun x hx=>by
  simp only[keys,List.map_cons,List.map_append,List.mem_cons,List.mem_append] at hx
  rcases hx with h|h
  ·exact .inr (by omega)
  ·exact .inl ((f9 x).2 h)
 refine Ow.callFV rfl Tryz.call79 (fun w' a7=>Dl bw sv vq _ _ vl m c w' (a7.has bw (.cells #[sv,vq,vm bv,vm bm,vl] 133 (0,0)) (by simp)) ((hS.ext Qm).old a7 (fun _ h=>by cases h))) ?_
 obtain⟨o,ho⟩: ∃o,o=(bK m c.id).1:=⟨_,rfl⟩
 rw[←ho]
 obtain⟨ok,ot⟩:=o
 have e0:obKV ⟨ok,ot⟩=obV ok ot:=rfl
 rw[e0]
 refine ko @cY ?_
 refine Ow.alloc rfl rfl gC fun b4 dN cB=> ?_
 simp only[aU,List.nil_append,List.cons_append]
 refine Ow.permL (M:=(bm,om):: (bw, .cells #[sv,vq,vm bv,vm bm,vl] 133 (0,0)):: (b3, .cells (aB c).toArray 59 (0,0)):: (b4, .cells #[vi 0,vs []] 35 (0,0)):: (bv,o1):: (Q++M)) (by classical exact List.perm_iff_count.2 fun a=>by simp only[List.count_append,List.count_cons,List.count_nil]<;>omega) ?_
 have qN:b3<b4:=aP dN (by simp[keys])
 refine ko @cY ?_
 have JQ:bw∉keys M:=fun h=>(mS _ (.inr h)).1 rfl
 have p9:bw∉keys Q:=fun h=>(mS _ (.inl h)).1 rfl
 have l6:b3∉keys M:=fun h=>by have:=SC _ h;omega
 have QZ:b3∉keys Q:=fun h=>by have:=NN _ h;omega
 have Iv:b4∉keys Q:=fun h=>by have:=NN _ h;omega
 have nC: ∀x,x∈keys [(b3,Obj.cells (aB c).toArray 59 (0,0)),(b4, .cells #[vi ok,vs ot] 35 (0,0))]→w.heap.size≤x:=fun x hx=>by
  simp only[keys,List.map_cons,List.map_nil,List.mem_cons,List.not_mem_nil,or_false] at hx
  omega
 cases hf:dZ (bK m) c
 ·have hv:en (bK m) W c={W with vis:=W.vis++ [c],lk:=W.lk++ [c]}:=by unfold en;rw[hf];rfl
  rw[hv]
  refine Cw.permL (M:=M++ ((bw, .cells #[sv,vq,vm bv,vm bm,vl] 133 (0,0)):: (b3, .cells (aB c).toArray 59 (0,0)):: (b4, .cells #[vi ok,vs ot] 35 (0,0)):: (bv,o1):: (bm,om)::Q)) (by classical exact List.perm_iff_count.2 fun a=>by simp only[List.count_append,List.count_cons,List.count_nil]<;>omega) ?_
  have rbw:=fun Y=>ah (w0:=w) (cp (D:=M) (Y:=Y) (o:= .cells #[sv,vq,vm bv,vm bm,vl] 133 (0,0)) JQ)
  have rb3:=fun Y=>ah (w0:=w) (fS (D:=M) (Y:=Y) (o:= .cells #[sv,vq,vm bv,vm bm,vl] 133 (0,0)) (x:= .cells (aB c).toArray 59 (0,0)) l6 (show bw≠b3 by omega))
  first|with_reducible refine ks [] @cY ?_|refine kp @cY ?_
  refine Cw.regionG [bw,b3] [10] 11 (by kernel_rfl) rfl ?_
  simp only[List.replicate_succ,List.replicate_zero]
  refine OwG.run [0,1,2,3,4,5] [true,true,true,true,true,true,false,false,false,false,false] 5 rfl (by kernel_rfl) (by kernel_rfl) fun k hk=> ?_
  simp only[aN, ↓aM, ↓aH, ↓aL, ↓aK,aI]
  simp(disch:=(first|assumption|omega| (simp only[ac,ab,UInt64.reduceToNat];try omega))) only[↓Sx.S0,Sx.S1,Tryz.fx,cY,Nat.reduceAdd,Nat.reducePow,Int.reducePow,Nat.reduceBEq, ↓reduceIte,UInt8.reduceToNat,UInt16.reduceToNat,UInt32.reduceToNat,UInt64.reduceToNat,Int.reduceToNat,Md.next_sofnil,rbw,rb3]
  (with_reducible refine hk _ _ _ ?_);clear hk k
  refine OwG.one 6 _ (by kernel_rfl) rfl ?_
  refine Ow.buildSlice (e:=59) (aB c).toArray rfl rfl (qw c) fun ba wq lG=> ?_
  with_reducible refine Ow.nil ?_
  refine⟨(cv (fun r hr=>by simp only[List.mem_cons,List.not_mem_nil,or_false] at hr;rcases hr with rfl|rfl<;>simp[keys])), ?_⟩
  simp only[List.set_cons_zero,List.set_cons_succ,ax,an,ao]
  refine OwG.one 7 _ (by kernel_rfl) rfl ?_
  refine Ow.appendXG (e:=59) (k:=1) (new:=aB c) (X:=M) vl (List.append_assoc _ _ _) rfl rfl rfl Tryz.underlying44 fK (by kernel_rfl) d_ (by rw[fj,List.size_toArray,bU]) Tryz.underlying44 (by intro k h;cases h) hA.l (fun w' a7=>AppX.one1 (a7.has ba (.cells (aB c).toArray 59 (0,0)) (by simp)) (bU _) (iQ _)) (by omega) (fun B5 v5 D5 i9 nA ja fH cd iK=> ?_)
  have fo:bw∉keys D5:=gV i9 (by simp[keys]) JQ cd
  have qO:b3∉keys D5:=gV i9 (by simp[keys]) l6 cd
  have c5:=ja.cell
  have lD5:=fun Y=>cp (D:=D5) (Y:=Y) (o:= .cells #[sv,vq,vm bv,vm bm,vl] 133 (0,0)) fo
  have st5:=s5_4 sv vq (vm bv) (vm bm) vl v5 133 c5
  with_reducible refine Ow.nil ?_
  refine⟨(fun r hr=>by simp only[List.mem_cons,List.not_mem_nil,or_false] at hr;rcases hr with rfl|rfl;exact(ah (cp fo)).trans (ah (bB (cp JQ))).symm;exact(ah (fS qO (by omega))).trans (ah (bB (fS l6 (by omega)))).symm), ?_⟩
  simp only[List.set_cons_zero,List.set_cons_succ,ax,an,ao]
  refine OwG.rest [8,9,10] rfl (by kernel_rfl) (by kernel_rfl) ?_
  simp only[aN, ↓aM, ↓aH, ↓aL, ↓aK,aI]
  refine kq @cY ?_
  refine Ow.store rfl rfl rfl (ke (And.intro @cY (And.intro @lD5 (@st5)))) ?_
  have es:=fun Y x=>lN (D:=D5) (Y:=Y) (o:= .cells #[sv,vq,vm bv,vm bm,vl] 133 (0,0)) (x:=x) fo
  simp only[List.cons_append] at*
  rw[es]
  refine ko @cY ?_
  first|with_reducible refine ks [] @cY ?_|refine kp @cY ?_
  refine⟨_,(ke @cY), ?_⟩
  have eW: ∀x,x∈keys (D5++ [(b3,Obj.cells (aB c).toArray 59 (0,0)),(b4, .cells #[vi ok,vs ot] 35 (0,0)),(ba, .cells (aB c).toArray 59 (0,0))])→x∈keys M∨w.heap.size≤x:=fun x hx=>by
   rw[aT,List.mem_append] at hx
   rcases hx with h|h
   ·exact(cd x h).imp id fun h=>by omega
   ·simp only[keys,List.map_cons,List.map_nil,List.mem_cons,List.not_mem_nil,or_false] at h
    exact .inr (by omega)
  refine⟨(hA.ext2 (fun x h=>h) (fun x h=> .inl h) (fun x h=>by rw[aT];exact List.mem_append_left _ (fH x h)) eW).perm (D:=(bw, .cells #[sv,vq,vm bv,vm bm,v5] 133 (0,0)):: (bv,o1):: (bm,om):: (Q++ (D5++ [(b3,Obj.cells (aB c).toArray 59 (0,0)),(b4, .cells #[vi ok,vs ot] 35 (0,0)),(ba, .cells (aB c).toArray 59 (0,0))]))) (by classical exact List.perm_iff_count.2 fun a=>by simp only[List.count_append,List.count_cons,List.count_nil]<;>omega),rfl,vq,bv,o1,bm,om,v5,Q,D5++ [(b3,Obj.cells (aB c).toArray 59 (0,0)),(b4, .cells #[vi ok,vs ot] 35 (0,0)),(ba, .cells (aB c).toArray 59 (0,0))],⟨(by classical exact List.perm_iff_count.2 fun a=>by simp only[List.count_append,List.count_cons,List.count_nil]<;>omega),hA.q, ?_,x4,hA.m⟩⟩
  have:=ja.app (M:= [(b3,Obj.cells (aB c).toArray 59 (0,0)),(b4, .cells #[vi ok,vs ot] 35 (0,0)),(ba, .cells (aB c).toArray 59 (0,0))])
  simpa [List.map_append] using this
 ·((try with_reducible refine Cw.go [] ?_);(try simp(disch:=(first|assumption|omega| (simp only[ac,ab,UInt64.reduceToNat];try omega))) only[↓Sx.S0,Sx.S1,Tryz.fx,cY,Nat.reduceAdd,Nat.reducePow,Int.reducePow,Nat.reduceBEq, ↓reduceIte,UInt8.reduceToNat,UInt16.reduceToNat,UInt32.reduceToNat,UInt64.reduceToNat,Int.reduceToNat,Bool.not_true]))
  refine Cw.regionS [bw,b3] [0,1,2,4,3,5,6,7,8] [] (by kernel_rfl) (by kernel_rfl) (by kernel_rfl) ?_
  simp only[aN, ↓aM, ↓aH, ↓aL, ↓aK,aI]
  refine kq @cY ?_
  refine Ow.soft rfl rfl rfl ?_
  refine Ow.mapGetG (encK:=eC) (encV:=blV) (k:=c.id) (z:=false) rfl rfl Tryz.underlying131 rW zrBl rfl rfl (fT _ _ _ _) hA.m ?_
  with_reducible refine Ow.nil ?_
  refine⟨by intro b hb;simp only[List.mem_cons,List.not_mem_nil,or_false] at hb;(try subst hb);rfl, ?_⟩
  rw[getT]
  by_cases hm:c.id∈W.ms
  ·have hv:en (bK m) W c={W with vis:=W.vis++ [c]}:=by unfold en;rw[if_pos hf,if_pos hm]
   rw[hv]
   have ec:blV (decide (c.id∈W.ms))= .bool true:=by rw[decide_eq_true hm];rfl
   refine Ow.goQ ?_
   simp(disch:=(first|assumption|omega| (simp only[ac,ab,UInt64.reduceToNat];try omega))) only[↓Sx.S0,Sx.S1,Tryz.fx,cY,Nat.reduceAdd,Nat.reducePow,Int.reducePow,Nat.reduceBEq, ↓reduceIte,UInt8.reduceToNat,UInt16.reduceToNat,UInt32.reduceToNat,UInt64.reduceToNat,Int.reduceToNat,ec,Bool.not_true]
   try with_reducible refine Ow.nil ?_
   first|with_reducible refine ks [] @cY ?_|refine kp @cY ?_
   refine⟨_,(ke @cY), ?_⟩
   have tq: ∀x,x∈keys (M++ [(b3,Obj.cells (aB c).toArray 59 (0,0)),(b4, .cells #[vi ok,vs ot] 35 (0,0))])→x∈keys M∨w.heap.size≤x:=fun x hx=>by
    rw[aT,List.mem_append] at hx
    exact hx.imp id (nC x)
   exact⟨(hA.ext2 (fun x h=>h) (fun x h=> .inl h) (fun x h=>by rw[aT];exact List.mem_append_left _ h) tq).perm (D:=(bw, .cells #[sv,vq,vm bv,vm bm,vl] 133 (0,0)):: (bv,o1):: (bm,om):: (Q++ (M++ [(b3,Obj.cells (aB c).toArray 59 (0,0)),(b4, .cells #[vi ok,vs ot] 35 (0,0))]))) (by classical exact List.perm_iff_count.2 fun a=>by simp only[List.count_append,List.count_cons,List.count_nil]<;>omega),rfl,vq,bv,o1,bm,om,vl,Q,M++ [(b3,Obj.cells (aB c).toArray 59 (0,0)),(b4, .cells #[vi ok,vs ot] 35 (0,0))],⟨(by classical exact List.perm_iff_count.2 fun a=>by simp only[List.count_append,List.count_cons,List.count_nil]<;>omega),hA.q,hA.l.app,x4,hA.m⟩⟩
  ·have hv:en (bK m) W c={W with vis:=W.vis++ [c],ms:=W.ms++ [c.id],q:=W.q++dY (bK m) c.id}:=by unfold en;rw[if_pos hf,if_neg hm]
   rw[hv]
   have ec:blV (decide (c.id∈W.ms))= .bool false:=by rw[decide_eq_false hm];rfl
   refine Ow.goQ ?_
   simp(disch:=(first|assumption|omega| (simp only[ac,ab,UInt64.reduceToNat];try omega))) only[↓Sx.S0,Sx.S1,Tryz.fx,cY,Nat.reduceAdd,Nat.reducePow,Int.reducePow,Nat.reduceBEq, ↓reduceIte,UInt8.reduceToNat,UInt16.reduceToNat,UInt32.reduceToNat,UInt64.reduceToNat,Int.reduceToNat,ec,Bool.not_false]
   try with_reducible refine Ow.nil ?_
   first|with_reducible refine ks [] @cY ?_|refine kp @cY ?_
   refine Cw.regionS [bw,b3] [0,1,2,4,3,5,6] [6] (by kernel_rfl) (by kernel_rfl) (by kernel_rfl) ?_
   simp only[aN, ↓aM, ↓aH, ↓aL, ↓aK,aI]
   refine kq @cY ?_
   refine Ow.mapUpdateG (encK:=eC) (encV:=blV) (k:=c.id) (v:=true) rfl rfl Tryz.underlying131 rW rfl rfl rfl (eA _ _ _) hA.m (fun o2 pX=> ?_)
   rw[wL hm] at pX
   rw[j1]
   refine ko @cY ?_
   refine Cw.permL (M:=Q++ ((bw, .cells #[sv,vq,vm bv,vm bm,vl] 133 (0,0)):: (b4, .cells #[vi ok,vs ot] 35 (0,0)):: (b3, .cells (aB c).toArray 59 (0,0)):: (bv,o1):: (bm,o2)::M)) (by classical exact List.perm_iff_count.2 fun a=>by simp only[List.count_append,List.count_cons,List.count_nil]<;>omega) ?_
   have rbw:=fun Y=>ah (w0:=w) (cp (D:=Q) (Y:=Y) (o:= .cells #[sv,vq,vm bv,vm bm,vl] 133 (0,0)) p9)
   have rb4:=fun Y=>ah (w0:=w) (fS (D:=Q) (Y:=Y) (o:= .cells #[sv,vq,vm bv,vm bm,vl] 133 (0,0)) (x:= .cells #[vi ok,vs ot] 35 (0,0)) Iv (show bw≠b4 by omega))
   refine Cw.regionG [bw,b4] [10] 11 (by kernel_rfl) rfl ?_
   simp only[List.replicate_succ,List.replicate_zero]
   refine OwG.run [0,1,2,3,4,5] [true,true,true,true,true,true,false,false,false,false,false] 5 rfl (by kernel_rfl) (by kernel_rfl) fun k hk=> ?_
   simp only[aN, ↓aM, ↓aH, ↓aL, ↓aK,aI]
   simp(disch:=(first|assumption|omega| (simp only[ac,ab,UInt64.reduceToNat];try omega))) only[↓Sx.S0,Sx.S1,Tryz.fx,cY,Nat.reduceAdd,Nat.reducePow,Int.reducePow,Nat.reduceBEq, ↓reduceIte,UInt8.reduceToNat,UInt16.reduceToNat,UInt32.reduceToNat,UInt64.reduceToNat,Int.reduceToNat,Md.next_sofnil,rbw,rb4]
   (with_reducible refine hk _ _ _ ?_);clear hk k
   refine OwG.one 6 _ (by kernel_rfl) rfl ?_
   refine Ow.callC rfl rfl Tryz.call32 (fun w' a7=>Nj ok ot w') (fun B6 v6 D6 tf qQ mL Mq=> ?_)
   have JG:=mL.mono qQ
   have gT:eO ok ot=dY (bK m) c.id:=by unfold dY;rw[←ho]
   rw[gT] at Mq
   have wy: (dY (bK m) c.id).length≤40:=by rw[←gT];exact Kz
   with_reducible refine Ow.nil ?_
   refine⟨(cv (fun r hr=>by simp only[List.mem_cons,List.not_mem_nil,or_false] at hr;rcases hr with rfl|rfl<;>simp[keys])), ?_⟩
   simp only[List.set_cons_zero,List.set_cons_succ,ax,an,ao]
   refine OwG.one 7 _ (by kernel_rfl) rfl ?_
   refine Ow.appendQ (e:=59) (k:=(dY (bK m) c.id).length) (new:=((dY (bK m) c.id).map aB).flatten) (X:=Q) vq (List.append_assoc _ _ _) rfl rfl rfl Tryz.underlying44 fK (by kernel_rfl) d_ (by rw[fj,List.size_toArray,bU]) Tryz.underlying44 (by intro k h;cases h) hA.q (fun w' a7=>(Mq.slM (z:=chd0) (fun b o hm=>a7.has b o (List.mem_append_right _ hm)) rfl rfl bU).appX bU iQ) (by omega) (fun B7 v7 D7 gF mH fW eE bF jH=> ?_)
   have fo:bw∉keys D7:=gV gF (by simp[keys]) p9 bF
   have Qc:b4∉keys D7:=gV gF (by simp[keys]) Iv bF
   have c7:=fW.cell
   have lD7:=fun Y=>cp (D:=D7) (Y:=Y) (o:= .cells #[sv,vq,vm bv,vm bm,vl] 133 (0,0)) fo
   have st7:=s5_1 sv vq (vm bv) (vm bm) vl v7 133 c7
   with_reducible refine Ow.nil ?_
   refine⟨(fun r hr=>by simp only[List.mem_cons,List.not_mem_nil,or_false] at hr;rcases hr with rfl|rfl;exact(ah (cp fo)).trans (ah (bB (cp p9))).symm;exact(ah (fS Qc (by omega))).trans (ah (bB (fS Iv (by omega)))).symm), ?_⟩
   simp only[List.set_cons_zero,List.set_cons_succ,ax,an,ao]
   refine OwG.rest [8,9,10] rfl (by kernel_rfl) (by kernel_rfl) ?_
   simp only[aN, ↓aM, ↓aH, ↓aL, ↓aK,aI]
   refine kq @cY ?_
   refine Ow.store rfl rfl rfl (ke (And.intro @cY (And.intro @lD7 (@st7)))) ?_
   have es:=fun Y x=>lN (D:=D7) (Y:=Y) (o:= .cells #[sv,vq,vm bv,vm bm,vl] 133 (0,0)) (x:=x) fo
   simp only[List.cons_append] at*
   rw[es]
   refine ko @cY ?_
   first|with_reducible refine ks [] @cY ?_|refine kp @cY ?_
   refine⟨_,(ke @cY), ?_⟩
   have tq: ∀x,x∈keys (M++ ([(b3,Obj.cells (aB c).toArray 59 (0,0)),(b4, .cells #[vi ok,vs ot] 35 (0,0))]++D6))→x∈keys M∨w.heap.size≤x:=fun x hx=>by
    rw[aT,aT,List.mem_append,List.mem_append] at hx
    exact hx.imp id fun h=>h.elim (nC x) (JG.le x)
   refine⟨(hA.ext2 (fun x h=>eE x h) (fun x h=>(bF x h).imp id fun h=>by omega) (fun x h=>by rw[aT];exact List.mem_append_left _ h) tq).perm (D:=(bw, .cells #[sv,v7,vm bv,vm bm,vl] 133 (0,0)):: (bv,o1):: (bm,o2):: (D7++ (M++ ([(b3,Obj.cells (aB c).toArray 59 (0,0)),(b4, .cells #[vi ok,vs ot] 35 (0,0))]++D6)))) (by classical exact List.perm_iff_count.2 fun a=>by simp only[List.count_append,List.count_cons,List.count_nil]<;>omega),rfl,v7,bv,o1,bm,o2,vl,D7,M++ ([(b3,Obj.cells (aB c).toArray 59 (0,0)),(b4, .cells #[vi ok,vs ot] 35 (0,0))]++D6),⟨(by classical exact List.perm_iff_count.2 fun a=>by simp only[List.count_append,List.count_cons,List.count_nil]<;>omega), ?_,hA.l.app,x4,pX⟩⟩
   simpa [List.map_append] using fW
end Go.Proofs
end
section
open Go Go.Proofs Go.Sx Go.StP Go.RooP
namespace Go.Proofs
set_option maxRecDepth 10000
set_option maxHeartbeats 400000
set_option linter.unusedSimpArgs false
section
variable {α β:Type} [BEq α] [LawfulBEq α]
omit [LawfulBEq α] in
theorem vS (k:α) (z:β) (p:α×β) (m:List (α×β)):eU k z (p::m)=if k==p.1 then p.2 else eU k z m:=by
 unfold eU
 rw[List.find?_cons]
 cases k==p.1<;>rfl
omit [LawfulBEq α] in
theorem xb (k:α) (p:α×β) (m:List (α×β)):hasG k (p::m)=(k==p.1||hasG k m):=rfl
theorem sB (k k':α) (v z:β): ∀ (m:List (α×β)),eU k z (fD k' v m)=if k==k' then v else eU k z m
 | []=>by unfold fD;rw[vS]
 |p::m=>by
  have ih:=sB k k' v z m
  unfold fD
  split
  ·rename_i h
   have e:=eq_of_beq h
   rw[vS,vS,←e]
   split<;>rfl
  ·rename_i h
   rw[vS,vS,ih]
   by_cases h1: (k==p.1)=true
   ·rw[if_pos h1,if_pos h1,if_neg (fun h2=>h (by rw[←eq_of_beq h2];exact h1))]
   ·rw[if_neg h1,if_neg h1]
theorem sD (k k':α) (v:β): ∀ (m:List (α×β)),hasG k (fD k' v m)=(k==k'||hasG k m)
 | []=>rfl
 |p::m=>by
  have ih:=sD k k' v m
  unfold fD
  split
  ·rename_i h
   have e:=eq_of_beq h
   rw[xb,xb,←e]
   cases k==k'<;>simp
  ·rw[xb,xb,ih]
   cases k==p.1<;>cases k==k'<;>simp
omit [LawfulBEq α] in
theorem sZ (k:α) (v:β): ∀ (m:List (α×β)),(fD k v m).length≤m.length+1
 | []=>Nat.le_refl _
 |p::m=>by
  have:=sZ k v m
  unfold fD
  split
  ·simp
  ·simp only[List.length_cons];omega
end
def rdK (o:ObK):Bool:=bN o.k o.t
def idK (o:ObK):IdL:=idV o.k o.t
def addO (m:List (IdL×ObK)) (o:ObK):List (IdL×ObK):=if rdK o=true then fD (idK o) o m else m
def dR (l:List ObK):List (IdL×ObK):=l.foldl addO []
theorem yf (l:List ObK) (o:ObK):dR (l++ [o])=addO (dR l) o:=by
 unfold dR;rw[List.foldl_append];rfl
def srcD (l:List ObK):bR:=fun i=>match(l.filter rdK).find? (fun o=>decide (idK o=i)) with|some o=>(o,true) |none=>(a_,false)
def NoCl (l:List ObK):Prop:= ∀a,a∈l→ ∀b,b∈l→rdK a=true→rdK b=true→idK a=idK b→a=b
theorem NoCl.sub {l l':List ObK} (h:NoCl l) (hs: ∀a,a∈l'→a∈l):NoCl l':=fun a ha b hb=>h a (hs a ha) b (hs b hb)
theorem HA (m:List (IdL×ObK)) (o:ObK): (addO m o).length≤m.length+1:=by
 unfold addO
 split
 ·exact sZ _ _ _
 ·omega
theorem nj (l:List ObK): (dR l).length≤l.length:=by
 have h: ∀ (l:List ObK) (m:List (IdL×ObK)),(l.foldl addO m).length≤m.length+l.length:=by
  intro l
  induction l with
  |nil=>intro m;exact Nat.le_refl _
  |cons o l ih=>
   intro m
   have h1:=ih (addO m o)
   have h2:=HA m o
   rw[List.foldl_cons,List.length_cons];omega
 have:=h l []
 simpa [dR] using this
theorem xo {l:List ObK} {i:IdL} {o:ObK} (h: (l.filter rdK).find? (fun o=>decide (idK o=i))=some o):o∈l∧rdK o=true∧idK o=i:=by
 have h1:=List.find?_some h
 have h2:=List.mem_filter.1 (List.mem_of_find?_eq_some h)
 exact⟨h2.1,h2.2,by simpa using h1⟩
theorem H5 {l:List ObK} {i:IdL} (h: (srcD l i).2=true): ∃o,o∈l∧rdK o=true∧idK o=i∧(srcD l i).1=o:=by
 unfold srcD at h ⊢
 cases hf: (l.filter rdK).find? (fun o=>decide (idK o=i)) with
 |none=>rw[hf] at h;cases h
 |some o=>
  obtain⟨h1,h2,h3⟩:=xo hf
  exact⟨o,h1,h2,h3,rfl⟩
theorem oD {l:List ObK} (hc:NoCl l) {o:ObK} (ho:o∈l) (hr:rdK o=true):srcD l (idK o)=(o,true):=by
 unfold srcD
 cases hf: (l.filter rdK).find? (fun p=>decide (idK p=idK o)) with
 |none=>
  have:=List.find?_eq_none.1 hf o (List.mem_filter.2 ⟨ho,hr⟩)
  simp at this
 |some p=>
  obtain⟨h1,h2,h3⟩:=xo hf
  rw[hc p h1 o ho h2 hr h3]
theorem s7 {l:List ObK} (hc:NoCl l): ∀n,n≤l.length→bK (dR (l.take n))=srcD (l.take n)
 |0,_=>rfl
 |n+1,hn=>by
  have ih:=s7 hc n (by omega)
  have hs:=StP.take_snoc (z:=a_) (show n<l.length by omega)
  have K2:l.getD n a_∈l:=by
   rw[List.getD_eq_getElem?_getD,List.getElem?_eq_getElem (show n<l.length by omega)]
   exact List.getElem_mem _
  rw[hs]
  have uH:=hc.sub (l':=l.take n) fun a ha=>List.mem_of_mem_take ha
  generalize l.getD n a_=o at*
  have jM: ∀a,a∈l.take n→a∈l:=fun a ha=>List.mem_of_mem_take ha
  generalize l.take n=t at*
  rw[yf]
  funext i
  have ihi:=congrFun ih i
  unfold addO srcD
  rw[List.filter_append,List.find?_append]
  by_cases hr:rdK o=true
  ·rw[if_pos hr,List.filter_cons,if_pos hr,List.filter_nil]
   have hl:bK (fD (idK o) o (dR t)) i=if i=idK o then(o,true) else bK (dR t) i:=by
    unfold bK
    simp only[sB,sD]
    by_cases h:i=idK o
    ·rw[if_pos h];subst h;simp
    ·have: (i==idK o)=false:=by simpa using h
     rw[if_neg h,this];rfl
   rw[hl]
   by_cases h:i=idK o
   ·rw[if_pos h]
    cases hf: (t.filter rdK).find? (fun p=>decide (idK p=i)) with
    |none=>simp[h]
    |some p=>
     obtain⟨h1,h2,h3⟩:=xo hf
     have:p=o:=hc p (jM p h1) o K2 h2 hr (h3.trans h)
     simp[this]
   ·rw[if_neg h,ihi]
    have h': ¬idK o=i:=fun e=>h e.symm
    have: [o].find? (fun p=>decide (idK p=i))=none:=by simp[h']
    rw[this,Option.or_none]
    rfl
  ·rw[if_neg hr,List.filter_cons,if_neg hr,List.filter_nil,ihi,List.find?_nil,Option.or_none]
   rfl
theorem xt {l:List ObK} (hc:NoCl l):bK (dR l)=srcD l:=by
 have:=s7 hc l.length (Nat.le_refl _)
 rwa [List.take_length] at this
theorem Fp {m:List (IdL×ObK)} {i:IdL} (h: (bK m i).2=true):i∈m.map Prod.fst:=by
 unfold bK hasG at h
 simp only[List.any_eq_true,beq_iff_eq] at h
 obtain⟨p,hp,rfl⟩:=h
 exact List.mem_map_of_mem hp
theorem yQ (s:bR) (i:IdL): (dY s i).length≤40:=Kz
theorem Bu (s:bR) (ids r:List IdL): (lw s ids r).length≤r.length+40*ids.length:=by
 unfold lw
 rw[List.length_append,List.length_map]
 have: (ids.map (dY s)).flatten.length≤40*ids.length:=by
  induction ids with
  |nil=>simp
  |cons x l ih=>
   have:=yQ s x
   rw[List.map_cons,List.flatten_cons,List.length_append,List.length_cons];omega
 omega
structure WkB (n:Nat) (W:WkS):Prop where
 q:W.q.length≤n+40*W.ms.length
 lk:W.lk.length≤W.vis.length
theorem WkB.visit {n:Nat} {W:WkS} {s:bR} {q:List ChildL} {c:ChildL} (h1:q.length≤n+40*W.ms.length) (h2:W.lk.length≤W.vis.length):WkB n (en s {W with q:=q} c):=by
 have hk:=yQ s c.id
 unfold en
 split
 ·split
  ·exact⟨h1,by simp only[List.length_append,List.length_singleton];omega⟩
  ·refine⟨?_,by simp only[List.length_append,List.length_singleton];omega⟩
   simp only[List.length_append,List.length_singleton];omega
 ·exact⟨h1,by simp only[List.length_append,List.length_singleton];omega⟩
theorem WkB.stepQ {n:Nat} {W:WkS} {s:bR} (h2:W.lk.length≤W.vis.length): ∀ (q:List ChildL),q.length≤n+40*W.ms.length→WkB n (stepQ s W q).2
 | [],_=>⟨by show 0≤_;omega,h2⟩
 |c::q,h=>by
  rw[List.length_cons] at h
  unfold Go.Proofs.stepQ
  split
  ·exact WkB.stepQ h2 q (by omega)
  ·exact WkB.visit (by omega) h2
theorem WkB.step {n:Nat} {W:WkS} (s:bR) (h:WkB n W):WkB n (eQ s W).2:=WkB.stepQ h.lk W.q h.q
theorem WkB.run {n:Nat} (s:bR): ∀ (k:Nat) {W:WkS},WkB n W→WkB n (runK s k W)
 |0,_,h=>h
 |k+1,W,h=>by
  unfold runK
  split
  ·exact h.step s
  ·exact WkB.run s k (h.step s)
theorem WkB.new (r:List IdL):WkB r.length (newK r):=⟨by simp[newK,dJ,mz],Nat.le_refl _⟩
theorem WkB.add {n:Nat} {W:WkS} (h:WkB n W) (r:List IdL):WkB (n+r.length) (dJ W r):=by
 have h1:=h.q
 refine⟨?_,h.lk⟩
 unfold dJ
 simp only[List.length_append,List.length_map];omega
theorem WkI.msLe {s:bR} {ids r:List IdL} {W:WkS} (h:WkI s r W) (hi: ∀i,(s i).2=true→i∈ids):W.ms.length≤ids.length:=
 ri h.nm fun i hm=>by
  obtain⟨c,-,h2,rfl⟩:=h.ms i hm
  unfold dZ at h2
  simp only[Bool.and_eq_true] at h2
  exact hi _ h2.1
theorem IN {s:bR} {r r':List IdL} {W W':WkS} (h:WkI s r W) (hq:W.q= []) (h':WkI s r' W') (kX:W'.q= []) (hr: ∀i,i∈r↔i∈r'):bZ W.ms=bZ W'.ms:=by
 refine rD fun i=> ?_
 rw[h.marked hq,h'.marked kX]
 exact⟨fun⟨c,h1,h2⟩=>⟨c,h1.mono fun i hi=>(hr i).1 hi,h2⟩,fun⟨c,h1,h2⟩=>⟨c,h1.mono fun i hi=>(hr i).2 hi,h2⟩⟩
theorem IW {s:bR} {r r':List IdL} {W W':WkS} (h:WkI s r W) (hq:W.q= []) (h':WkI s r' W') (kX:W'.q= []) (hr: ∀i,i∈r↔i∈r'):bZ (W.lk.map ChildL.id)=bZ (W'.lk.map ChildL.id):=by
 refine rD fun i=> ?_
 rw[List.mem_map,List.mem_map]
 constructor
 ·rintro⟨c,h1,h2⟩
  obtain⟨h3,h4⟩:=(h.missing hq c).1 h1
  exact⟨c,(h'.missing kX c).2 ⟨h3.mono fun i hi=>(hr i).1 hi,h4⟩,h2⟩
 ·rintro⟨c,h1,h2⟩
  obtain⟨h3,h4⟩:=(h'.missing kX c).1 h1
  exact⟨c,(h.missing hq c).2 ⟨h3.mono fun i hi=>(hr i).2 hi,h4⟩,h2⟩
def jr (a:List IdL) (c:ChildL):List IdL:=if c.id∈a then a else a++ [c.id]
def jW (l:List ChildL):List IdL:=l.foldl jr []
def eH (l:List ChildL):List IdL:=bZ (l.map ChildL.id)
theorem C1 (l:List ChildL) (c:ChildL):jW (l++ [c])=jr (jW l) c:=by
 unfold jW;rw[List.foldl_append];rfl
theorem MB (l:List ChildL) (c:ChildL):eH (l++ [c])=du c.id (eH l):=by
 unfold eH;rw[List.map_append];exact Lr _ _
theorem Fb (l:List IdL) (c:ChildL):fD c.id true (e_ l)=e_ (jr l c):=by
 unfold jr
 split
 ·rename_i h;exact sM h
 ·rename_i h;exact wL h
theorem Do (l:List ChildL) (i:IdL):i∈jW l↔i∈l.map ChildL.id:=by
 have h: ∀ (l:List ChildL) (a:List IdL),i∈l.foldl jr a↔i∈a∨i∈l.map ChildL.id:=by
  intro l
  induction l with
  |nil=>intro a;simp
  |cons c l ih=>
   intro a
   rw[List.foldl_cons,ih,List.map_cons,List.mem_cons]
   unfold jr
   split
   ·rename_i hc
    constructor
    ·rintro(h|h)
     ·exact .inl h
     ·exact .inr (.inr h)
    ·rintro(h|h|h)
     ·exact .inl h
     ·subst h;exact .inl hc
     ·exact .inr h
   ·rw[List.mem_append,List.mem_singleton]
    constructor
    ·rintro((h|h) |h)
     ·exact .inl h
     ·exact .inr (.inl h)
     ·exact .inr (.inr h)
    ·rintro(h|h|h)
     ·exact .inl (.inl h)
     ·exact .inl (.inr h)
     ·exact .inr h
 have:=h l []
 simpa [jW] using this
theorem AB (l:List ChildL): (jW l).Nodup:=by
 have h: ∀ (l:List ChildL) (a:List IdL),a.Nodup→(l.foldl jr a).Nodup:=by
  intro l
  induction l with
  |nil=>intro a h;exact h
  |cons c l ih=>
   intro a h
   rw[List.foldl_cons]
   refine ih _ ?_
   unfold jr
   split
   ·exact h
   ·rename_i hc
    rw[List.nodup_append]
    exact⟨h,by simp,fun x hx y hy=>by rw[List.mem_singleton] at hy;subst hy;intro e;subst e;exact hc hx⟩
 exact h l [] List.nodup_nil
theorem CC (l:List ChildL): (jW l).length≤l.length:=by
 have h: ∀ (l:List ChildL) (a:List IdL),(l.foldl jr a).length≤a.length+l.length:=by
  intro l
  induction l with
  |nil=>intro a;exact Nat.le_refl _
  |cons c l ih=>
   intro a
   have h1:=ih (jr a c)
   have h2: (jr a c).length≤a.length+1:=by unfold jr;split<;>simp
   rw[List.foldl_cons,List.length_cons];omega
 have:=h l []
 simpa [jW] using this
theorem E9 (l:List ChildL):bZ (jW l)=eH l:=rD (Do l)
theorem wI {α:Type} (l:List α): (e_ l).map Prod.fst=l:=by unfold e_;rw[List.map_map];exact List.map_id _
theorem sE {α:Type} (l:List α): (e_ l).length=l.length:=by unfold e_;rw[List.length_map]
theorem pv (l:List IdL): (bZ l).length≤l.length:=by
 have h: ∀ (l a:List IdL),(l.foldl (fun a x=>du x a) a).length≤a.length+l.length:=by
  intro l
  induction l with
  |nil=>intro a;exact Nat.le_refl _
  |cons x l ih=>
   intro a
   have h1:=ih (du x a)
   have h2:=rk x a
   rw[List.foldl_cons,List.length_cons];omega
 have:=h l []
 simpa [bZ] using this
end Go.Proofs
end
namespace Go.Sx
open Go Go.Proofs Go.Shelf Go.Sort
section
variable {α:Type} [Inhabited α] {enc:α→List Value} {k:Nat}
theorem yS (hk: ∀x,(enc x).length=k): ∀ (l:List α) (t:Nat),t<l.length*k→(l.map enc).flatten[t]? =some ((enc l[t / k]!)[t%k]!)
 | [],t,h=>by simp at h
 |x::r,t,h=>by
  have k0:0<k:=by
   rcases Nat.eq_zero_or_pos k with h0|h0
   ·subst h0;simp at h
   ·exact h0
  rw[List.map_cons,List.flatten_cons]
  by_cases ht:t<k
  ·rw[List.getElem?_append_left (by rw[hk];exact ht),Nat.div_eq_of_lt ht,Nat.mod_eq_of_lt ht]
   simp only[List.getElem!_cons_zero]
   rw[getElem!_pos (enc x) t (by rw[hk];exact ht),List.getElem?_eq_getElem]
  ·obtain⟨u,rfl⟩: ∃u,t=k+u:=⟨t - k,by omega⟩
   have hl: (x::r).length*k=r.length*k+k:=by rw[List.length_cons,Nat.add_mul,Nat.one_mul]
   rw[List.getElem?_append_right (by rw[hk];omega),hk,Nat.add_sub_cancel_left,yS hk r u (by omega)]
   rw[Nat.add_div_left u k0,Nat.add_mod_left]
   simp
theorem sC (hk: ∀x,(enc x).length=k) (l:List α):flatK enc k l.toArray=(l.map enc).flatten.toArray:=by
 have hl: (l.map enc).flatten.length=l.length*k:=by
  induction l with
  |nil=>simp
  |cons x r ih=>rw[List.map_cons,List.flatten_cons,List.length_append,ih,hk,List.length_cons,Nat.add_mul,Nat.one_mul];omega
 apply Array.ext
 ·rw[size_flatK,List.size_toArray,List.size_toArray,hl]
 ·intro t h1 h2
  rw[size_flatK,List.size_toArray] at h1
  have h:=yS hk l t h1
  have h3:=get_flatK enc k l.toArray t (by rw[List.size_toArray];exact h1)
  rw[getElem!_pos _ t (by rw[size_flatK,List.size_toArray];exact h1)] at h3
  rw[h3]
  have h4: (l.map enc).flatten.toArray[t]? =some ((enc l[t / k]!)[t%k]!):=by rw[List.getElem?_toArray];exact h
  rw[Array.getElem?_eq_getElem h2] at h4
  have:=Option.some.inj h4
  rw[this]
  simp
theorem zO {F F' rest:List Value} (h:F.length=F'.length):putCells id 0 F'.toArray (F++rest).toArray=(F'++rest).toArray:=by
 unfold putCells
 apply Array.ext
 ·simp[h]
 ·intro t h1 h2
  simp only[Array.getElem_mapIdx,List.getElem_toArray,List.size_toArray,Nat.zero_le,true_and,Nat.zero_add,Nat.sub_zero,id]
  split
  ·rename_i ht
   rw[getElem!_pos _ t (by simpa using ht),List.getElem_toArray,List.getElem_append_left ht]
  ·rename_i ht
   rw[List.getElem_append_right (by omega),List.getElem_append_right (by omega)]
   simp only[h]
theorem DA {P:Program} {ρ:Ren} (L:SlLaysF0.n6 P ρ) (aE: ∀w,(isAgg (ρ.t 24)).run P w= .ok true w) (zE: ∀w,(Go.sizeOf (ρ.t 24)).run P w= .ok k w) (hk: ∀x,(enc x).length=k) (h1: ∀x,∀v∈enc x,v.oneCell'=true) (cf:α→α→Int) (hO:SWO (ltOf cf)) (g:FuncId)
  (eg: ∀args w,(callFunc g args).run P w= .ok (.enter g args) w) (JT: ∀x y W,Calls P g #[.agg (enc x).toArray, .agg (enc y).toArray] W fun e w'=>e= .returned (.int .i64 (cf x y))∧ ∃q os',w'=grow (W.drewN q) os')
  {w:World} {b c:Nat} {E:TypeId} {l:List α} {rest:List Value} (hb:w.heap[b]? =some (.cells ((l.map enc).flatten++rest).toArray E (0,0))) (dF:l.length<4611686018427387904):
  Rets P (ρ.f 6) #[vsl b 0 l.length c, .func (.func g) #[] #[]] w (fun v D=> ∃o,D= [(b,o)]∧v= .tuple #[]∧ ∃l':List α,l'.Perm l∧l'.Pairwise (fun x y=>ltOf cf y x=false)∧o= .cells ((l'.map enc).flatten++rest).toArray E (0,0)):=by
 have dg:=(Array.getElem?_eq_some_iff.1 hb).1
 have hH:HoldsK enc k w b 0 l.toArray:=by
  unfold HoldsK Holds
  intro t ht
  rw[size_flatK,List.size_toArray] at ht
  rw[get_flatK _ _ _ _ (by rw[List.size_toArray];exact ht)]
  have h:=yS hk l t ht
  have aC:=(List.getElem?_eq_some_iff.1 h).1
  refine⟨?_, ?_⟩
  ·simp only[World.cell?,hb,Option.isSome_none,Bool.false_eq_true, ↓reduceIte,Nat.zero_add,List.getElem?_toArray,id]
   rw[List.getElem?_append_left aC,h];simp
  ·simp only[World.frozen?,hb];simp
 have JU:=AnyQ.slices_SortFunc L k aE zE enc hk h1 cf hO g #[] b 0 c l.toArray w eg (fun m os dk _ x y=>JT x y _) hH dg (by rw[List.size_toArray];exact dF)
 refine Calls.mono JU ?_
 rintro e w' ⟨rfl,d',n,os,hp,hs,rfl⟩
 obtain⟨l',rfl⟩: ∃l':List α,d'=l'.toArray:=⟨d'.toList,by simp⟩
 obtain⟨hz,-,hp⟩:=hp
 rw[List.size_toArray,List.size_toArray] at hz
 have kN: ∀m:List α,(m.map enc).flatten.length=m.length*k:=fun m=>by
  have:=congrArg Array.size (sC (enc:=enc) hk m)
  rw[size_flatK,List.size_toArray,List.size_toArray] at this
  exact this.symm
 have lD: (sortWorldK enc k w b 0 n l'.toArray os).heap[b]? =some (.cells ((l'.map enc).flatten++rest).toArray E (0,0)):=by
  show((w.heap.modify b (onCells (putCells id 0 (flatK enc k l'.toArray))))++os)[b]? =_
  rw[Array.getElem?_append_left (by rw[Array.size_modify];exact dg),Array.getElem?_modify,if_pos rfl,hb,sC hk,Option.map_some]
  simp only[onCells]
  rw[zO (by rw[kN,kN,hz])]
 refine⟨.tuple #[],[(b,_)],rfl,⟨?_,by simp[keys], ?_, ?_,rfl,rfl,rfl⟩,_,rfl,rfl,l', ?_, ?_,rfl⟩
 ·intro b' o' hm
  simp only[List.mem_singleton,Prod.mk.injEq] at hm
  rw[hm.1,hm.2];exact lD
 ·intro b' qZ hn
  have ai:b≠b':=fun h=>hn (by simp[keys,h])
  show((w.heap.modify b (onCells (putCells id 0 (flatK enc k l'.toArray))))++os)[b']? =_
  rw[Array.getElem?_append_left (by rw[Array.size_modify];exact qZ),Array.getElem?_modify,if_neg ai]
 ·show w.heap.size≤ ((w.heap.modify b (onCells (putCells id 0 (flatK enc k l'.toArray))))++os).size
  rw[Array.size_append,Array.size_modify];omega
 ·have h2:List.take l.length l'=l':=List.take_of_length_le (by omega)
  rw[←h2]
  simpa using hp
 ·rw[List.pairwise_iff_getElem]
  intro i j hi hj jh
  have:=hs i j (Nat.zero_le _) jh (by rw[List.size_toArray];omega)
  simpa [hi,hj] using this
theorem Dd {P:Program} {ρ:Ren} (L:SlLaysF0.n6 P ρ) (p:Option Addr) (c:Nat) (fv:Value) (w:World):Rets P (ρ.f 6) #[.slice p 0 c,fv] w (fun v D=>v= .tuple #[]∧D= []):=
 Calls.mono (AnyF.slices_SortFunc_none L p c fv w) fun _ _ ⟨he,hw⟩=>⟨_,[],he,by rw[hw];exact Hp.refl w,rfl,rfl⟩
end
end Go.Sx
section
namespace Go.Proofs
open Go Go.Shelf
set_option maxRecDepth 100000
def Tryz.sortId_ren:Go.Shelf.Ren:=⟨fun|6=>199|15=>212|14=>233|28=>249|29=>250|20=>263|21=>264|22=>265|23=>266|24=>267|25=>268|26=>269|27=>270|46=>302|47=>282|48=>283|49=>303|50=>304|57=>318|n=>n,fun|22=>30|24=>24|25=>260|3=>3|39=>253|0=>0|53=>250|55=>296|4=>4|46=>352|45=>351|50=>356|5=>5|9=>9|66=>382|70=>386|76=>403|77=>404|n=>n,fun|n=>n⟩
theorem Tryz.sortId:Go.Proofs.SlLaysF0.n6 Tryz.prog Tryz.sortId_ren:={
 mixed:=by kernel_rfl
 f6:=⟨Tryz.f199.name,by decide,Tryz.func199.trans (congrArg some (by kernel_rfl))⟩
 f14:=⟨Tryz.f233.name,by decide,Tryz.func233.trans (congrArg some (by kernel_rfl))⟩
 f15:=Tryz.func212.trans (congrArg some (by kernel_rfl))
 f20:=⟨Tryz.f263.name,by decide,Tryz.func263.trans (congrArg some (by kernel_rfl))⟩
 f21:=⟨Tryz.f264.name,by decide,Tryz.func264.trans (congrArg some (by kernel_rfl))⟩
 f22:=⟨Tryz.f265.name,by decide,Tryz.func265.trans (congrArg some (by kernel_rfl))⟩
 f23:=⟨Tryz.f266.name,by decide,Tryz.func266.trans (congrArg some (by kernel_rfl))⟩
 f24:=⟨Tryz.f267.name,by decide,Tryz.func267.trans (congrArg some (by kernel_rfl))⟩
 f25:=⟨Tryz.f268.name,by decide,Tryz.func268.trans (congrArg some (by kernel_rfl))⟩
 f26:=⟨Tryz.f269.name,by decide,Tryz.func269.trans (congrArg some (by kernel_rfl))⟩
 f27:=⟨Tryz.f270.name,by decide,Tryz.func270.trans (congrArg some (by kernel_rfl))⟩
 f28:=Tryz.func249.trans (congrArg some (by kernel_rfl))
 f29:=Tryz.func250.trans (congrArg some (by kernel_rfl))
 f46:=⟨Tryz.f302.name,by decide,Tryz.func302.trans (congrArg some (by kernel_rfl))⟩
 f47:=Tryz.func282.trans (congrArg some (by kernel_rfl))
 f48:=Tryz.func283.trans (congrArg some (by kernel_rfl))
 f49:=⟨Tryz.f303.name,by decide,Tryz.func303.trans (congrArg some (by kernel_rfl))⟩
 f50:=⟨Tryz.f304.name,by decide,Tryz.func304.trans (congrArg some (by kernel_rfl))⟩
 f57:=⟨Tryz.f318.name,by decide,Tryz.func318.trans (congrArg some (by kernel_rfl))⟩
 t0:=Tryz.underlying0
 a0:=Tryz.isAgg0
 z0:=Tryz.sizeOf0
 v0:=Tryz.zeroValue0
 t3:=Tryz.underlying3
 a3:=Tryz.isAgg3
 z3:=Tryz.sizeOf3
 v3:=Tryz.zeroValue3
 t4:=Tryz.underlying4
 a4:=Tryz.isAgg4
 z4:=Tryz.sizeOf4
 v4:=Tryz.zeroValue4
 t5:=Tryz.underlying5
 a5:=Tryz.isAgg5
 z5:=Tryz.sizeOf5
 v5:=Tryz.zeroValue5
 t9:=Tryz.underlying9
 a9:=Tryz.isAgg9
 z9:=Tryz.sizeOf9
 v9:=Tryz.zeroValue9
 t22:=Tryz.underlying30
 a22:=Tryz.isAgg30
 z22:=Tryz.sizeOf30
 v22:=Tryz.zeroValue30
 t25:=Tryz.underlying260
 a25:=Tryz.isAgg260
 z25:=Tryz.sizeOf260
 v25:=Tryz.zeroValue260
 t39:=Tryz.underlying253
 a39:=Tryz.isAgg253
 z39:=Tryz.sizeOf253
 v39:=Tryz.zeroValue253
 t45:=Tryz.underlying351
 a45:=Tryz.isAgg351
 z45:=Tryz.sizeOf351
 v45:=Tryz.zeroValue351
 t46:=Tryz.underlying352
 a46:=Tryz.isAgg352
 z46:=Tryz.sizeOf352
 v46:=Tryz.zeroValue352
 t50:=Tryz.underlying356
 a50:=Tryz.isAgg356
 z50:=Tryz.sizeOf356
 v50:=Tryz.zeroValue356
 t53:=Tryz.underlying250
 a53:=Tryz.isAgg250
 z53:=Tryz.sizeOf250
 v53:=Tryz.zeroValue250
 t55:=Tryz.underlying296
 a55:=Tryz.isAgg296
 z55:=Tryz.sizeOf296
 v55:=Tryz.zeroValue296
 t66:=Tryz.underlying382
 a66:=Tryz.isAgg382
 z66:=Tryz.sizeOf382
 v66:=Tryz.zeroValue382
 t70:=Tryz.underlying386
 a70:=Tryz.isAgg386
 z70:=Tryz.sizeOf386
 v70:=Tryz.zeroValue386
 t76:=Tryz.underlying403
 a76:=Tryz.isAgg403
 z76:=Tryz.sizeOf403
 v76:=Tryz.zeroValue403
 t77:=Tryz.underlying404
 a77:=Tryz.isAgg404
 z77:=Tryz.sizeOf404
 v77:=Tryz.zeroValue404}
end Go.Proofs
end
section
open Go Go.Proofs Go.Sx Go.StP Go.RefP Go.RooP Go.Shelf Go.Sort
namespace Go.Proofs
set_option maxRecDepth 100000
set_option maxHeartbeats 400000
set_option linter.unusedSimpArgs false
theorem Bk (b:Nat) (w:World):
  Rets Tryz.prog 141 #[vm b] w (XS w [] (fun v' D=> ∃b1,v'= .func (.func 200) #[] #[vp b1 0]∧D= [(b1, .cells #[vm b] 131 (0,0))])):=by
 refine Rets.enter Tryz.func141 rfl (rs:= [.tmp 2]) Tryz.results141 Tryz.ntmps141 ?_
 refine kf ?_
 first|with_reducible refine ks [] @Nat.add_zero ?_|refine kp @Nat.add_zero ?_
 refine Ow.box rfl rfl fun b1 bJ aG=> ?_
 simp only[bp,bj,vm,List.nil_append]
 refine ko @Nat.add_zero ?_
 refine⟨_,(ke @Nat.add_zero), ?_⟩
 exact⟨⟨fun c hc=>(by simp only[keys,List.map_cons,List.map_nil,List.mem_singleton] at hc;exact .inr (hc▸aG)),fun c hc=>(by cases hc)⟩,b1,by simp[c0,ev,cj],rfl⟩
theorem rm {α β:Type} {encK:α→Value} {encV:β→Value} {o:Obj} {bm:Nat} {om:Obj} {m dn lf:List (α×β)} (h:ItG encK encV o bm om m dn lf): (dn++lf).Perm m:=by
 obtain⟨es,clock,ds,-,-,-,-,-,-,hp⟩:=h;exact hp
structure KeyG where
 dn:List (IdL×Bool)
 lf:List (IdL×Bool)
 it:Obj
 X:a6
set_option linter.defProp false
def gL:=And.intro (And.intro (And.intro (@jO) (@oN)) (And.intro (@Sx.tup2_0) (@Sx.tup2_1))) (And.intro (And.intro (@Sx.tup3_0) (@Sx.tup3_1)) (And.intro (@Sx.tup3_2) (@t8)))
theorem Dx (b1 bm:Nat) (om:Obj) (m:List (IdL×Bool)) (w:World) (hb:w.heap[b1]? =some (.cells #[vm bm] 131 (0,0))) (nF:w.heap[bm]? =some om) (hM:gD eC blV om m):
  ll Tryz.prog 200 #[vp b1 0] eC (m.map Prod.fst) w:=by
 intro l J w1 X c_ hX dF hp JA wj hY
 have bJ:=(Array.getElem?_eq_some_iff.1 hb).1
 have uA:=(Array.getElem?_eq_some_iff.1 nF).1
 have rd: ∀X',Ext w1 X X'→ ∀c,c<w.heap.size→aO w1 X' c=w.heap[c]? :=fun X' hE c hc=>by
  rw[jT (hE.not (Nat.lt_of_lt_of_le hc dF) (fun hm=>by have:=hX c hm;omega)),c_ c hc]
 have r1:aO w1 X b1=some (.cells #[vm bm] 131 (0,0)):=by rw[rd X (Ext.refl _ _) b1 bJ,hb]
 have r2:aO w1 X bm=some om:=by rw[rd X (Ext.refl _ _) bm uA,nF]
 show Rets Tryz.prog _ #[.func (.yield l) #[] #[],vp b1 0] w1 (XS w1 X (fun _ D=> ∃xs,xs.Perm (m.map Prod.fst)∧J xs D))
 refine Rets.enterX Tryz.func200 rfl (rs:= []) Tryz.results200 Tryz.ntmps200 (fun p jm=>hp.has _ _ jm) hp.nodup ?_
 refine kf ?_
 first|with_reducible refine ks [] (And.intro @gL @r1) ?_|refine kp (And.intro @gL @r1) ?_
 refine Ow.rangeMapG (encK:=eC) (encV:=blV) rfl rfl Tryz.underlying131 rfl r2 hM fun bi oi lC gU hI=> ?_
 refine ko @gL ?_
 first|with_reducible refine ks [] @gL ?_|refine kp @gL ?_
 refine Cw.loopG (G:=KeyG) [6,7,8,9,3,10,11,12,13] (fun g=> []) (fun g=>g.X++ [(bi,g.it)]) (fun g=>J (g.dn.map Prod.fst) g.X∧Ext w1 X g.X∧bi∉keys g.X∧ItG eC blV g.it bm om m g.dn g.lf) (fun g=>g.lf.length) ⟨[],m,oi,X⟩ rfl rfl ?_ ?_
 ·exact⟨JA,Ext.refl _ _,fun h=>Nat.lt_irrefl _ (aP lC h),hI⟩
 intro g j hg
 refine kv ?_
 obtain⟨dn,lf,it,X'⟩:=g
 dsimp only at hg ⊢
 obtain⟨h2,h3,h4,hI⟩:=hg
 have rdm: ∀ (Y:a6),(∀c,c∈keys Y→w.heap.size≤c)→aO w1 (X'++Y) bm=some om:=fun Y hY=>by
  rw[jT (fun hm=> ?_),c_ bm uA,nF]
  rw[aT,List.mem_append] at hm
  rcases hm with hm|hm
  ·rcases h3.new _ hm with h|h
   ·have:=hX _ h;omega
   ·omega
  ·have:=hY _ hm;omega
 have rd1: ∀x,aO w1 (X'++ [(bi,x)]) bm=some om:=fun x=>rdm _ fun c hc=>by
  simp only[keys,List.map_cons,List.map_nil,List.mem_singleton] at hc
  omega
 first|with_reducible refine ks [3] @gL ?_|refine kp @gL ?_
 refine Ow.nextMapG rfl rfl rfl (by rw[gN h4];exact eA _ _ _) (rd1 it) hI (fun qg=> ?_) (fun p it' lf' mP p4=> ?_)
 ·subst qg
  have jm:=rm hI
  rw[List.append_nil] at jm
  refine ko @gL ?_
  first|with_reducible refine ks [] @gL ?_|refine kp @gL ?_
  refine⟨_,(ke @gL), ?_⟩
  exact⟨h3.app gU,dn.map Prod.fst,jm.map _,wj _ _ _ h2⟩
 ·rw[rK h4]
  refine ko @gL ?_
  first|with_reducible refine ks [] @gL ?_|refine kp @gL ?_
  refine Ow.entryMapG (encK:=eC) (encV:=blV) rfl rfl rfl (ah (by rw[gN h4];exact eA _ _ _)) (rd1 it') p4 ?_
  obtain⟨x,bx⟩:=p
  have hx:=x.h
  unfold eC
  refine ko @gL ?_
  refine Ow.alloc rfl rfl k6 fun b4 dN cB=> ?_
  simp only[aU,List.nil_append,List.cons_append]
  have k4:=fun o=>lK (o:=o) dN
  have s4:=fun o x=>vX (o:=o) (x:=x) dN
  have rd4:=fun o=>NW w1 (o:=o) dN
  refine ko (And.intro @gL (And.intro @k4 (And.intro @s4 (@nt)))) ?_
  refine Cw.regionI ?_
  show OwI _ _ _ _ ([_,_]++ [_,_]) _ _ _
  refine OwI.pre rfl ?_
  refine ko (And.intro @gL @rd4) ?_
  refine OwI.yieldX (S:=fun D=>J (dn.map Prod.fst++ [x]) D) (X:=X') (Y:= [(bi,it')]++ [(b4, .cells (a8 x.l) 24 (0,0))]) (List.append_assoc _ _ _) rfl rfl (fun w2 ar=> ?_) (fun D hC hJ=> ?_)
  ·have nP:=(rm p4).map Prod.fst
   refine hY (dn.map Prod.fst) x (lf'.map Prod.fst) X' w2 (by simpa using nP) ar (fun c hc=>by
    rcases h3.new c hc with h|h
    ·exact hX c h
    ·omega) h2
  ·refine OwI.all rfl ?_
   refine Ow.permL (M:=(D++ [(b4, .cells (a8 x.l) 24 (0,0))])++ [(bi,it')]) (by classical exact List.perm_iff_count.2 fun a=>by simp only[List.count_append,List.count_cons,List.count_nil]<;>omega) ?_
   refine ko @gL ?_
   refine Again.mk ⟨dn++ [(x,bx)],lf',it',D++ [(b4, .cells (a8 x.l) 24 (0,0))]⟩ (by show lf'.length<lf.length;omega) ⟨?_, ?_, ?_,p4⟩ rfl rfl
   ·show J ((dn++ [(x,bx)]).map Prod.fst) _
    rw[List.map_append]
    exact wj _ _ _ hJ
   ·show Ext w1 X (D++_)
    exact(Ext.came0 h3 hC).app cB
   ·show bi∉keys (D++_)
    intro hm
    rw[aT,List.mem_append] at hm
    rcases hm with hm|hm
    ·rcases hC.new _ hm with h|h
     ·exact h4 h
     ·exact Nat.lt_irrefl _ (aP h.1 (by simp[keys]))
    ·simp only[keys,List.map_cons,List.map_nil,List.mem_singleton] at hm
     exact Nat.lt_irrefl _ (aP dN (by simp[keys,hm]))
end Go.Proofs
end
section
open Go Go.Proofs Go.Sx Go.StP Go.RefP Go.RooP Go.Shelf Go.Sort
namespace Go.Proofs
set_option maxRecDepth 100000
set_option maxHeartbeats 4000000
set_option linter.unusedSimpArgs false
set_option linter.defProp false
def dw:= @pw
theorem zS (gf:Nat) (lb:Array Value) (xs:List IdL) (w:World) (eg: ∀args w,(callFunc gf args).run Tryz.prog w= .ok (.enter gf args) w) (lH:xs.length<1000000)
  (eh:ll Tryz.prog gf lb (eC) xs w):
  Rets Tryz.prog 232 #[.slice none 0 0, .func (.func gf) #[] lb] w (XS w [] (fun v D=> ∃xs2:List IdL,xs2.Perm xs∧Gr D 24 32 v xs2.length (xs2.map aJ).flatten)):=by
 refine Rets.enterR Tryz.func232 rfl (rs:= [.tmp 4]) Tryz.results232 Tryz.ntmps232 ?_
 simp only[List.size_toArray,List.length_cons,List.length_nil,Nat.reduceAdd,Nat.reduceSub,List.replicate_succ,List.replicate_zero,List.cons_append,List.nil_append]
 refine w9 (Hp.refl w) ?_
 first|with_reducible refine ks [] @dw ?_|refine kp @dw ?_
 refine Ow.box rfl rfl fun bs R7 SI=> ?_
 simp only[bp,bj,List.nil_append]
 refine ko @dw ?_
 refine⟨rfl,fun w1 qj=> ?_⟩
 refine wp_seq ?_
 refine w9 qj ?_
 first|with_reducible refine ks [] @dw ?_|refine kp @dw ?_
 refine⟨rfl,fun w2 qk=> ?_⟩
 refine wp_block ?_
 refine Lf (S:=fun dk D=>Sx.look D dk=some (.deferred (some []))∧ ∃v,Sx.look D bs=some (.cells #[v] 30 (0,0))∧ ∃xs2:List IdL,xs2.Perm xs∧Gr D 24 32 v xs2.length (xs2.map aJ).flatten) qk rfl eg (fun fn dk w3 rc jK dc JY kU=> ?_) (fun dk fn D w3 rc jK dc JY hS hE kU=> ?_)
 ·have ai:bs≠dk:=by
   have:=aP dc (show bs∈keys [(bs,_)] by simp[keys]);omega
  have pV:bs≠dk+1:=by
   have:=aP dc (show bs∈keys [(bs,_)] by simp[keys]);omega
  refine Rets.mono (eh (dk+1) (fun pre X=>Sx.look X (dk+1)=some (.loop rc)∧Sx.look X dk=some (.deferred (some []))∧ ∃v,Sx.look X bs=some (.cells #[v] 30 (0,0))∧Gr X 24 32 v pre.length (pre.map aJ).flatten) w3 _ (fun b hb=> ?_) (fun b hb=> ?_) ?_ (by have:=Hp.part (Y:= []) (by simpa using kU);simpa using this) ?_ ?_ ?_) ?_
  ·refine kU.old b hb (fun hm=> ?_)
   simp[keys] at hm;omega
  ·simp[keys] at hb;omega
  ·exact kU.size
  ·refine⟨?_, ?_,_, ?_,Gr.nl⟩
   ·simp[Sx.look,pV]
   ·simp[Sx.look,ai]
   ·simp[Sx.look];rfl
  ·rintro pre X Y ⟨q1,q2,v,q3,q4⟩
   exact⟨bB q1,bB q2,v,bB q3,q4.app⟩
  ·rintro pre x post X2 w4 hx K3 Mu ⟨q1,q2,v,q3,q4⟩
   refine YieldAt.of (S:=fun D=>Ext w4 X2 D∧_) K3 q1 (by rw[jK];rfl) (by rw[jK];rfl) (by rw[jK];rfl) ?_
   have aQ:=hx.length_eq
   rw[List.length_append,List.length_cons] at aQ
   have n1:slB v≠some bs:=q4.ne q3 (fun a e=>by cases e)
   have n2:slB v≠some dk:=q4.ne q2 (fun a e=>by cases e)
   have n3:slB v≠some (dk+1):=q4.ne q1 (fun a e=>by cases e)
   have ka:=jK
   unfold recR at ka
   rw[ka] at q1 ⊢
   dsimp only
   rw[tU]
   show CwR _ _ _ (Code.region _ (List.toArray _) false) [.slice none 0 0, .func (.func gf) #[] lb,vp bs 0,undef, .slice none 0 0,undef, .func (.func gf) #[] lb, .agg (a8 x.l),undef,undef,undef,undef,undef] X2 _
   refine CwR.region rfl ?_
   refine Ow.alloc rfl rfl k6 fun b5 cx eF=> ?_
   simp only[aU,List.nil_append,List.cons_append]
   have KH:=x.h
   have k5:=fun o=>lK (o:=o) cx
   have s5:=fun o x=>vX (o:=o) (x:=x) cx
   refine ko (And.intro @dw (And.intro @k5 (@s5))) ?_
   refine⟨trivial,bB q1, ?_⟩
   refine CwR.block (CwR.region rfl ?_)
   generalize Qi:Loop.mk .busy _ _ _ _ _ _ _=BZ
   have N5:dk+1<b5:=aP cx (cE q1)
   have Jn:dk<b5:=aP cx (cE q2)
   have R_:bs<b5:=aP cx (cE q3)
   have l1:Sx.look (setB (X2++ [(b5,Obj.cells (a8 x.l) 24 (0,0))]) (dk+1) (.loop BZ)) (dk+1)=some (.loop BZ):=iS (bB q1)
   have l2:Sx.look (setB (X2++ [(b5,Obj.cells (a8 x.l) 24 (0,0))]) (dk+1) (.loop BZ)) dk=some (.deferred (some [])):=by rw[ey (by omega)];exact bB q2
   have l3:Sx.look (setB (X2++ [(b5,Obj.cells (a8 x.l) 24 (0,0))]) (dk+1) (.loop BZ)) bs=some (.cells #[v] 30 (0,0)):=by rw[ey (by omega)];exact bB q3
   have l4:Sx.look (setB (X2++ [(b5,Obj.cells (a8 x.l) 24 (0,0))]) (dk+1) (.loop BZ)) b5=some (.cells (a8 x.l) 24 (0,0)):=by rw[ey (by omega)];exact lK cx
   have lg:Gr (setB (X2++ [(b5,Obj.cells (a8 x.l) 24 (0,0))]) (dk+1) (.loop BZ)) 24 32 v pre.length (pre.map aJ).flatten:=(q4.app (M:= [(b5,Obj.cells (a8 x.l) 24 (0,0))])).setB n3 _
   have le:Ext w4 X2 (setB (X2++ [(b5,Obj.cells (a8 x.l) 24 (0,0))]) (dk+1) (.loop BZ)):=((Ext.refl w4 X2).app eF).setB
   generalize setB (X2++ [(b5,Obj.cells (a8 x.l) 24 (0,0))]) (dk+1) (.loop BZ)=L1 at*
   have rbs:=ah (w0:=w4) l3
   have rb5:=ah (w0:=w4) l4
   have ld1:aS (some (false,1)) (some (.cells #[v] 30 (0,0))) 0=some v:=rfl
   refine ko (And.intro @dw (And.intro @rbs (And.intro @rb5 (@ld1)))) ?_
   refine Ow.buildSlice (e:=24) (aJ x).toArray rfl rfl (lM x) fun b6 jB ei=> ?_
   refine ko @dw ?_
   refine Ow.appendG (e:=24) (k:=1) (new:=aJ x) v rfl rfl rfl Tryz.underlying30 Tryz.ag24 (by kernel_rfl) k6 (by simp[aU,a8]) Tryz.underlying30 (by intro k h;cases h) lg.app (fun w' a7=>AppX.one1 (a7.has _ _ (List.mem_append_right _ List.mem_cons_self)) (fQ x) (mm x)) (by show(aJ x).length=1*32;rw[fQ]) (by omega) (fun v2 L2 hB ca hG hS=> ?_)
   have g1:=hG.look _ _ n3 (bB l1)
   have g2:=hG.look _ _ n2 (bB l2)
   have g3:=hG.look _ _ n1 (bB l3)
   have c2:=hB.cell
   have st:aZ (some (false,1)) (some (.cells #[v] 30 (0,0))) 0 v2=some (.cells #[v2] 30 (0,0)):=by simp[aZ,c2,bQ]
   have m2:slB v2≠some bs:=hB.ne g3 (fun a e=>by cases e)
   refine ko (And.intro @dw (And.intro @g3 (And.intro @st (@nt)))) ?_
   refine⟨rfl, ?_, ?_, ?_, ?_,v2, ?_, ?_⟩
   ·rw[ey (by omega)];exact g1
   ·exact((le.app (o:= .cells (a8 x.l) 24 (0,0)) ei).grew hG).setB.setB
   ·exact iS (by rw[ey (by omega)];exact g1)
   ·rw[ey (by omega),ey (by omega)];exact g2
   ·rw[ey (by omega)];exact iS g3
   ·rw[List.length_append,List.map_append,List.flatten_append]
    have e1: ([x].map aJ).flatten=aJ x:=by simp
    rw[e1]
    exact(hB.setB m2 _).setB (hB.ne g1 (fun a e=>by cases e)) _
  ·rintro v D ⟨hE,xs2,hp,q1,q2,v2,q3,q4⟩
   exact⟨hE,q1,q2,v2,q3,xs2,hp,q4⟩
 ·obtain⟨cz,v,bu,xs2,nP,gG⟩:=hS
  show Code.wp _ (Code.seq _ _) _ _ _
  have ai:dk+1≠bs:=by
   have:=aP dc (show bs∈keys [(bs,_)] by simp[keys]);omega
  have r1:=fun o=>(vw (w0:=w) (L:=D) (x:=o) ai).trans (ah bu)
  have ld1:aS (some (false,1)) (some (.cells #[v] 30 (0,0))) 0=some v:=rfl
  refine wp_mono (CwE.seq (ds:= [{target:= .collected dk,args:= #[]}]) (K:=fun e f' L'=>e= .ret∧L'=setB D (dk+1) _∧cj f' 4=v) (CwE.region (f':= [.slice none 0 0, .func (.func gf) #[] lb,vp bs 0,undef,v,undef, .func (.func gf) #[] lb,undef,undef,undef,undef,undef,v]) ?_ (CwE.ret ⟨rfl,rfl,rfl⟩)) w3 kU) ?_
  ·simp(disch:=(first|assumption|omega| (simp only[ac,ab,UInt64.reduceToNat];try omega))) only[↓Sx.S0,Sx.S1,Tryz.fx,dw,Nat.reduceAdd,Nat.reducePow,Int.reducePow,Nat.reduceBEq, ↓reduceIte,UInt8.reduceToNat,UInt16.reduceToNat,UInt32.reduceToNat,UInt64.reduceToNat,Int.reduceToNat,evVs,et,r1,ld1]
  ·rintro e a w5 ⟨hd,L,K4,rfl,rfl,hv⟩
   refine⟨.inr rfl,dk,hd,_,K4, ?_,[v], ?_, ?_, ?_⟩
   ·rw[ey (by omega)];exact cz
   ·rw[xW,xd,wC,hv];rfl
   ·refine⟨fun c hc=> ?_,fun c hc=>by cases hc⟩
    rw[jS,jS] at hc
    rcases hE.new c hc with h|h
    ·simp[keys] at h;exact .inr (by omega)
    ·exact .inr h
   ·exact⟨xs2,nP,(gG.setB (gG.ne jK (fun a e=>by cases e)) _).setB (gG.ne cz (fun a e=>by cases e)) _⟩
theorem Oy (gf:Nat) (lb:Array Value) (xs:List IdL) (w:World) (eg: ∀args w,(callFunc gf args).run Tryz.prog w= .ok (.enter gf args) w) (lH:xs.length<1000000)
  (eh: ∀w',Hp w [] w'→ll Tryz.prog gf lb eC xs w'):
  Rets Tryz.prog 198 #[.func (.func gf) #[] lb] w (XS w [] (fun v D=> ∃xs2:List IdL,xs2.Perm xs∧Gr D 24 32 v xs2.length (xs2.map aJ).flatten)):=by
 refine Rets.enterX Tryz.func198 rfl (rs:= [.tmp 2]) Tryz.results198 Tryz.ntmps198 (fun p hp=>by cases hp) (by simp[keys]) ?_
 refine kf ?_
 first|with_reducible refine ks [] @dw ?_|refine kp @dw ?_
 refine Ow.callC rfl rfl Tryz.call232 (fun w' a7=>zS gf lb xs w' eg lH (eh w' a7)) (fun B v D hA hB hN hS=> ?_)
 refine ko @dw ?_
 refine⟨_,(ke @dw), ?_⟩
 exact⟨Ext.of_new (New.mono hB hN),hS⟩
theorem ltId (x y:IdL):ltOf (fun x y:IdL=>Lib.compareBytes x.l y.l) x y=ltB x.l y.l:=by
 unfold ltOf
 simp only[sX]
 cases h:ltB x.l y.l
 ·cases h2:ltB y.l x.l<;>simp
 ·simp
theorem Ig:SWO (ltOf fun x y:IdL=>Lib.compareBytes x.l y.l) where
 irrefl x:=by rw[ltId];exact pp x.l
 trans x y z h1 h2:=by rw[ltId] at*;exact r4 h1 h2
 ntrans x y z h1 h2:=by
  rw[ltId] at*
  cases h:ltB x.l z.l
  ·rfl
  ·by_cases lI:x.l=y.l
   ·rw[lI,h2] at h;cases h
   ·rw[r4 (qB h1 fun e=>lI e) h] at h2
    cases h2
theorem Cb (x:IdL): ∀v∈aJ x,v.oneCell'=true:=fun v hv=>List.all_eq_true.1 (mm x) v hv
def tT (l Z:List IdL):Prop:=Z.Perm l∧Z.Pairwise (fun x y=>ltB y.l x.l=false)
theorem A5 {b c:Nat} {l:List IdL} {rest:List Value} {E:TypeId} (w:World) (hb:w.heap[b]? =some (rowO aJ E rest l)) (dF:l.length<4611686018427387904):
  Rets Tryz.prog 199 #[vsl b 0 l.length c, .func (.func 142) #[] #[]] w
   (fun v D=> ∃o,D= [(b,o)]∧v= .tuple #[]∧ ∃Z:List IdL,tT l Z∧o=rowO aJ E rest Z):=by
 have h:= @DA IdL ⟨Go.Proofs.id0⟩ aJ 32 Tryz.prog Tryz.sortId_ren Tryz.sortId Tryz.isAgg24 Tryz.sizeOf24 fQ Cb (fun x y=>Lib.compareBytes x.l y.l) Ig 142 Tryz.call142 (fun x y W=>by
  have:=BN x y W
  rw[←qL,←qL] at this
  exact this) w b c E l rest hb dF
 refine Rets.mono h ?_
 rintro v D ⟨o,rfl,rfl,l',hp,hs,rfl⟩
 exact⟨_,rfl,rfl,l',⟨hp,hs.imp fun{x y} h=>(ltId y x).symm.trans h⟩,rfl⟩
theorem Kl (p:Option Addr) (c:Nat) (fv:Value) (w:World):Rets Tryz.prog 199 #[.slice p 0 c,fv] w (fun v D=>v= .tuple #[]∧D= []):=
 @Dd Tryz.prog Tryz.sortId_ren Tryz.sortId p c fv w
theorem HE (v:Value) (X:a6) (l:List IdL) (w:World) (hG:Gr X 24 32 v l.length (l.map aJ).flatten) (hX: ∀p,p∈X→w.heap[p.1]? =some p.2) (hn: (keys X).Nodup) (hl:l.length<1000000):
  Rets Tryz.prog 199 #[v, .func (.func 142) #[] #[]] w (XS w X (fun v' D=>v'= .tuple #[]∧ ∃Z,tT l Z∧Gr D 24 32 v l.length (Z.map aJ).flatten)):=by
 rcases hG with hS| ⟨h0,h1,rb,rfl,b_⟩
 ·rcases hS.inv with⟨rfl,h0,h1⟩ | ⟨rb,c,rest,rfl,b_,-,hc,fp,hr⟩
  ·obtain rfl:l= []:=List.eq_nil_of_length_eq_zero h0
   refine(Rets.chunkV hX hn (Kl none 0 _ w)).mono ?_
   rintro v' D ⟨hE,rfl,hv⟩
   exact⟨hE,hv,[],⟨List.Perm.nil,List.Pairwise.nil⟩,Gr.nl⟩
  ·refine(Rets.chunk hX hn (cE b_) (A5 (c:=c) w (hX _ (dC b_)) (by omega))).mono ?_
   rintro v' D ⟨hE,o,rfl,hv,Z,hZ,rfl⟩
   refine⟨hE,hv,Z,hZ, .inl ?_⟩
   have z1:=hZ.1.length_eq
   rw[←z1]
   exact Buf.at_ (iS b_) (by rw[wP fQ]) (by rw[z1];exact hr) (by omega) fp
 ·obtain rfl:l= []:=List.eq_nil_of_length_eq_zero h0
  refine(Rets.chunkV hX hn (Kl (some ⟨rb,0,none⟩) 0 _ w)).mono ?_
  rintro v' D ⟨hE,rfl,hv⟩
  exact⟨hE,hv,[],⟨List.Perm.nil,List.Pairwise.nil⟩, .inr ⟨rfl,rfl,rb,rfl,b_⟩⟩
theorem zT (gf:Nat) (lb:Array Value) (xs:List IdL) (w:World) (eg: ∀args w,(callFunc gf args).run Tryz.prog w= .ok (.enter gf args) w) (lH:xs.length<1000000) (hn:xs.Nodup)
  (eh: ∀w',Hp w [] w'→ll Tryz.prog gf lb eC xs w'):
  Rets Tryz.prog 140 #[.func (.func gf) #[] lb, .func (.func 142) #[] #[]] w (XS w [] (fun v D=>Gr D 24 32 v (bZ xs).length ((bZ xs).map aJ).flatten)):=by
 refine Rets.enterX Tryz.func140 rfl (rs:= [.tmp 4]) Tryz.results140 Tryz.ntmps140 (fun p hp=>by cases hp) (by simp[keys]) ?_
 refine kf ?_
 first|with_reducible refine ks [] @dw ?_|refine kp @dw ?_
 refine Ow.callC rfl rfl Tryz.call198 (fun w' a7=>Oy gf lb xs w' eg lH (fun w2 h2=>eh w2 (a7.trans_nil h2))) (fun B v D hA hB hN hS=> ?_)
 obtain⟨l,g7,hG⟩:=hS
 rw[List.nil_append]
 refine ko @dw ?_
 have qh:=g7.length_eq
 refine Ow.callX (X:=D) (Y:= []) (List.append_nil _).symm rfl rfl Tryz.call199 (fun w' a7 jf g6=>HE v D l w' hG jf g6 (by omega)) (fun v1 D1 qR cz=> ?_)
 obtain⟨rfl,Z,hZ,nB⟩:=cz
 rw[List.append_nil]
 have hE:Ext w [] D1:=(Ext.of_new (New.mono hB hN)).came0 qR
 have Qz:Z=bZ xs:=Ax (hZ.1.trans g7) hn hZ.2
 have u4:=hZ.1.length_eq
 subst Qz
 rw[←u4] at nB
 refine ko @dw ?_
 first|with_reducible refine ks [] @dw ?_|refine kp @dw ?_
 refine⟨_,(ke @dw), ?_⟩
 exact⟨hE,nB⟩
theorem Kc (b:Nat) (o:Obj) (m:List (IdL×Bool)) (w:World) (hb:w.heap[b]? =some o) (hM:gD eC blV o m) (hn: (m.map Prod.fst).Nodup) (hl:m.length<1000000):
  Rets Tryz.prog 75 #[vm b] w (XS w [] (fun v D=>GrI D 24 32 v (bZ (m.map Prod.fst)).length ((bZ (m.map Prod.fst)).map aJ).flatten)):=by
 have dg:=(Array.getElem?_eq_some_iff.1 hb).1
 refine Rets.enterX Tryz.func75 rfl (rs:= [.tmp 2]) Tryz.results75 Tryz.ntmps75 (fun p hp=>by cases hp) (by simp[keys]) ?_
 refine kf ?_
 first|with_reducible refine ks [] @dw ?_|refine kp @dw ?_
 refine Ow.callC rfl rfl Tryz.call141 (fun w' a7=>Bk b w') (fun B2 v2 D2 te ca cw bu=> ?_)
 obtain⟨b1,rfl,rfl⟩:=bu
 rw[List.nil_append]
 have eV:=cw.mono ca
 refine ko @dw ?_
 refine Ow.callC rfl rfl Tryz.call140 (fun w' a7=>zT 200 #[vp b1 0] (m.map Prod.fst) w' Tryz.call200 (by rw[List.length_map];exact hl) hn (fun w2 h2=>Dx b1 b o m w2 ((h2.old _ (Array.getElem?_eq_some_iff.1 (a7.has _ _ List.mem_cons_self)).1 (by simp[keys])).trans (a7.has _ _ List.mem_cons_self)) ((h2.old _ (Nat.lt_of_lt_of_le dg a7.size) (by simp[keys])).trans ((a7.old b dg (eV.not dg)).trans hb)) hM)) (fun B4 v4 D4 dv eL cq iD=> ?_)
 refine ko @dw ?_
 refine⟨_,(ke @dw), ?_⟩
 exact⟨Ext.of_new (eV.app (cq.mono eL)),iD.i fun p hp=>List.mem_cons_of_mem _ hp⟩
end Go.Proofs
end
section
open Go Go.Proofs Go.Sx Go.StP Go.RooP
namespace Go.Proofs
set_option maxRecDepth 10000
set_option maxHeartbeats 400000
set_option linter.unusedSimpArgs false
def RowX {α:Type} (m:Nat) (enc:α→List Value) (z:α) (w:World) (v:Value) (l:List α) (X:a6):Prop:= ∃b off arr E fz,RowS m enc z w v l b off arr E fz∧(0<l.length→b∉keys X)
theorem RowX.old {α:Type} {m:Nat} {enc:α→List Value} {z:α} {w w':World} {v:Value} {l:List α} {L X:a6} (h:RowX m enc z w v l L) (hw:Hp w L w') (hX: ∀c,c∈keys X→c∈keys L):RowX m enc z w' v l X:=by
 obtain⟨b,off,arr,E,fz,hr,hb⟩:=h
 exact⟨b,off,arr,E,fz,hr.old hw hb,fun h0 hm=>hb h0 (hX _ hm)⟩
theorem RowX.ext {α:Type} {m:Nat} {enc:α→List Value} {z:α} {w:World} {v:Value} {l:List α} {L X:a6} (h:RowX m enc z w v l X) (hL: ∀c,c∈keys L→c∈keys X∨w.heap.size≤c):RowX m enc z w v l L:=by
 obtain⟨b,off,arr,E,fz,hr,hb⟩:=h
 refine⟨b,off,arr,E,fz,hr,fun h0 hm=> ?_⟩
 rcases hL _ hm with h1|h1
 ·exact hb h0 h1
 ·have:=hr.lt h0;omega
theorem SlV.rowX {α:Type} {m:Nat} {enc:α→List Value} {z:α} {w:World} {v:Value} {l:List α} (h:SlV m enc z w v l):RowX m enc z w v l []:=by
 obtain⟨b,off,arr,E,fz,hr⟩:=h.row
 exact⟨b,off,arr,E,fz,hr,fun _ hm=>by cases hm⟩
theorem SrcW.mem {w:World} {L:a6} {sv:Value} {m:List (IdL×ObK)} (h:SrcW w sv m []) {_bx:Nat} (_:True) (hL:New w.heap.size L):SrcW w sv m L:=h.ext fun c hc=> .inr (hL.le c hc)
theorem _root_.Go.Sx.Ext.trans2 {w:World} {X D E:a6} (h:Ext w X D) (h2:Ext w D E):Ext w X E:=⟨fun c hc=>(h2.new c hc).elim (h.new c) .inr,fun c hc=>h2.all c (h.all c hc)⟩
theorem y8 {w:World} {X D E:a6} (h:Ext w X D) (hN:New w.heap.size E):Ext w X (D++E):=⟨fun c hc=>by
  rw[aT] at hc
  exact(List.mem_append.1 hc).elim (h.new c) fun hc=> .inr (hN.le c hc),fun c hc=>by rw[aT];exact List.mem_append_left _ (h.all c hc)⟩
theorem tS (b o:Nat):aj Tryz.prog .eql 41 (vp b o) (.pointer none)=some (.bool false):=by
 simp[aj,eqX,er,fL,Tryz.underlying41,vp]
theorem tK (b o:Nat):aj Tryz.prog .neq 41 (vp b o) (.pointer none)=some (.bool true):=by
 simp[aj,eqX,er,fL,Tryz.underlying41,vp]
theorem WkA.more {bw:Nat} {sv:Value} {W:WkS} {vq:Value} {bv:Nat} {ov:Obj} {bm:Nat} {om:Obj} {vl:Value} {Q M X G D:a6} (h:WkA bw sv W vq bv ov bm om vl Q M X) (hD:D.Perm (X++G)):WkA bw sv W vq bv ov bm om vl Q (M++G) D where
 perm:=hD.trans ((h.perm.append_right G).trans (by rw[List.cons_append,List.cons_append,List.cons_append,List.append_assoc]))
 q:=h.q
 l:=h.l.app
 v:=h.v
 m:=h.m
theorem WkP.more {bw:Nat} {sv:Value} {W:WkS} {X G D:a6} (h:WkP bw sv W X) (hD:D.Perm (X++G)):WkP bw sv W D:=by
 obtain⟨vq,bv,ov,bm,om,vl,Q,M,h⟩:=h
 exact⟨vq,bv,ov,bm,om,vl,Q,M++G,h.more hD⟩
structure MkStG where
 q:List ChildL
 X:a6
set_option linter.defProp false
def fM:=And.intro (And.intro (And.intro (And.intro (@gB) (@gZ)) (And.intro (@gY) (And.intro (@gX) (@Sx.tup2_0)))) (And.intro (And.intro (@Sx.tup2_1) (@cP)) (And.intro (@cO) (And.intro (@jO) (@rE))))) (And.intro (And.intro (And.intro (@qs) (@q_)) (And.intro (@fj) (And.intro (@rM) (@l5_0)))) (And.intro (And.intro (@l5_1) (And.intro (@l5_2) (@l5_3))) (And.intro (@l5_4) (And.intro (@tS) (@tK)))))
theorem Bj (bw:Nat) (sv:Value) (W:WkS) (m:List (IdL×ObK)) (X:a6) (w:World) (hX: ∀p,p∈X→w.heap[p.1]? =some p.2) (hn: (keys X).Nodup) (hP:WkP bw sv W X) (hS:SrcW w sv m X)
  (bJ:W.q.length<10000000) (ck:W.lk.length<10000000):
  Rets Tryz.prog 24 #[vp bw 0] w (XS w X (fun v D=>v= .bool (eQ (bK m) W).1∧WkP bw sv (eQ (bK m) W).2 D)):=by
 refine Rets.enterX Tryz.func24 rfl (rs:= [.tmp 2]) Tryz.results24 Tryz.ntmps24 hX hn ?_
 refine kf ?_
 first|with_reducible refine ks [] @fM ?_|refine kp @fM ?_
 refine Cw.loopG (G:=MkStG) [4,5,6,7,8,9,10,11,12,13,14,15,16,17,18,19,3,20,21,22,23,24,25,26,27,28,29,30,31,32,33,34,35,36,37,2] (fun g=> []) (fun g=>g.X) (fun g=>WkP bw sv {W with q:=g.q} g.X∧Ext w X g.X∧stepQ (bK m) W g.q=eQ (bK m) W∧g.q.length≤W.q.length) (fun g=>g.q.length) ⟨W.q,X⟩ rfl rfl ?_ ?_
 ·exact⟨hP,Ext.refl _ _,rfl,Nat.le_refl _⟩
 intro g j hg
 refine kv ?_
 clear hP hX hn
 obtain⟨q,X'⟩:=g
 simp only at hg ⊢
 obtain⟨hP,hE,bP,uh⟩:=hg
 refine Cw.world fun wz ej=> ?_
 have nN:=ej.nodup
 clear ej wz
 obtain⟨vq,bv,ov,bm,om,vl,Q,M,hA⟩:=hP
 obtain⟨jI,jJ,iv,mS⟩:=hA.ne nN
 have f9:=hA.keysX
 refine Cw.permL hA.perm.symm ?_
 have ln:=fun x=>hA.q.len x
 cases q with
 |nil=>
  have d0:decide ((0:Int)< (([]:List ChildL).length:Int))=false:=rfl
  simp only at ln
  first|with_reducible refine ks [] (And.intro @fM (And.intro @ln (@d0))) ?_|refine kp (And.intro @fM (And.intro @ln (@d0))) ?_
  refine⟨_,(ke @fM), ?_⟩
  rw[←bP]
  exact⟨hE.perm hA.perm.symm,rfl,vq,bv,ov,bm,om,vl,Q,M,List.Perm.refl _,hA.q,hA.l,hA.v,hA.m⟩
 |cons c q=>
  have mW:=hA.q
  simp only at ln mW
  rw[List.length_cons] at mW ln uh
  obtain⟨bq,offq,arrq,w_,kO,kR⟩:=Qu.head mW bU
  obtain⟨vt,lF,lE⟩:=Qu.tail mW bU
  have JR:=mS bq (.inl (cE w_))
  have rq:aO w ((bw, .cells #[sv,vq,vm bv,vm bm,vl] 133 (0,0)):: (bv,ov):: (bm,om):: (Q++M)) bq=some (.cells arrq 59 (0,0)):=by
   rw[dD _ _ _ _ _ (Ne.symm JR.1),dD _ _ _ _ _ (Ne.symm JR.2.1),dD _ _ _ _ _ (Ne.symm JR.2.2)]
   exact ah (bB w_)
  have d0:decide ((0:Int)< ((q.length+1:Nat):Int))=true:=decide_eq_true (by omega)
  first|with_reducible refine ks [] (And.intro @fM (And.intro @ln (And.intro @d0 (And.intro @kO (And.intro @rq (@kR)))))) ?_|refine kp (And.intro @fM (And.intro @ln (And.intro @d0 (And.intro @kO (And.intro @rq (@kR)))))) ?_
  refine Ow.alloc rfl rfl d_ fun b3 cQ bA=> ?_
  simp only[aU,List.nil_append,List.cons_append]
  refine Ow.permL (M:=(b3, .cells (aB chd0).toArray 59 (0,0)):: (bw, .cells #[sv,vq,vm bv,vm bm,vl] 133 (0,0)):: (bv,ov):: (bm,om):: (Q++M)) (by classical exact List.perm_iff_count.2 fun a=>by simp only[List.count_append,List.count_cons,List.count_nil]<;>omega) ?_
  have Sf:bw<b3:=aP cQ (by simp[keys])
  have Se:bv<b3:=aP cQ (by simp[keys])
  have Sc:bm<b3:=aP cQ (by simp[keys])
  have st1:=s5_1 sv vq (vm bv) (vm bm) vl vt 133 lE.cell
  refine ko @fM ?_
  first|with_reducible refine ks [] (And.intro @fM (And.intro @lF (@st1))) ?_|refine kp (And.intro @fM (And.intro @lF (@st1))) ?_
  refine Cw.regionS [bw,b3] [0,1,2,3,4,5,6] [] (by kernel_rfl) (by kernel_rfl) (by kernel_rfl) ?_
  simp only[aN, ↓aM, ↓aH, ↓aL, ↓aK,aI]
  refine kq @fM ?_
  refine Ow.soft rfl rfl rfl ?_
  refine Ow.mapGetG (encK:=chKV) (encV:=blV) (k:=c) (z:=false) rfl rfl Tryz.underlying130 tF zrBl rfl rfl (by rw[dD _ _ _ _ _ (by omega),dD _ _ _ _ _ (by omega)];exact fT _ _ _ _) hA.v ?_
  with_reducible refine Ow.nil ?_
  refine⟨by intro b hb;simp only[List.mem_cons,List.not_mem_nil,or_false] at hb;(try subst hb);rfl, ?_⟩
  rw[getT]
  have J8:Ext w X ((b3, .cells (aB c).toArray 59 (0,0)):: (bw, .cells #[sv,vt,vm bv,vm bm,vl] 133 (0,0)):: (bv,ov):: (bm,om):: (Q++M)):=by
   refine⟨fun x hx=> ?_,fun x hx=> ?_⟩
   ·simp only[keys,List.map_cons,List.mem_cons] at hx
    rcases hx with rfl|hx
    ·exact .inr bA
    ·exact hE.new x ((f9 x).2 (by simpa [keys,List.mem_append] using hx))
   ·have:=(f9 x).1 (hE.all x hx)
    simp only[keys,List.map_cons,List.map_append,List.mem_cons,List.mem_append] at this ⊢
    exact .inr this
  have wh:WkA bw sv {W with q:=q} vt bv ov bm om vl Q (M++ [(b3,Obj.cells (aB c).toArray 59 (0,0))]) ((b3, .cells (aB c).toArray 59 (0,0)):: (bw, .cells #[sv,vt,vm bv,vm bm,vl] 133 (0,0)):: (bv,ov):: (bm,om):: (Q++M)):=⟨(by classical exact List.perm_iff_count.2 fun a=>by simp only[List.count_append,List.count_cons,List.count_nil]<;>omega),lE,hA.l.app,hA.v,hA.m⟩
  by_cases hc:c∈W.vis
  ·have ec:blV (decide (c∈W.vis))= .bool true:=by rw[decide_eq_true hc];rfl
   refine kq (And.intro @fM @ec) ?_
   try with_reducible refine Ow.nil ?_
   first|with_reducible refine ks [] @fM ?_|refine kp @fM ?_
   refine Again.mk ⟨q,_⟩ (by show q.length< (c::q).length;simp) ⟨⟨vt,bv,ov,bm,om,vl,Q,_,wh⟩,J8, ?_,by show q.length≤_;omega⟩ rfl rfl
   show stepQ (bK m) W q=_
   rw[←bP,stepQ,if_pos hc]
  ·have ec:blV (decide (c∈W.vis))= .bool false:=by rw[decide_eq_false hc];rfl
   refine kq (And.intro @fM @ec) ?_
   try with_reducible refine Ow.nil ?_
   first|with_reducible refine ks [] @fM ?_|refine kp @fM ?_
   rw[←bP]
   have S6:stepQ (bK m) W (c::q)=(false,en (bK m) {W with q:=q} c):=by rw[stepQ,if_neg hc]
   rw[S6]
   generalize (b3,Obj.cells (aB c).toArray 59 (0,0)):: (bw, .cells #[sv,vt,vm bv,vm bm,vl] 133 (0,0)):: (bv,ov):: (bm,om):: (Q++M)=L3 at*
   refine Ow.callX (X:=L3) (Y:= []) (List.append_nil _).symm rfl rfl Tryz.call72 (fun w' a7 jf g6=>BP bw sv {W with q:=q} m c L3 w' jf g6 ⟨vt,bv,ov,bm,om,vl,Q,_,wh⟩ ((hS.ext J8.new).old a7 fun _ h=>h) hc (by show q.length<_;omega) ck) (fun v4 D4 l8 iD=> ?_)
   rw[List.append_nil]
   obtain⟨rfl,qX⟩:=iD
   refine ko @fM ?_
   first|with_reducible refine ks [] @fM ?_|refine kp @fM ?_
   refine⟨_,(ke @fM), ?_⟩
   exact⟨J8.came0 l8,rfl,qX⟩
theorem MI (r:ChildL):eP (dK Tryz.prog 59) (aw Tryz.prog 59) [(0,Value.agg (a8 r.id.l))]=some (.agg (aB ⟨r.id,0⟩).toArray):=by
 have hp:dK Tryz.prog 59=some [(0,32),(32,1)]:=id (by kernel_rfl)
 rw[hp,d_]
 have e0: (aB chd0).toArray=(([]:List Value)++ ((chd0.id.l.map v8)++ ([vi chd0.kind]))).toArray:=by congr 1<;>simp only[aB,List.append_assoc,List.nil_append,List.append_nil]
 have q0:bQ (([]:List Value)++ ((chd0.id.l.map v8)++ ([vi chd0.kind]))).toArray 0 (r.id.l.map v8)=(([]:List Value)++ ((r.id.l.map v8)++ ([vi chd0.kind]))).toArray:=qJ _ _ _ _ (by simp) (by simp[chd0.id.h,r.id.h])
 have s0: (([]:List Value)++ ((chd0.id.l.map v8)++ ([vi chd0.kind]))).toArray.size=33:=by simp[r.id.h,chd0.id.h]
 have z0: (Value.cells (Value.agg (a8 r.id.l))).toList=r.id.l.map v8:=by rw[aU];rfl
 have y0: (Value.cells (Value.agg (a8 r.id.l))).size=32:=by rw[←Array.length_toList,z0];simp[r.id.h]
 have eZ: (([]:List Value)++ ((r.id.l.map v8)++ ([vi chd0.kind]))).toArray=(aB ⟨r.id,0⟩).toArray:=by congr 1
 simp only[eP]
 rw[e0]
 unfold Sx.fillV
 simp only[List.getElem?_cons_zero,List.getElem?_cons_succ,z0,y0]
 rw[if_pos ⟨trivial,by rw[s0];decide⟩,q0]
 rw[eZ];rfl
structure MkAdG where
 i:Nat
 X:a6
set_option linter.defProp false
def bS:=And.intro (And.intro (And.intro (And.intro (@gB) (@gZ)) (And.intro (@gY) (And.intro (@gX) (@Sx.tup2_0)))) (And.intro (And.intro (@Sx.tup2_1) (@cP)) (And.intro (@cO) (And.intro (@pw) (@rE))))) (And.intro (And.intro (And.intro (@qs) (@q_)) (And.intro (@fj) (And.intro (@rM) (@l5_0)))) (And.intro (And.intro (@l5_1) (And.intro (@l5_2) (@l5_3))) (And.intro (@l5_4) (And.intro (@tS) (@tK)))))
theorem E_ (bw:Nat) (sv:Value) (W:WkS) (v:Value) (l:List IdL) (X:a6) (w:World) (hX: ∀p,p∈X→w.heap[p.1]? =some p.2) (hn: (keys X).Nodup) (hP:WkP bw sv W X) (hR:RowX 32 aJ id0 w v l X)
  (bJ:W.q.length<10000000) (hl:l.length<1000000):
  Rets Tryz.prog 23 #[vp bw 0,v] w (XS w X (fun v D=>v= .tuple #[]∧WkP bw sv (dJ W l) D)):=by
 obtain⟨rb,off,arr,E,fz,hr,mY⟩:=hR
 have lnv:=fun x=>hr.len x
 refine Rets.enterX Tryz.func23 rfl (rs:= []) Tryz.results23 Tryz.ntmps23 hX hn ?_
 refine kf ?_
 first|with_reducible refine ks [] (And.intro @bS @lnv) ?_|refine kp (And.intro @bS @lnv) ?_
 refine Cw.loopG (G:=MkAdG) [11,12,13,5,14,15,16,17,18,19,20,21,22,23,24,25,10] (fun g=> [(10,vi g.i)]) (fun g=>g.X) (fun g=>g.i≤l.length∧WkP bw sv (dJ W (l.take g.i)) g.X∧Ext w X g.X) (fun g=>l.length - g.i) ⟨0,X⟩ rfl rfl ?_ ?_
 ·refine⟨Nat.zero_le _, ?_,Ext.refl _ _⟩
  have:dJ W (l.take 0)=W:=by unfold dJ;simp
  rw[this];exact hP
 intro g j hg
 refine kv ?_
 clear hP hX hn
 obtain⟨i,X'⟩:=g
 simp only at hg ⊢
 obtain⟨hi,hP,hE⟩:=hg
 by_cases aC:i<l.length
 ·refine Cw.world fun wz ej=> ?_
  have nN:=ej.nodup
  clear ej wz
  obtain⟨vq,bv,ov,bm,om,vl,Q,M,hA⟩:=hP
  obtain⟨jI,jJ,iv,mS⟩:=hA.ne nN
  have f9:=hA.keysX
  have jn:=hr.lt (by omega)
  have ql:rb∉keys X':=hE.not jn (mY (by omega))
  have rd: ∀L:a6,(∀c,c∈keys L→c∈keys X'∨w.heap.size≤c)→aO w L rb=some (.cells arr E fz):=fun L hL=>by
   rw[jT (fun hm=>by rcases hL _ hm with h|h;exact ql h;omega)];exact hr.has (by omega)
  have ix:=hr.idx true i aC
  have ld:=rR hr aC
  have dj:dJ W (l.take (i+1))={dJ W (l.take i) with q:=(dJ W (l.take i)).q++ [⟨l.getD i id0,0⟩]}:=by
   rw[StP.take_snoc (z:=id0) aC]
   unfold dJ
   simp
  have uh: (dJ W (l.take i)).q.length<20000000:=by
   unfold dJ
   simp only[List.length_append,List.length_map,List.length_take]
   omega
  have cK:decide ((i:Int)< (l.length:Int))=true:=decide_eq_true (by omega)
  generalize hx:l.getD i id0=x at*
  have KH:=x.h
  have rd0:=rd X' fun c hc=> .inl hc
  first|with_reducible refine ks [] (And.intro @bS (And.intro @cK (And.intro @ix (And.intro @rd0 (@ld))))) ?_|refine kp (And.intro @bS (And.intro @cK (And.intro @ix (And.intro @rd0 (@ld))))) ?_
  refine Ow.alloc rfl rfl jV fun b5 cx eF=> ?_
  simp only[aU,List.nil_append,List.cons_append]
  have uN:=id0.h
  have SE:bw<b5:=aP cx ((f9 bw).2 (.inl rfl))
  have Qp: ∀c,c∈keys Q→c<b5:=fun c hc=>aP cx ((f9 c).2 (.inr (.inr (.inr (.inl hc)))))
  have Iy:b5∉keys Q:=fun h=>Nat.lt_irrefl _ (Qp _ h)
  have p9:bw∉keys Q:=fun h=>(mS _ (.inl h)).1 rfl
  have Qf: ∀Y,X'.Perm Y→(X'++ [(b5,Obj.cells (a8 id0.l) 24 (0,0))]).Perm ((b5,Obj.cells (a8 id0.l) 24 (0,0))::Y):=fun Y h=>(h.append_right _).trans (by classical exact List.perm_iff_count.2 fun a=>by simp only[List.count_append,List.count_cons,List.count_nil]<;>omega)
  refine Ow.permL (Qf _ hA.perm).symm ?_
  refine ko @bS ?_
  refine Cw.permL (M:=Q++ ((bw, .cells #[sv,vq,vm bv,vm bm,vl] 133 (0,0)):: (b5, .cells (a8 x.l) 24 (0,0)):: (bv,ov):: (bm,om)::M)) (by classical exact List.perm_iff_count.2 fun a=>by simp only[List.count_append,List.count_cons,List.count_nil]<;>omega) ?_
  have rbw:=fun Y=>ah (w0:=w) (cp (D:=Q) (Y:=Y) (o:= .cells #[sv,vq,vm bv,vm bm,vl] 133 (0,0)) p9)
  have rb5:=fun Y=>ah (w0:=w) (fS (D:=Q) (Y:=Y) (o:= .cells #[sv,vq,vm bv,vm bm,vl] 133 (0,0)) (x:= .cells (a8 x.l) 24 (0,0)) Iy (show bw≠b5 by omega))
  have bd:=MI ⟨x,0⟩
  refine Cw.regionG [bw,b5] [11] 12 (by kernel_rfl) rfl ?_
  simp only[List.replicate_succ,List.replicate_zero]
  refine OwG.run [0,1,2,3,4,5] [true,true,true,true,true,true,false,false,false,false,false,false] 6 rfl (by kernel_rfl) (by kernel_rfl) fun k hk=> ?_
  simp only[aN, ↓aM, ↓aH, ↓aL, ↓aK,aI]
  simp(disch:=(first|assumption|omega| (simp only[ac,ab,UInt64.reduceToNat];try omega))) only[↓Sx.S0,Sx.S1,Tryz.fx,bS,Nat.reduceAdd,Nat.reducePow,Int.reducePow,Nat.reduceBEq, ↓reduceIte,UInt8.reduceToNat,UInt16.reduceToNat,UInt32.reduceToNat,UInt64.reduceToNat,Int.reduceToNat,Md.next_sofnil,rbw,rb5]
  (with_reducible refine hk _ _ _ ?_);clear hk k
  refine OwG.one 6 _ (by kernel_rfl) rfl ?_
  refine Ow.build (.agg (aB ⟨x,0⟩).toArray) rfl bd ?_
  with_reducible refine Ow.nil ?_
  refine⟨(fun r hr=>rfl), ?_⟩
  simp only[List.set_cons_zero,List.set_cons_succ,ax,an,ao]
  refine OwG.one 7 _ (by kernel_rfl) rfl ?_
  refine Ow.buildSlice (e:=59) (aB ⟨x,0⟩).toArray rfl rfl (qw ⟨x,0⟩) fun ba wq lG=> ?_
  with_reducible refine Ow.nil ?_
  refine⟨(cv (fun r hr=>by simp only[List.mem_cons,List.not_mem_nil,or_false] at hr;rcases hr with rfl|rfl<;>simp[keys])), ?_⟩
  simp only[List.set_cons_zero,List.set_cons_succ,ax,an,ao]
  refine OwG.one 8 _ (by kernel_rfl) rfl ?_
  refine Ow.appendQ (e:=59) (k:=1) (new:=aB ⟨x,0⟩) (X:=Q) vq (List.append_assoc _ _ _) rfl rfl rfl Tryz.underlying44 fK (by kernel_rfl) d_ (by rw[fj,List.size_toArray,bU]) Tryz.underlying44 (by intro k h;cases h) hA.q (fun w' a7=>AppX.one1 (a7.has ba (.cells (aB ⟨x,0⟩).toArray 59 (0,0)) (by simp)) (bU _) (iQ _)) (by omega) (fun B7 v7 D7 gF mH fW eE bF jH=> ?_)
  have fo:bw∉keys D7:=gV gF (by simp[keys]) p9 bF
  have Qe:b5∉keys D7:=gV gF (by simp[keys]) Iy bF
  have c7:=fW.cell
  have lD7:=fun Y=>cp (D:=D7) (Y:=Y) (o:= .cells #[sv,vq,vm bv,vm bm,vl] 133 (0,0)) fo
  have st7:=s5_1 sv vq (vm bv) (vm bm) vl v7 133 c7
  with_reducible refine Ow.nil ?_
  refine⟨(fun r hr=>by simp only[List.mem_cons,List.not_mem_nil,or_false] at hr;rcases hr with rfl|rfl;exact(ah (cp fo)).trans (ah (bB (cp p9))).symm;exact(ah (fS Qe (by omega))).trans (ah (bB (fS Iy (by omega)))).symm), ?_⟩
  simp only[List.set_cons_zero,List.set_cons_succ,ax,an,ao]
  refine OwG.rest [9,10,11] rfl (by kernel_rfl) (by kernel_rfl) ?_
  simp only[aN, ↓aM, ↓aH, ↓aL, ↓aK,aI]
  refine kq @bS ?_
  refine Ow.store rfl rfl rfl (ke (And.intro @bS (And.intro @lD7 (@st7)))) ?_
  have es:=fun Y x=>lN (D:=D7) (Y:=Y) (o:= .cells #[sv,vq,vm bv,vm bm,vl] 133 (0,0)) (x:=x) fo
  simp only[List.cons_append] at*
  rw[es]
  refine ko @bS ?_
  first|with_reducible refine ks [] @bS ?_|refine kp @bS ?_
  refine Again.mk ⟨i+1,_⟩ (by show l.length - (i+1)<l.length - i;omega) ⟨aC, ?_, ?_⟩ rfl rfl
  ·show WkP bw sv (dJ W (l.take (i+1))) _
   rw[dj]
   refine⟨v7,bv,ov,bm,om,vl,D7,M++ [(b5, .cells (a8 x.l) 24 (0,0)),(ba, .cells (aB ⟨x,0⟩).toArray 59 (0,0))],⟨(by classical exact List.perm_iff_count.2 fun a=>by simp only[List.count_append,List.count_cons,List.count_nil]<;>omega), ?_,hA.l.app,hA.v,hA.m⟩⟩
   simpa [List.map_append] using fW
  ·have tq: ∀y,y∈keys (M++ [(b5, .cells (a8 x.l) 24 (0,0)),(ba,Obj.cells (aB ⟨x,0⟩).toArray 59 (0,0))])→y∈keys M∨w.heap.size≤y:=fun y hy=>by
    rw[aT,List.mem_append] at hy
    refine hy.imp id fun h=> ?_
    simp only[keys,List.map_cons,List.map_nil,List.mem_cons,List.not_mem_nil,or_false] at h
    omega
   have h1:=(hA.ext2 (w:=w) (a:= .cells #[sv,v7,vm bv,vm bm,vl] 133 (0,0)) (b:=ov) (c:=om) (fun x h=>eE x h) (fun x h=>(bF x h).imp id fun h=>by omega) (fun x h=>by rw[aT];exact List.mem_append_left _ h) tq).perm (D':=D7++ ((bw, .cells #[sv,v7,vm bv,vm bm,vl] 133 (0,0)):: (b5, .cells (a8 x.l) 24 (0,0)):: (bv,ov):: (bm,om):: (M++ [(ba, .cells (aB ⟨x,0⟩).toArray 59 (0,0))]))) (by classical exact List.perm_iff_count.2 fun a=>by simp only[List.count_append,List.count_cons,List.count_nil]<;>omega)
   exact hE.trans2 h1
 ·obtain rfl:i=l.length:=by omega
  rw[List.take_length] at hP
  have cK:decide ((l.length:Int)< (l.length:Int))=false:=by simp
  first|with_reducible refine ks [] (And.intro @bS @cK) ?_|refine kp (And.intro @bS @cK) ?_
  refine⟨_,(ke @bS), ?_⟩
  exact⟨hE,rfl,hP⟩
theorem FX (sv:Value) (b c:Nat) (t:TypeId) (u:Value) (h:sv= .iface t u):eP (dK Tryz.prog 133) (aw Tryz.prog 133) [(0,sv),(2,vm b),(3,vm c)]=some (.agg #[sv, .slice none 0 0,vm b,vm c, .slice none 0 0]):=by
 subst h
 rw[show dK Tryz.prog 133=some [(0,1),(1,1),(2,1),(3,1),(4,1)] from id (by kernel_rfl),show aw Tryz.prog 133=some (.agg #[.nilIface, .slice none 0 0, .map none, .map none, .slice none 0 0]) from id (by kernel_rfl)];rfl
theorem CB (sv:Value) (m:List (IdL×ObK)) (v:Value) (l:List IdL) (w:World) (hS:SrcW w sv m []) (hR:RowX 32 aJ id0 w v l []) (hl:l.length<1000000):
  Rets Tryz.prog 21 #[sv,v] w (XS w [] (fun v' D=> ∃bw,v'=vp bw 0∧WkP bw sv (newK l) D)):=by
 obtain⟨bx,bm',om',Qs,-,-⟩:=hS
 refine Rets.enterX Tryz.func21 rfl (rs:= [.tmp 4]) Tryz.results21 Tryz.ntmps21 (fun p hp=>by cases hp) (by simp[keys]) ?_
 refine kf ?_
 first|with_reducible refine ks [] @bS ?_|refine kp @bS ?_
 refine Ow.makeMapG (encK:=chKV) (encV:=blV) rfl rfl fun b1 o1 bJ aG jb=> ?_
 rw[List.nil_append]
 refine ko @bS ?_
 refine Ow.makeMapG (encK:=eC) (encV:=blV) rfl rfl fun b2 o2 ck ar qT=> ?_
 refine ko @bS ?_
 refine Ow.build (.agg #[sv, .slice none 0 0,vm b1,vm b2, .slice none 0 0]) rfl (FX sv b1 b2 _ _ Qs.sv) ?_
 refine ko @bS ?_
 refine Ow.box rfl rfl fun b3 cQ bA=> ?_
 simp only[bp,bj,cJ,aU,List.cons_append,List.nil_append]
 refine ko @bS ?_
 first|with_reducible refine ks [] @bS ?_|refine kp @bS ?_
 have jZ:b1<b2:=aP ck (by simp[keys])
 have mD:b1<b3:=aP cQ (by simp[keys])
 have mE:b2<b3:=aP cQ (by simp[keys])
 have p7:New w.heap.size [(b1,o1),(b2,o2),(b3,Obj.cells #[sv, .slice none 0 0,vm b1,vm b2, .slice none 0 0] 133 (0,0))]:=⟨aG,ar,bA,trivial⟩
 have Qo:WkP b3 sv mz [(b1,o1),(b2,o2),(b3,Obj.cells #[sv, .slice none 0 0,vm b1,vm b2, .slice none 0 0] 133 (0,0))]:=⟨.slice none 0 0,b1,o1,b2,o2, .slice none 0 0,[],[],⟨(by classical exact List.perm_iff_count.2 fun a=>by simp only[List.count_append,List.count_cons,List.count_nil]<;>omega), .nl,Gr.nl,jb,qT⟩⟩
 refine Ow.callX (X:= [(b1,o1),(b2,o2),(b3,Obj.cells #[sv, .slice none 0 0,vm b1,vm b2, .slice none 0 0] 133 (0,0))]) (Y:= []) (List.append_nil _).symm rfl rfl Tryz.call23 (fun w' a7 jf g6=>E_ b3 sv mz v l _ w' jf g6 Qo ((hR.ext (L:= [(b1,o1),(b2,o2),(b3,Obj.cells #[sv, .slice none 0 0,vm b1,vm b2, .slice none 0 0] 133 (0,0))]) (fun c hc=> .inr (p7.le c hc))).old a7 fun _ h=>h) (by decide) hl) (fun v4 D4 l8 iD=> ?_)
 obtain⟨rfl,qX⟩:=iD
 rw[List.append_nil]
 refine ko @bS ?_
 first|with_reducible refine ks [] @bS ?_|refine kp @bS ?_
 refine⟨_,(ke @bS), ?_⟩
 exact⟨(Ext.of_new p7).came0 l8,b3,rfl,qX⟩
def WkW (w:World) (bw:Nat) (sv:Value) (W:WkS):Prop:= ∃X,(∀p,p∈X→w.heap[p.1]? =some p.2)∧WkP bw sv W X
theorem WkA.has {w:World} {bw:Nat} {sv:Value} {W:WkS} {vq:Value} {bv:Nat} {ov:Obj} {bm:Nat} {om:Obj} {vl:Value} {Q M X:a6} (h:WkA bw sv W vq bv ov bm om vl Q M X) (hX: ∀p,p∈X→w.heap[p.1]? =some p.2):
  w.heap[bw]? =some (.cells #[sv,vq,vm bv,vm bm,vl] 133 (0,0))∧w.heap[bm]? =some om∧(∀b o,(b,o)∈M→w.heap[b]? =some o):=by
 have hp: ∀p,p∈ ((bw,Obj.cells #[sv,vq,vm bv,vm bm,vl] 133 (0,0)):: (bv,ov):: (bm,om):: (Q++M))→w.heap[p.1]? =some p.2:=fun p hp=>hX p (h.perm.mem_iff.2 hp)
 exact⟨hp (bw,_) (List.mem_cons_self),hp (bm,om) (by simp),fun b o hm=>hp (b,o) (by simp[hm])⟩
theorem PI (bw:Nat) (sv:Value) (W:WkS) (w:World) (hW:WkW w bw sv W) (hn:W.ms.Nodup) (hl:W.ms.length<1000000):
  Rets Tryz.prog 27 #[vp bw 0] w (XS w [] (fun v D=>GrI D 24 32 v (bZ W.ms).length ((bZ W.ms).map aJ).flatten)):=by
 obtain⟨X,hX,vq,bv,ov,bm,om,vl,Q,M,hA⟩:=hW
 obtain⟨h1,h2,-⟩:=hA.has hX
 refine Rets.enterX Tryz.func27 rfl (rs:= [.tmp 2]) Tryz.results27 Tryz.ntmps27 (fun p hp=>by cases hp) (by simp[keys]) ?_
 refine kf ?_
 first|with_reducible refine ks [] (And.intro @bS @h1) ?_|refine kp (And.intro @bS @h1) ?_
 refine Ow.callC rfl rfl Tryz.call75 (fun w' a7=>Kc bm om (e_ W.ms) w' ((a7.old bm (Array.getElem?_eq_some_iff.1 h2).1 (by simp[keys])).trans h2) hA.m (by rw[wI];exact hn) (by rw[sE];exact hl)) (fun B v2 D2 te ca cw bu=> ?_)
 rw[wI] at bu
 rw[List.nil_append]
 refine ko @bS ?_
 refine⟨_,(ke @bS), ?_⟩
 exact⟨Ext.of_new (cw.mono ca),bu⟩
structure MkMiG where
 k:Nat
 o:Obj
 DG:a6
theorem O9 (bw:Nat) (sv:Value) (W:WkS) (w:World) (hW:WkW w bw sv W) (hl:W.lk.length<1000000):
  Rets Tryz.prog 28 #[vp bw 0] w (XS w [] (fun v D=>GrI D 24 32 v (eH W.lk).length ((eH W.lk).map aJ).flatten)):=by
 obtain⟨X,hX,vq,bv,ov,bm,om,vl,Q,M,hA⟩:=hW
 obtain⟨h1,-,h3⟩:=hA.has hX
 have di:SlV 33 aB chd0 w vl W.lk:=hA.l.slM h3 rfl rfl bU
 obtain⟨rb,off,arr,E,fz,hr⟩:=di.row
 have ln:=fun x=>hr.len x
 have Ju:=(Array.getElem?_eq_some_iff.1 h1).1
 refine Rets.enterX Tryz.func28 rfl (rs:= [.tmp 2]) Tryz.results28 Tryz.ntmps28 (fun p hp=>by cases hp) (by simp[keys]) ?_
 refine kf ?_
 first|with_reducible refine ks [] @bS ?_|refine kp @bS ?_
 refine Ow.makeMapG (encK:=eC) (encV:=blV) rfl rfl fun b1 o1 bJ aG jb=> ?_
 rw[List.nil_append]
 have r1:aO w [(b1,o1)] bw=some (.cells #[sv,vq,vm bv,vm bm,vl] 133 (0,0)):=by rw[dD _ _ _ _ _ (by omega),wB];exact h1
 refine ko (And.intro @bS (And.intro @h1 (@ln))) ?_
 first|with_reducible refine ks [] (And.intro @bS (And.intro @h1 (@ln))) ?_|refine kp (And.intro @bS (And.intro @h1 (@ln))) ?_
 refine Cw.loopG (G:=MkMiG) [15,16,17,5,18,19,20,21,14] (fun g=> [(14,vi g.k)]) (fun g=>(b1,g.o)::g.DG) (fun g=>g.k≤W.lk.length∧gD eC blV g.o (e_ (jW (W.lk.take g.k)))∧New w.heap.size g.DG) (fun g=>W.lk.length - g.k) ⟨0,o1,[]⟩ rfl rfl ?_ ?_
 ·exact⟨Nat.zero_le _,jb,trivial⟩
 intro g j hg
 refine kv ?_
 obtain⟨k,o,DG⟩:=g
 simp only at hg ⊢
 obtain⟨hk,hM,hN⟩:=hg
 by_cases aC:k<W.lk.length
 ·have jn:=hr.lt (by omega)
  have ix:=hr.idx true k aC
  have ld:=HY hr aC
  have kE:New w.heap.size ((b1,o)::DG):=⟨aG,hN⟩
  have rd:aO w ((b1,o)::DG) rb=some (.cells arr E fz):=by rw[jT (kE.not jn)];exact hr.has (by omega)
  have dj:=StP.take_snoc (z:=chd0) aC
  have cK:decide ((k:Int)< (W.lk.length:Int))=true:=decide_eq_true (by omega)
  generalize W.lk.getD k chd0=c at*
  have Mx:=c.id.h
  first|with_reducible refine ks [] (And.intro @bS (And.intro @cK (And.intro @ix (And.intro @rd (@ld))))) ?_|refine kp (And.intro @bS (And.intro @cK (And.intro @ix (And.intro @rd (@ld))))) ?_
  refine Ow.alloc rfl rfl d_ fun b5 cx eF=> ?_
  simp only[aU,List.nil_append,List.cons_append]
  have wg:b1<b5:=aP cx (by simp[keys])
  refine Ow.permL (M:=(b5, .cells (aB chd0).toArray 59 (0,0)):: (b1,o)::DG) (by classical exact List.perm_iff_count.2 fun a=>by simp only[List.count_append,List.count_cons,List.count_nil]<;>omega) ?_
  refine ko @bS ?_
  first|with_reducible refine ks [] @bS ?_|refine kp @bS ?_
  refine Ow.mapUpdateG (encK:=eC) (encV:=blV) (k:=c.id) (v:=true) rfl rfl Tryz.underlying131 rW rfl rfl rfl (by rw[ii _ _ _ _ (by omega)];exact eA _ _ _) hM (fun o2 pX=> ?_)
  rw[Fb] at pX
  rw[jU _ _ _ _ _ (by omega),j1]
  refine Ow.permL (M:=(b1,o2):: (b5, .cells (aB c).toArray 59 (0,0))::DG) (by classical exact List.perm_iff_count.2 fun a=>by simp only[List.count_append,List.count_cons,List.count_nil]<;>omega) ?_
  refine ko @bS ?_
  first|with_reducible refine ks [] @bS ?_|refine kp @bS ?_
  refine Again.mk ⟨k+1,o2,(b5, .cells (aB c).toArray 59 (0,0))::DG⟩ (by show W.lk.length - (k+1)<W.lk.length - k;omega) ⟨aC, ?_,⟨eF,hN⟩⟩ rfl rfl
  show gD eC blV o2 (e_ (jW (W.lk.take (k+1))))
  rw[dj,C1]
  exact pX
 ·obtain rfl:k=W.lk.length:=by omega
  rw[List.take_length] at hM
  have cK:decide ((W.lk.length:Int)< (W.lk.length:Int))=false:=by simp
  have iu:=CC W.lk
  first|with_reducible refine ks [] (And.intro @bS @cK) ?_|refine kp (And.intro @bS @cK) ?_
  refine Ow.callC rfl rfl Tryz.call75 (fun w' a7=>Kc b1 o (e_ (jW W.lk)) w' (a7.has _ _ List.mem_cons_self) hM (by rw[wI];exact AB _) (by rw[sE];omega)) (fun B v2 D2 te ca cw bu=> ?_)
  rw[wI,E9] at bu
  refine ko @bS ?_
  refine⟨_,(ke @bS), ?_⟩
  exact⟨Ext.of_new ⟨aG,hN.app (cw.mono ca)⟩,bu.mono fun p hp=>List.mem_cons_of_mem _ (List.mem_append_right _ hp)⟩
end Go.Proofs
end
