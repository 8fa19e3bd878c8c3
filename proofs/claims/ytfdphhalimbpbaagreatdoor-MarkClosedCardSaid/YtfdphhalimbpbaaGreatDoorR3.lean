/-
  Part 3 of the walk: contracts of the functions that the law reaches, and the calculus they stand on.
  No conditions.
-/
import Derived.Test.YtfdphhalimbpbaaGreatDoorR2
import Derived.Lib.Small
import Derived.Lib.Walk
import Derived.Lib.Bytealg
import Derived.Sort.Grow
import Derived.Deep.Draws
import Derived.Deep.QuietTactic
import Derived.Shelf.SlSortCmp.NoneTotal
import Derived.Shelf.SlLaysF0
import Derived.Ground.SlsfProg
namespace Go.Dig
open Go.Sx
def rgt (x:UInt32) (n:UInt64):UInt32:=qn_ x n.toNat|||jB_ x (32 - n).toNat
def rol (x:UInt32) (k:Int):UInt32:=jB_ x (UInt64.ofInt k&&&31).toNat|||qn_ x (32 - (UInt64.ofInt k&&&31)).toNat
def afN_ (x:UInt32) (a b c:Int):UInt32:=rol x (-a)^^^rol x (-b)^^^qn_ x c.toNat
def aeO_ (x:UInt32) (a b c:Int):UInt32:=rol x (-a)^^^rol x (-b)^^^rol x (-c)
def S1 (e:UInt32):UInt32:=rgt e 6^^^rgt e 11^^^rgt e 25
def S0 (a:UInt32):UInt32:=rgt a 2^^^rgt a 13^^^rgt a 22
def s1 (y:UInt32):UInt32:=rgt y 17^^^rgt y 19^^^qn_ y 10
def s0 (x:UInt32):UInt32:=rgt x 7^^^rgt x 18^^^qn_ x 3
theorem rol6 (x:UInt32):rol x (-6)=rgt x 6:=by unfold rol rgt;rw[UInt32.or_comm];rfl
theorem amz_ (x:UInt32):rol x (-11)=rgt x 11:=by unfold rol rgt;rw[UInt32.or_comm];rfl
theorem amA_ (x:UInt32):rol x (-25)=rgt x 25:=by unfold rol rgt;rw[UInt32.or_comm];rfl
theorem rol2 (x:UInt32):rol x (-2)=rgt x 2:=by unfold rol rgt;rw[UInt32.or_comm];rfl
theorem amU_ (x:UInt32):rol x (-13)=rgt x 13:=by unfold rol rgt;rw[UInt32.or_comm];rfl
theorem amr_ (x:UInt32):rol x (-22)=rgt x 22:=by unfold rol rgt;rw[UInt32.or_comm];rfl
theorem amu_ (x:UInt32):rol x (-17)=rgt x 17:=by unfold rol rgt;rw[UInt32.or_comm];rfl
theorem amW_ (x:UInt32):rol x (-19)=rgt x 19:=by unfold rol rgt;rw[UInt32.or_comm];rfl
theorem rol7 (x:UInt32):rol x (-7)=rgt x 7:=by unfold rol rgt;rw[UInt32.or_comm];rfl
theorem amK_ (x:UInt32):rol x (-18)=rgt x 18:=by unfold rol rgt;rw[UInt32.or_comm];rfl
theorem amN_ (x:UInt32):aeO_ x 6 11 25=S1 x:=by unfold aeO_ S1;rw[rol6,amz_,amA_]
theorem amq_ (x:UInt32):aeO_ x 2 13 22=S0 x:=by unfold aeO_ S0;rw[rol2,amU_,amr_]
theorem amH_ (x:UInt32):afN_ x 17 19 10=s1 x:=by unfold afN_ s1;rw[amu_,amW_];rfl
theorem amG_ (x:UInt32):afN_ x 7 18 3=s0 x:=by unfold afN_ s0;rw[rol7,amK_];rfl
def kL:List UInt32:= [1116352408,1899447441,3049323471,3921009573,961987163,1508970993,2453635748,2870763221,3624381080,310598401,607225278,1426881987,1925078388,2162078206,2614888103,3248222580,3835390401,4022224774,264347078,604807628,770255983,1249150122,1555081692,1996064986,2554220882,2821834349,2952996808,3210313671,3336571891,3584528711,113926993,338241895,666307205,773529912,1294757372,1396182291,1695183700,1986661051,2177026350,2456956037,2730485921,2820302411,3259730800,3345764771,3516065817,3600352804,4094571909,275423344,430227734,506948616,659060556,883997877,958139571,1322822218,1537002063,1747873779,1955562222,2024104815,2227730452,2361852424,2428436474,2756734187,3204031479,3329325298]
def initL:List UInt32:= [1779033703,3144134277,1013904242,2773480762,1359893119,2600822924,528734635,1541459225]
def ahM_ (b:List UInt8) (i:Nat):UInt32:=
 UInt32.ofNat (b.getD (4*i) 0).toNat*16777216+UInt32.ofNat (b.getD (4*i+1) 0).toNat*65536+UInt32.ofNat (b.getD (4*i+2) 0).toNat*256+UInt32.ofNat (b.getD (4*i+3) 0).toNat
def XX_ (b:List UInt8) (i:Nat):List UInt32:=(List.range 64).map fun j=>if j<i then ahM_ b j else 0
theorem kA_ (b:List UInt8) (i:Nat): (XX_ b i).length=64:=by simp[XX_]
theorem VC_ (b:List UInt8) (i:Nat): (XX_ b i).set i (ahM_ b i)=XX_ b (i+1):=by
 apply List.ext_getElem
 ·simp[XX_]
 intro k hk1 hk2
 have hk:k<64:=by simpa [XX_] using hk2
 rw[List.getElem_set]
 by_cases h:i=k
 ·subst h;simp[XX_]
 ·rw[if_neg h]
  simp only[XX_,List.getElem_map,List.getElem_range]
  by_cases h1:k<i
  ·rw[if_pos h1,if_pos (by omega)]
  ·rw[if_neg h1,if_neg (by omega)]
theorem VK_ (b:List UInt8):XX_ b 0=List.replicate 64 0:=by
 apply List.ext_getElem
 ·simp[XX_]
 intro k hk1 hk2
 simp only[XX_,List.getElem_map,List.getElem_range,List.getElem_replicate]
 rw[if_neg (by omega)]
def aiv_ (w:List UInt32) (g:Nat):List UInt32:=w.set g (s1 (w.getD (g - 2) 0)+w.getD (g - 7) 0+s0 (w.getD (g - 15) 0)+w.getD (g - 16) 0)
def wGo (w:List UInt32):Nat→List UInt32
 |0=>w
 |n+1=>aiv_ (wGo w n) (16+n)
theorem XN_ (w:List UInt32) (n:Nat): (wGo w n).length=w.length:=by
 induction n with
 |zero=>rfl
 |succ n ih=>simp[wGo,aiv_,ih]
def Vx_ (b:List UInt8):List UInt32:=wGo (XX_ b 16) 48
theorem QE_ (b:List UInt8): (Vx_ b).length=64:=by rw[Vx_,XN_,kA_]
def akF_ (s:List UInt32) (k w:UInt32):List UInt32:=
 let t:=s.getD 7 0+S1 (s.getD 4 0)+ (s.getD 4 0&&&s.getD 5 0||| ~~~ s.getD 4 0&&&s.getD 6 0)+k+w
 let u:=S0 (s.getD 0 0)+ (s.getD 0 0&&&s.getD 1 0|||s.getD 0 0&&&s.getD 2 0|||s.getD 1 0&&&s.getD 2 0)
 [t+u,s.getD 0 0,s.getD 1 0,s.getD 2 0,s.getD 3 0+t,s.getD 4 0,s.getD 5 0,s.getD 6 0]
def rGo (st w:List UInt32):Nat→List UInt32
 |0=>st
 |n+1=>akF_ (rGo st w n) (kL.getD n 0) (w.getD n 0)
theorem adg_ (st w:List UInt32) (n:Nat) (h:st.length=8): (rGo st w n).length=8:=by
 cases n with
 |zero=>exact h
 |succ n=>rfl
def xa_ (st s:List UInt32) (i:Nat):List UInt32:=(List.range 8).map fun j=>if j<i then st.getD j 0+s.getD j 0 else st.getD j 0
theorem wV_ (st s:List UInt32) (i:Nat): (xa_ st s i).length=8:=by simp[xa_]
theorem adV_ (st s:List UInt32) (i j:Nat) (hj:j<8): (xa_ st s i).getD j 0=if j<i then st.getD j 0+s.getD j 0 else st.getD j 0:=by
 simp[xa_,List.getD_eq_getElem?_getD,hj]
theorem abi_ (st s:List UInt32) (i:Nat): (xa_ st s i).set i (st.getD i 0+s.getD i 0)=xa_ st s (i+1):=by
 apply List.ext_getElem
 ·simp[xa_]
 intro k hk1 hk2
 rw[List.getElem_set]
 by_cases h:i=k
 ·subst h;simp[xa_]
 ·rw[if_neg h]
  simp only[xa_,List.getElem_map,List.getElem_range]
  by_cases h1:k<i
  ·rw[if_pos h1,if_pos (by omega)]
  ·rw[if_neg h1,if_neg (by omega)]
theorem aay_ (st s:List UInt32) (h:st.length=8):xa_ st s 0=st:=by
 apply List.ext_getElem
 ·simp[xa_,h]
 intro k hk1 hk2
 simp[xa_,List.getD_eq_getElem?_getD,hk2]
def comp (st:List UInt32) (b:List UInt8):List UInt32:=xa_ st (rGo st (Vx_ b) 64) 8
theorem wf_ (st:List UInt32) (b:List UInt8): (comp st b).length=8:=wV_ _ _ _
def vX_ (st:List UInt32) (m:List UInt8):Nat→List UInt32
 |0=>st
 |n+1=>comp (vX_ st m n) ((m.drop (64*n)).take 64)
theorem VO_ (st:List UInt32) (m:List UInt8) (n:Nat) (h:st.length=8): (vX_ st m n).length=8:=by
 cases n with
 |zero=>exact h
 |succ n=>exact wf_ _ _
theorem V4_ (st:List UInt32) (m x:List UInt8) (n:Nat) (h:64*n≤m.length):vX_ st (m++x) n=vX_ st m n:=by
 induction n with
 |zero=>rfl
 |succ n ih=>
  simp only[vX_]
  rw[ih (by omega),List.drop_append_of_le_length (by omega),List.take_append_of_le_length (by simp;omega)]
def kS_ (bg:Bool) (st:List UInt32) (rest:List UInt8) (many:Int) (taken:UInt64):List Value:=
 .bool bg:: (st.map (fun x=>Value.int .u32 (x.toNat:Int))++ (rest.map (fun x=>Value.int .u8 (x.toNat:Int))++ [vi many,v64 taken]))
def zJ_ (bg:Bool) (st:List UInt32) (rest:List UInt8) (many:Int) (taken:UInt64):Array Value:=(kS_ bg st rest many taken).toArray
section
variable {bg:Bool} {st:List UInt32} {rest:List UInt8} {many:Int} {taken:UInt64} {E:TypeId}
theorem jj_ (h:st.length=8∧rest.length=64): (zJ_ bg st rest many taken).size=75:=by simp[zJ_,kS_,h]
theorem aeT_: (zJ_ bg st rest many taken)[0]? =some (.bool bg):=rfl
theorem afH_ (k:Nat) (hk:k<8) (h:st.length=8): (zJ_ bg st rest many taken)[1+k]? =some (v32 (st.getD k 0)):=by
 have:1+k=k+1:=by omega
 rw[this,zJ_,List.getElem?_toArray,kS_,List.getElem?_cons_succ,List.getElem?_append_left (by simp;omega)]
 simp[v32,List.getD_eq_getElem?_getD,h,hk]
theorem Wy_ (k:Nat) (hk:k<64) (h:st.length=8∧rest.length=64): (zJ_ bg st rest many taken)[9+k]? =some (v8 (rest.getD k 0)):=by
 have:9+k=(8+k)+1:=by omega
 rw[this,zJ_,List.getElem?_toArray,kS_,List.getElem?_cons_succ,List.getElem?_append_right (by simp;omega),List.getElem?_append_left (by simp;omega)]
 have e:8+k - (List.map (fun x:UInt32=>Value.int .u32 (x.toNat:Int)) st).length=k:=by simp;omega
 rw[e]
 simp[v8,List.getD_eq_getElem?_getD,h,hk]
theorem ae7_ (h:st.length=8∧rest.length=64): (zJ_ bg st rest many taken)[73]? =some (vi many):=by
 rw[zJ_,List.getElem?_toArray,kS_,List.getElem?_cons_succ,List.getElem?_append_right (by simp;omega),List.getElem?_append_right (by simp;omega)]
 simp[h]
theorem afo_ (h:st.length=8∧rest.length=64): (zJ_ bg st rest many taken)[74]? =some (v64 taken):=by
 rw[zJ_,List.getElem?_toArray,kS_,List.getElem?_cons_succ,List.getElem?_append_right (by simp;omega),List.getElem?_append_right (by simp;omega)]
 simp[h]
theorem vu_ (n:Nat):zv_ (some (false,n)) (some (.cells (zJ_ bg st rest many taken) E (0,0))) 0=some (.bool bg):=aeT_
theorem vH_ (n k:Nat) (h:k<8∧st.length=8):zv_ (some (false,n)) (some (.cells (zJ_ bg st rest many taken) E (0,0))) (1+k)=some (v32 (st.getD k 0)):=afH_ k h.1 h.2
theorem vs_ (n k:Nat) (h:k<64∧st.length=8∧rest.length=64):zv_ (some (false,n)) (some (.cells (zJ_ bg st rest many taken) E (0,0))) (9+k)=some (v8 (rest.getD k 0)):=Wy_ k h.1 h.2
theorem ks_ (n j k:Nat) (h:j+k<64∧st.length=8∧rest.length=64):zv_ (some (false,n)) (some (.cells (zJ_ bg st rest many taken) E (0,0))) (9+j+k)=some (v8 (rest.getD (j+k) 0)):=by
 rw[Nat.add_assoc];exact Wy_ (j+k) h.1 h.2
theorem vC_ (n:Nat) (h:st.length=8∧rest.length=64):zv_ (some (false,n)) (some (.cells (zJ_ bg st rest many taken) E (0,0))) 73=some (vi many):=ae7_ h
theorem vI_ (n:Nat) (h:st.length=8∧rest.length=64):zv_ (some (false,n)) (some (.cells (zJ_ bg st rest many taken) E (0,0))) 74=some (v64 taken):=afo_ h
theorem kK_ (h:st.length=8∧rest.length=64):zv_ (some (true,8)) (some (.cells (zJ_ bg st rest many taken) E (0,0))) 1=some (.agg (a32 st)):=by
 have hs:1+8≤ (zJ_ bg st rest many taken).size:=by rw[jj_ h];omega
 simp only[zv_,hs, ↓reduceIte]
 congr 2
 rw[zJ_,a32,kS_]
 simp only[List.extract_toArray,List.extract_eq_take_drop]
 congr 1
 simp[h]
theorem xM_ (h:st.length=8∧rest.length=64):zv_ (some (true,75)) (some (.cells (zJ_ bg st rest many taken) E (0,0))) 0=some (.agg (zJ_ bg st rest many taken)):=vx_ _ _ _ _ (jj_ h)
theorem aiE_: (zJ_ bg st rest many taken).toList.all Value.oneCell'=true:=by
 simp[zJ_,kS_,Value.oneCell',vi,v64]
theorem jE_ (old:Array Value) (h:st.length=8∧rest.length=64∧old.size=75):zt_ (some (true,75)) (some (.cells old E (0,0))) 0 (.agg (zJ_ bg st rest many taken))=some (.cells (zJ_ bg st rest many taken) E (0,0)):=
 wp_ _ _ _ _ _ ⟨jj_ ⟨h.1,h.2.1⟩,h.2.2⟩ aiE_
theorem k5_ (i:Nat) (v:Value): (zJ_ bg st rest many taken).setIfInBounds i v=((kS_ bg st rest many taken).set i v).toArray:=by simp[zJ_]
theorem kB_ (b:Bool) (h:st.length=8∧rest.length=64):zt_ (some (false,1)) (some (.cells (zJ_ bg st rest many taken) E (0,0))) 0 (.bool b)=some (.cells (zJ_ b st rest many taken) E (0,0)):=by
 rw[xB_ _ _ _ _ _ (by rw[jj_ h];omega) rfl rfl,k5_];rfl
theorem ko_ (k:Nat) (x:UInt32) (h:k<8∧st.length=8∧rest.length=64):zt_ (some (false,1)) (some (.cells (zJ_ bg st rest many taken) E (0,0))) (1+k) (v32 x)=some (.cells (zJ_ bg (st.set k x) rest many taken) E (0,0)):=by
 have e:1+k=k+1:=by omega
 rw[xB_ _ _ _ _ _ (by rw[jj_ h.2];omega) rfl rfl,k5_,e,kS_,List.set_cons_succ,List.set_append_left _ _ (by simp;omega)]
 simp only[zJ_,kS_,List.map_set];rfl
theorem kH_ (k:Nat) (x:UInt8) (h:k<64∧st.length=8∧rest.length=64):zt_ (some (false,1)) (some (.cells (zJ_ bg st rest many taken) E (0,0))) (9+k) (v8 x)=some (.cells (zJ_ bg st (rest.set k x) many taken) E (0,0)):=by
 have e:9+k=(8+k)+1:=by omega
 rw[xB_ _ _ _ _ _ (by rw[jj_ h.2];omega) rfl rfl,k5_,e,kS_,List.set_cons_succ,List.set_append_right _ _ (by simp;omega),List.set_append_left _ _ (by simp;omega)]
 have e2:8+k - (List.map (fun x:UInt32=>Value.int .u32 (x.toNat:Int)) st).length=k:=by simp;omega
 rw[e2]
 simp only[zJ_,kS_,List.map_set];rfl
theorem kr_ (m:Int) (h:st.length=8∧rest.length=64):zt_ (some (false,1)) (some (.cells (zJ_ bg st rest many taken) E (0,0))) 73 (vi m)=some (.cells (zJ_ bg st rest m taken) E (0,0)):=by
 rw[xB_ _ _ _ _ _ (by rw[jj_ h];omega) rfl rfl,k5_,kS_,List.set_cons_succ,List.set_append_right _ _ (by simp;omega),List.set_append_right _ _ (by simp;omega)]
 simp[zJ_,kS_,h]
theorem kq_ (t:UInt64) (h:st.length=8∧rest.length=64):zt_ (some (false,1)) (some (.cells (zJ_ bg st rest many taken) E (0,0))) 74 (v64 t)=some (.cells (zJ_ bg st rest many t) E (0,0)):=by
 rw[xB_ _ _ _ _ _ (by rw[jj_ h];omega) rfl rfl,k5_,kS_,List.set_cons_succ,List.set_append_right _ _ (by simp;omega),List.set_append_right _ _ (by simp;omega)]
 simp[zJ_,kS_,h]
theorem xU_ (st':List UInt32) (h:st.length=8∧rest.length=64∧st'.length=8):zt_ (some (true,8)) (some (.cells (zJ_ bg st rest many taken) E (0,0))) 1 (.agg (a32 st'))=some (.cells (zJ_ bg st' rest many taken) E (0,0)):=by
 have hs:1+8≤ (zJ_ bg st rest many taken).size:=by rw[jj_ ⟨h.1,h.2.1⟩];omega
 have hp:ky_ (zJ_ bg st rest many taken) 1 (a32 st').toList=zJ_ bg st' rest many taken:=by
  have:=Kd_ (a32 st').toList [.bool bg] (st.map fun x=>Value.int .u32 (x.toNat:Int)) (rest.map (fun x=>Value.int .u8 (x.toNat:Int))++ [vi many,v64 taken]) (by simp[a32,h])
  simpa [zJ_,kS_,a32] using this
 have h1: (a32 st').size=8:=by rw[wD_];exact h.2.2
 simp only[zt_,ze_,h1,hs,Nat.le_refl,true_or,afk_,and_self, ↓reduceIte,hp]
end
def acc (b:List UInt8) (i:Nat):Nat→UInt32
 |0=>0
 |k+1=>jB_ (acc b i k) 8|||UInt32.ofNat (b.getD (4*i+k) 0).toNat
theorem Z7_ (x:UInt32) (c:UInt8) (h:x.toNat<16777216): (jB_ x 8|||UInt32.ofNat c.toNat).toNat=x.toNat*256+c.toNat:=by
 have hc:=c.toNat_lt
 rw[UInt32.toNat_or,jB_,UInt32.toNat_ofNat',UInt32.toNat_ofNat',Nat.mod_eq_of_lt (by omega),Nat.mod_eq_of_lt (by omega),←Nat.shiftLeft_eq,←Nat.shiftLeft_add_eq_or_of_lt (by omega:c.toNat<2^8),Nat.shiftLeft_eq]
theorem ahl_ (b:List UInt8) (i:Nat):acc b i 4=ahM_ b i:=by
 have h0:=(b.getD (4*i) 0).toNat_lt
 have h1:=(b.getD (4*i+1) 0).toNat_lt
 have h2:=(b.getD (4*i+2) 0).toNat_lt
 have h3:=(b.getD (4*i+3) 0).toNat_lt
 have e1: (acc b i 1).toNat=(b.getD (4*i) 0).toNat:=by
  have:=Z7_ 0 (b.getD (4*i+0) 0) (by decide)
  simpa [acc] using this
 have l1: (acc b i 1).toNat<16777216:=by omega
 have e2: (acc b i 2).toNat=(acc b i 1).toNat*256+ (b.getD (4*i+1) 0).toNat:=Z7_ _ _ l1
 have l2: (acc b i 2).toNat<16777216:=by omega
 have e3: (acc b i 3).toNat=(acc b i 2).toNat*256+ (b.getD (4*i+2) 0).toNat:=Z7_ _ _ l2
 have l3: (acc b i 3).toNat<16777216:=by omega
 have e4: (acc b i 4).toNat=(acc b i 3).toNat*256+ (b.getD (4*i+3) 0).toNat:=Z7_ _ _ l3
 apply UInt32.toNat.inj
 rw[e4,e3,e2,e1]
 unfold ahM_
 simp only[UInt32.toNat_add,UInt32.toNat_mul,UInt32.toNat_ofNat']
 have k1: (16777216:UInt32).toNat=16777216:=rfl
 have k2: (65536:UInt32).toNat=65536:=rfl
 have k3: (256:UInt32).toNat=256:=rfl
 rw[k1,k2,k3]
 omega
theorem aeu_ (b:List UInt8) (g:Nat):XX_ b g=(XX_ b g).set g (acc b g 0):=by
 apply List.ext_getElem
 ·simp
 intro k hk1 hk2
 rw[List.getElem_set]
 by_cases h:g=k
 ·subst h;simp[XX_,acc]
 ·rw[if_neg h]
theorem q1_ {α:Type} (l:List α) (i:Nat) (x d:α) (h:i<l.length): (l.set i x).getD i d=x:=by
 simp[List.getD_eq_getElem?_getD,h]
def wG (b:List UInt8) (g:Nat):List UInt32:=wGo (XX_ b 16) (g - 16)
theorem We_ (b:List UInt8) (g:Nat): (wG b g).length=64:=by rw[wG,XN_,kA_]
theorem aeU_ (b:List UInt8) (g:Nat) (h:16≤g):wG b (g+1)=aiv_ (wG b g) g:=by
 unfold wG
 have:g+1 - 16=(g - 16)+1:=by omega
 rw[this]
 show aiv_ _ (16+ (g - 16))=_
 rw[show 16+ (g - 16)=g from by omega]
theorem ajq_ (b:List UInt8):wG b 64=Vx_ b:=rfl
theorem acu_ (b:List UInt8):XX_ b 16=wG b 16:=rfl
theorem alS_ (a b c:UInt32): (a&&&b^^^ ~~~a&&&c)=(a&&&b||| ~~~a&&&c):=by
 apply UInt32.toBitVec_inj.1
 simp only[UInt32.toBitVec_xor,UInt32.toBitVec_or,UInt32.toBitVec_and,UInt32.toBitVec_not]
 ext i hi
 simp only[BitVec.getElem_xor,BitVec.getElem_or,BitVec.getElem_and,BitVec.getElem_not]
 cases a.toBitVec[i]<;>simp
theorem akt_ (a b c:UInt32): (a&&&b^^^a&&&c^^^b&&&c)=(a&&&b|||a&&&c|||b&&&c):=by
 apply UInt32.toBitVec_inj.1
 simp only[UInt32.toBitVec_xor,UInt32.toBitVec_or,UInt32.toBitVec_and]
 ext i hi
 simp only[BitVec.getElem_xor,BitVec.getElem_or,BitVec.getElem_and]
 cases a.toBitVec[i]<;>cases b.toBitVec[i]<;>simp
def Glob (w:World):Prop:= ∃e0 e1 f0 f1,w.heap[0]? =some (.cells (a32 initL) e0 f0)∧w.heap[1]? =some (.cells (a32 kL) e1 f1)
theorem Glob.of {w0 w:World} {L:zd_} (hg:Glob w0) (h:Hp w0 L w) (hk: ∀b,b∈keys L→1<b):Glob w:=by
 obtain⟨e0,e1,f0,f1,h0,h1⟩:=hg
 refine⟨e0,e1,f0,f1, ?_, ?_⟩
 ·rw[h.old 0 (Array.getElem?_eq_some_iff.1 h0).1 (fun hm=>by have:=hk 0 hm;omega)];exact h0
 ·rw[h.old 1 (Array.getElem?_eq_some_iff.1 h1).1 (fun hm=>by have:=hk 1 hm;omega)];exact h1
structure Hs where
 st:List UInt32
 rest:List UInt8
 many:Nat
structure Hs.Ok (s:Hs):Prop where
 st:s.st.length=8
 rest:s.rest.length=64
 many:s.many<64
def JE_ (s:Hs) (x:UInt8):Hs:=
 if s.many+1=64 then⟨comp s.st (s.rest.set s.many x),s.rest.set s.many x,0⟩ else⟨s.st,s.rest.set s.many x,s.many+1⟩
theorem X7_ {s:Hs} (x:UInt8) (h:s.Ok): (JE_ s x).Ok:=by
 unfold JE_
 split
 ·exact⟨wf_ _ _,by simp[h.rest],by show(0:Nat)<64;omega⟩
 ·exact⟨h.st,by simp[h.rest],by show s.many+1<64;have:=h.many;omega⟩
def qE_ (s:Hs) (l:List UInt8):Hs:=l.foldl JE_ s
theorem kI_ {s:Hs} (l:List UInt8) (h:s.Ok): (qE_ s l).Ok:=by
 induction l generalizing s with
 |nil=>exact h
 |cons x r ih=>exact ih (X7_ x h)
theorem ju_ (s:Hs) (a b:List UInt8):qE_ s (a++b)=qE_ (qE_ s a) b:=List.foldl_append
theorem x1_ {α:Type} (l:List α) (g:Nat) (d:α) (h:g<l.length):l.take (g+1)=l.take g++ [l.getD g d]:=by
 rw[List.take_add_one]
 simp[List.getD_eq_getElem?_getD,h]
theorem XH_ (s:Hs) (l:List UInt8) (g:Nat) (h:g<l.length):qE_ s (l.take (g+1))=JE_ (qE_ s (l.take g)) (l.getD g 0):=by
 rw[x1_ l g 0 h,ju_];rfl
def vR_ (bg:Bool) (s:Hs):Hs:=if bg then s else{s with st:=initL}
theorem Vq_ {s:Hs} (bg:Bool) (h:s.Ok): (vR_ bg s).Ok:=by
 unfold vR_;split
 ·exact h
 ·exact⟨rfl,h.rest,h.many⟩
def xX_ (s:Hs) (taken:UInt64):Array Value:=zJ_ true s.st s.rest s.many taken
def kk_ (t:UInt64) (l:List (List UInt8)):UInt64:=l.foldl (fun t a=>t+UInt64.ofNat a.length) t
theorem abg_ (t:UInt64) (l:List (List UInt8)) (g:Nat) (h:g<l.length):kk_ t (l.take (g+1))=kk_ t (l.take g)+UInt64.ofNat (l.getD g []).length:=by
 rw[x1_ l g [] h,kk_,List.foldl_append];rfl
theorem V7_ (l:List (List UInt8)) (g:Nat) (h:g<l.length): (l.take (g+1)).flatten=(l.take g).flatten++l.getD g []:=by
 rw[x1_ l g [] h,List.flatten_append];simp
theorem loadV_one (cs:Array Value) (E:TypeId) (fz:Nat×Nat) (n i:Nat):zv_ (some (false,n)) (some (.cells cs E fz)) i=cs[i]? :=(rfl)
end Go.Dig
section
open Go Go.Proofs Go.Sx Go.Dig
namespace Go.Proofs
set_option maxRecDepth 10000
set_option maxHeartbeats 4000000
set_option linter.unusedSimpArgs false
def GlobE (w:World):Prop:= ∃e0 e1 f0 f1,w.heap[2]? =some (.cells (a32 initL) e0 f0)∧w.heap[3]? =some (.cells (a32 kL) e1 f1)
theorem GlobE.of {w0 w:World} {L:zd_} (hg:GlobE w0) (h:Hp w0 L w) (hk: ∀b,b∈keys L→3<b):GlobE w:=by
 obtain⟨e0,e1,f0,f1,h0,h1⟩:=hg
 refine⟨e0,e1,f0,f1, ?_, ?_⟩
 ·rw[h.old _ (Array.getElem?_eq_some_iff.1 h0).1 (fun hm=>by have:=hk _ hm;omega)];exact h0
 ·rw[h.old _ (Array.getElem?_eq_some_iff.1 h1).1 (fun hm=>by have:=hk _ hm;omega)];exact h1
theorem vd_ (x:UInt32) (k:Int) (w:World):Rets Tryz.prog 316 #[v32 x,vi k] w (fun v D=>v=v32 (rol x k)∧D= []):=by
 refine Rets.enterV Tryz.func316 rfl (rs:= [.tmp 4]) Tryz.results316 Tryz.ntmps316 ?_
 refine kf ?_
 first|with_reducible refine ks [] @Nat.add_zero ?_|refine kp @Nat.add_zero ?_
 refine⟨_,(ke @Nat.add_zero),trivial, ?_⟩
 rfl
theorem qK_ (x:UInt32) (n:UInt64) (w:World):Rets Tryz.prog 196 #[v32 x,v64 n] w (fun v D=>v=v32 (rgt x n)∧D= []):=by
 refine Rets.enterV Tryz.func196 rfl (rs:= [.tmp 4]) Tryz.results196 Tryz.ntmps196 ?_
 refine kf ?_
 first|with_reducible refine ks [] @Nat.add_zero ?_|refine kp @Nat.add_zero ?_
 refine⟨_,(ke @Nat.add_zero),trivial, ?_⟩
 rfl
theorem V1_ (x:UInt32) (a b c:Int) (ha:0≤a∧a≤64) (hb:0≤b∧b≤64) (hc:0≤c∧c≤64) (w:World):Rets Tryz.prog 299 #[v32 x,vi a,vi b,vi c] w (fun v D=>v=v32 (afN_ x a b c)∧D= []):=by
 refine Rets.enterV Tryz.func299 rfl (rs:= [.tmp 8]) Tryz.results299 Tryz.ntmps299 ?_
 refine kf ?_
 first|with_reducible refine ks [] @Nat.add_zero ?_|refine kp @Nat.add_zero ?_
 refine Cw.regionO [0,1,2,4,5,6,9,10,11,3,7,8,12,13] [] rfl (by kernel_rfl) (by kernel_rfl) ?_
 simp only[zg_, ↓zc_, ↓za_, ↓zl_, ↓zk_,zb_]
 refine kq @Nat.add_zero ?_
 refine Ow.callFV rfl Tryz.call316 (fun w' hw'=>vd_ _ _ w') ?_
 refine kq @Nat.add_zero ?_
 refine Ow.callFV rfl Tryz.call316 (fun w' hw'=>vd_ _ _ w') ?_
 refine kq @Nat.add_zero ?_
 first|with_reducible refine ks [] @Nat.add_zero ?_|refine kp @Nat.add_zero ?_
 refine⟨_,(ke @Nat.add_zero),trivial, ?_⟩
 rfl
theorem WF_ (x:UInt32) (a b c:Int) (ha:0≤a∧a≤64) (hb:0≤b∧b≤64) (hc:0≤c∧c≤64) (w:World):Rets Tryz.prog 300 #[v32 x,vi a,vi b,vi c] w (fun v D=>v=v32 (aeO_ x a b c)∧D= []):=by
 refine Rets.enterV Tryz.func300 rfl (rs:= [.tmp 8]) Tryz.results300 Tryz.ntmps300 ?_
 refine kf ?_
 first|with_reducible refine ks [] @Nat.add_zero ?_|refine kp @Nat.add_zero ?_
 refine Ow.callFV rfl Tryz.call316 (fun w' hw'=>vd_ _ _ w') ?_
 refine ko @Nat.add_zero ?_
 refine Ow.callFV rfl Tryz.call316 (fun w' hw'=>vd_ _ _ w') ?_
 refine ko @Nat.add_zero ?_
 refine Ow.callFV rfl Tryz.call316 (fun w' hw'=>vd_ _ _ w') ?_
 refine ko @Nat.add_zero ?_
 first|with_reducible refine ks [] @Nat.add_zero ?_|refine kp @Nat.add_zero ?_
 refine⟨_,(ke @Nat.add_zero),trivial, ?_⟩
 rfl
theorem aaB_ (w:World):Rets Tryz.prog 197 #[] w (fun v D=>v= .agg (a32 kL)∧D= []):=by
 refine Rets.enterV Tryz.func197 rfl (rs:= [.cell 0 307]) Tryz.results197 Tryz.ntmps197 ?_
 refine kf ?_
 first|with_reducible refine ks [] @Nat.add_zero ?_|refine kp @Nat.add_zero ?_
 have hkl:kL.length=64:=rfl
 refine Ow.alloc rfl rfl Tryz.zr307 fun b1 _ hw1=> ?_
 refine ko @Nat.add_zero ?_
 first|with_reducible refine ks [] @Nat.add_zero ?_|refine kp @Nat.add_zero ?_
 refine Ow.build (.agg (a32 kL)) rfl (by kernel_rfl) ?_
 refine ko @Nat.add_zero ?_
 first|with_reducible refine ks [] @Nat.add_zero ?_|refine kp @Nat.add_zero ?_
 refine⟨_,(ke @Nat.add_zero),⟨hw1,trivial⟩, ?_⟩
 rfl
end Go.Proofs
end
section
open Go Go.Proofs Go.Sx Go.Dig
namespace Go.Proofs
set_option maxRecDepth 10000
set_option maxHeartbeats 4000000
set_option linter.unusedSimpArgs false
set_option linter.defProp false
def z9_:=And.intro (And.intro (And.intro (And.intro (@vu_) (@vH_)) (And.intro (@vs_) (@ks_))) (And.intro (And.intro (@vC_) (@vI_)) (And.intro (@kK_) (@xM_)))) (And.intro (And.intro (And.intro (@jE_) (@kB_)) (And.intro (@ko_) (@kH_))) (And.intro (And.intro (@kr_) (@kq_)) (And.intro (@xU_) (@q1_))))
theorem ae0_ (b:Nat) (bg:Bool) (st:List UInt32) (rest:List UInt8) (many:Int) (taken:UInt64) (w:World) (hG:GlobE w) (hb:3<b) (hs:st.length=8) (hr:rest.length=64)
  (ho:w.heap[b]? =some (.cells (zJ_ bg st rest many taken) 298 (0,0))):
  Rets Tryz.prog 259 #[vp b 0] w (fun v D=> ∃o,D= [(b,o)]∧v= .tuple #[]∧o= .cells (zJ_ bg (comp st rest) rest 0 taken) 298 (0,0)):=by
 obtain⟨e0,e1,f0,f1,h0,h1⟩:=hG
 have hbl:=(Array.getElem?_eq_some_iff.1 ho).1
 have hkl:kL.length=64:=rfl
 refine Rets.enterM Tryz.func259 rfl (rs:= []) Tryz.results259 Tryz.ntmps259 ho ?_
 refine kf ?_
 first|with_reducible refine ks [] @z9_ ?_|refine kp @z9_ ?_
 refine Ow.alloc rfl rfl Tryz.zr307 fun b1 hb1 hw1=> ?_
 obtain⟨h01,-⟩:=hb1
 refine ko @z9_ ?_
 first|with_reducible refine ks [] @z9_ ?_|refine kp @z9_ ?_
 rw[←VK_ rest]
 refine Cw.loopG (G:=Nat) [14,15,3,16,17,18,19,20,21,22,23,24,25,26,27,28,29,5,30,31,32,33,34,35,36,37,38,39,40,13] (fun g=> [(13,vi g)]) (fun g=> [(b, .cells (zJ_ bg st rest many taken) 298),(b1, .cells (a32 (XX_ rest g)) 307)]) (fun g=>g≤16) (fun g=>16 - g) 0 rfl rfl ?_ ?_
 ·omega
 intro g j hg
 refine kv ?_
 have hlen:=kA_ rest g
 by_cases hlt:g<16
 ·first|with_reducible refine ks [] @z9_ ?_|refine kp @z9_ ?_
  rw[aeu_ rest g]
  refine Cw.loopG (G:=Nat) [27,28,29,5,30,31,32,33,34,35,36,37,38,39,26] (fun k=> [(26,vi k)]) (fun k=> [(b, .cells (zJ_ bg st rest many taken) 298 (0,0)),(b1, .cells (a32 ((XX_ rest g).set g (acc rest g k))) 307 (0,0))]) (fun k=>k≤4) (fun k=>4 - k) 0 rfl rfl ?_ ?_
  ·omega
  intro k jk hk
  refine kv ?_
  by_cases hk4:k<4
  ·first|with_reducible refine ks [] @z9_ ?_|refine kp @z9_ ?_
   exact Again.mk (k+1) (by omega) (by omega) rfl rfl
  ·have hk:k=4:=by omega
   subst hk
   first|with_reducible refine ks [] @z9_ ?_|refine kp @z9_ ?_
   refine Again.mk (g+1) (by omega) (by omega) ?_ rfl
   rw[ahl_,VC_]
 ·have hg16:g=16:=by omega
  subst hg16
  first|with_reducible refine ks [] @z9_ ?_|refine kp @z9_ ?_
  rw[acu_]
  refine Cw.loopG (G:=Nat) [41,42,45,46,47,48,49,50,51,52,53,54,55,56,57,58,59,60,61,62,63,64,65,66,67,43,44,6] (fun g=> [(6,vi g)]) (fun g=> [(b, .cells (zJ_ bg st rest many taken) 298 (0,0)),(b1, .cells (a32 (wG rest g)) 307)]) (fun g=>16≤g∧g≤64) (fun g=>64 - g) 16 rfl rfl ?_ ?_
  ·omega
  intro g j hg
  refine kv ?_
  obtain⟨hg1,hg2⟩:=hg
  have hlen:=We_ rest g
  by_cases hlt:g<64
  ·first|with_reducible refine ks [] @z9_ ?_|refine kp @z9_ ?_
   refine Cw.regionO [0,1,2,3,6,7,8,11,12,13,17,18,19,4,9,14,20,5,10,15,16,21,22,23] [23] rfl (by kernel_rfl) (by kernel_rfl) ?_
   simp only[zg_, ↓zc_, ↓za_, ↓zl_, ↓zk_,zb_]
   refine kq @z9_ ?_
   refine Ow.callFV rfl Tryz.call299 (fun w' hw'=>V1_ _ _ _ _ (by omega) (by omega) (by omega) w') ?_
   refine kq @z9_ ?_
   refine Ow.callFV rfl Tryz.call299 (fun w' hw'=>V1_ _ _ _ _ (by omega) (by omega) (by omega) w') ?_
   refine kq @z9_ ?_
   refine Ow.store rfl rfl rfl (ke @z9_) ?_
   refine ko @z9_ ?_
   first|with_reducible refine ks [] @z9_ ?_|refine kp @z9_ ?_
   refine Again.mk (g+1) (by omega) (by omega) ?_ rfl
   rw[aeU_ rest g hg1,amH_,amG_];rfl
  ·have hg64:g=64:=by omega
   subst hg64
   rw[ajq_]
   have hwl:=QE_ rest
   first|with_reducible refine ks [] (And.intro @z9_ @h1) ?_|refine kp (And.intro @z9_ @h1) ?_
   refine Ow.alloc rfl rfl Tryz.zr251 fun b2 hb2 hw2=> ?_
   obtain⟨h02,h12,-⟩:=hb2
   refine ko (And.intro @z9_ @h1) ?_
   first|with_reducible refine ks [] (And.intro @z9_ @h1) ?_|refine kp (And.intro @z9_ @h1) ?_
   refine Cw.loopG (G:=Nat) [74,75,76,8,9,77,78,79,80,81,82,83,84,85,86,87,88,89,90,91,92,93,94,95,96,97,98,99,100,101,10,102,103,104,105,106,107,108,109,110,111,112,113,114,115,116,117,118,119,120,121,122,11,123,124,125,126,127,128,129,130,131,132,133,134,135,136,137,138,139,140,141,142,143,73] (fun g=> [(73,vi g)]) (fun g=> [(b, .cells (zJ_ bg st rest many taken) 298 (0,0)),(b1, .cells (a32 (Vx_ rest)) 307),(b2, .cells (a32 (rGo st (Vx_ rest) g)) 251)]) (fun g=>g≤64) (fun g=>64 - g) 0 rfl rfl ?_ ?_
   ·omega
   ·intro g j hg
    refine kv ?_
    have hrl:=adg_ st (Vx_ rest) g hs
    by_cases hlt:g<64
    ·first|with_reducible refine ks [] @z9_ ?_|refine kp @z9_ ?_
     refine Cw.regionO [0,2,6,8,11,14,19,21,22,1,3,7,9,10,12,13,15,16,17,23,4,5,18,20,24,25] [] rfl (by kernel_rfl) (by kernel_rfl) ?_
     simp only[zg_, ↓zc_, ↓za_, ↓zl_, ↓zk_,zb_]
     refine kq @z9_ ?_
     refine Ow.callFV rfl Tryz.call300 (fun w' hw'=>WF_ _ _ _ _ (by omega) (by omega) (by omega) w') ?_
     refine kq @z9_ ?_
     first|with_reducible refine ks [] @z9_ ?_|refine kp @z9_ ?_
     refine Cw.regionO [0,3,5,8,10,14,16,1,4,6,7,9,11,12,13,15,17,18,19,2,20,21] [] rfl (by kernel_rfl) (by kernel_rfl) ?_
     simp only[zg_, ↓zc_, ↓za_, ↓zl_, ↓zk_,zb_]
     refine kq @z9_ ?_
     refine Ow.callFV rfl Tryz.call300 (fun w' hw'=>WF_ _ _ _ _ (by omega) (by omega) (by omega) w') ?_
     refine kq @z9_ ?_
     first|with_reducible refine ks [] @z9_ ?_|refine kp @z9_ ?_
     rw[amN_,amq_,alS_,akt_]
     refine Ow.build (.agg (a32 (akF_ (rGo st (Vx_ rest) g) (kL.getD g 0) ((Vx_ rest).getD g 0)))) rfl (by kernel_rfl) ?_
     have hrl2: (akF_ (rGo st (Vx_ rest) g) (kL.getD g 0) ((Vx_ rest).getD g 0)).length=8:=rfl
     refine ko @z9_ ?_
     first|with_reducible refine ks [] @z9_ ?_|refine kp @z9_ ?_
     exact Again.mk (g+1) (by omega) (by omega) rfl rfl
    ·have hg64:g=64:=by omega
     subst hg64
     first|with_reducible refine ks [] @z9_ ?_|refine kp @z9_ ?_
     rw[←aay_ st (rGo st (Vx_ rest) 64) hs]
     refine Cw.loopG (G:=Nat) [145,146,12,147,148,149,150,151,152,153,154,155,156,157,158,159,160,144] (fun k=> [(144,vi k)]) (fun k=> [(b, .cells (zJ_ bg (xa_ st (rGo st (Vx_ rest) 64) k) rest many taken) 298 (0,0)),(b1, .cells (a32 (Vx_ rest)) 307),(b2, .cells (a32 (rGo st (Vx_ rest) 64)) 251)]) (fun k=>k≤8) (fun k=>8 - k) 0 rfl rfl ?_ ?_
     ·omega
     intro k jk hk
     refine kv ?_
     have hal:=wV_ st (rGo st (Vx_ rest) 64) k
     by_cases hk8:k<8
     ·first|with_reducible refine ks [] @z9_ ?_|refine kp @z9_ ?_
      refine Cw.regionO [0,1,2,3,4,6,7,10,11,5,8,9,12,13] [13] rfl (by kernel_rfl) (by kernel_rfl) ?_
      simp only[zg_, ↓zc_, ↓za_, ↓zl_, ↓zk_,zb_]
      refine kq @z9_ ?_
      refine Ow.store rfl rfl rfl (ke @z9_) ?_
      refine ko @z9_ ?_
      first|with_reducible refine ks [] @z9_ ?_|refine kp @z9_ ?_
      refine Again.mk (k+1) (by omega) (by omega) ?_ rfl
      rw[←abi_,adV_ _ _ _ _ (by omega),if_neg (by omega)]
     ·have hk8':k=8:=by omega
      subst hk8'
      first|with_reducible refine ks [] @z9_ ?_|refine kp @z9_ ?_
      refine⟨_,_,_,(ke @z9_),rfl,⟨hw1,hw2,trivial⟩, ?_⟩
      exact⟨rfl,rfl⟩
end Go.Proofs
end
section
open Go Go.Proofs Go.Sx Go.Dig
namespace Go.Proofs
set_option maxRecDepth 10000
set_option maxHeartbeats 1000000
set_option linter.unusedSimpArgs false
theorem Jz_ (n:Nat):UInt64.ofInt (n:Int)=UInt64.ofNat n:=by
 apply UInt64.toNat.inj
 rw[show UInt64.ofInt (n:Int)=UInt64.ofNat ((n:Int)%2^64).toNat from rfl,UInt64.toNat_ofNat',UInt64.toNat_ofNat']
 omega
theorem akO_ (b o:Nat):q6_ Tryz.prog .eql 337 (vp b o) (.pointer none)=some (.bool false):=by
 simp[q6_,eqX,q7_,jf_,Tryz.underlying337,vp]
theorem ag1_:q6_ Tryz.prog .eql 337 (.pointer none) (.pointer none)=some (.bool true):=by
 simp[q6_,eqX,q7_,jf_,Tryz.underlying337]
theorem ag6_ (b o:Nat):q6_ Tryz.prog .neq 337 (vp b o) (.pointer none)=some (.bool true):=by
 simp[q6_,eqX,q7_,jf_,Tryz.underlying337,vp]
theorem abW_:q6_ Tryz.prog .neq 337 (.pointer none) (.pointer none)=some (.bool false):=by
 simp[q6_,eqX,q7_,jf_,Tryz.underlying337]
set_option linter.defProp false
def qL_:=And.intro (And.intro (And.intro (And.intro (@vu_) (@vH_)) (And.intro (@vs_) (And.intro (@ks_) (@vC_)))) (And.intro (And.intro (@vI_) (@kK_)) (And.intro (@xM_) (And.intro (@jE_) (@kB_))))) (And.intro (And.intro (And.intro (@ko_) (@kH_)) (And.intro (@kr_) (And.intro (@kq_) (@xU_)))) (And.intro (And.intro (@q1_) (@akO_)) (And.intro (@ag1_) (And.intro (@ag6_) (@abW_)))))
theorem XV_ (b:Nat) (bg:Bool) (st:List UInt32) (rest:List UInt8) (many:Int) (taken:UInt64) (w:World) (hG:GlobE w) (hb:3<b) (hs:st.length=8) (hr:rest.length=64)
  (ho:w.heap[b]? =some (.cells (zJ_ bg st rest many taken) 298 (0,0))):
  Rets Tryz.prog 226 #[vp b 0] w (fun v D=> ∃o,D= [(b,o)]∧v= .tuple #[]∧o= .cells (zJ_ true (if bg then st else initL) rest many taken) 298 (0,0)):=by
 obtain⟨e0,e1,f0,f1,h0,h1⟩:=hG
 have hil:initL.length=8:=rfl
 refine Rets.enterM Tryz.func226 rfl (rs:= []) Tryz.results226 Tryz.ntmps226 ho ?_
 refine kf ?_
 cases bg
 ·first|with_reducible refine ks [] (And.intro @qL_ @h0) ?_|refine kp (And.intro @qL_ @h0) ?_
  refine⟨_,_,_,(ke @qL_),rfl,trivial, ?_⟩
  exact⟨rfl,rfl⟩
 ·first|with_reducible refine ks [] (And.intro @qL_ @h0) ?_|refine kp (And.intro @qL_ @h0) ?_
  refine⟨_,_,_,(ke @qL_),rfl,trivial, ?_⟩
  exact⟨rfl,rfl⟩
theorem ZX_ (b:Nat) (s:Hs) (taken:UInt64) (x:UInt8) (w:World) (hG:GlobE w) (hb:3<b) (hs:s.Ok)
  (ho:w.heap[b]? =some (.cells (xX_ s taken) 298 (0,0))):
  Rets Tryz.prog 227 #[vp b 0,v8 x] w (fun v D=> ∃o,D= [(b,o)]∧v= .tuple #[]∧o= .cells (xX_ (JE_ s x) taken) 298 (0,0)):=by
 obtain⟨st,rest,many⟩:=s
 obtain⟨hst,hrt,hmn⟩:=hs
 simp only[xX_] at ho hst hrt hmn ⊢
 refine Rets.enterM Tryz.func227 rfl (rs:= []) Tryz.results227 Tryz.ntmps227 ho ?_
 refine kf ?_
 first|with_reducible refine ks [] @qL_ ?_|refine kp @qL_ ?_
 refine Cw.regionO [0,1,2,3,5,6,7,4,8,9] [9] rfl (by kernel_rfl) (by kernel_rfl) ?_
 simp only[zg_, ↓zc_, ↓za_, ↓zl_, ↓zk_,zb_]
 refine kq @qL_ ?_
 refine Ow.store rfl rfl rfl (ke @qL_) ?_
 refine ko @qL_ ?_
 first|with_reducible refine ks [] @qL_ ?_|refine kp @qL_ ?_
 unfold JE_
 by_cases h64:many+1=64
 ·simp only[h64, ↓reduceIte]
  have h64': (many:Int)+1=64:=by omega
  have h63:many=63:=by omega
  subst h63
  rw[alR_ _ _ _ _ _ _ (by omega)]
  first|with_reducible refine ks [] @qL_ ?_|refine kp @qL_ ?_
  refine Ow.callM rfl rfl Tryz.call259 (by simp[keys]) (fun w' hw'=>ae0_ _ _ _ _ _ _ w' (GlobE.of hG hw' (by simp[keys];omega)) hb hst (by simp[hrt]) (hw'.has _ _ List.mem_cons_self)) ?_
  refine ko @qL_ ?_
  first|with_reducible refine ks [] @qL_ ?_|refine kp @qL_ ?_
  refine⟨_,_,_,(ke @qL_),rfl,trivial, ?_⟩
  exact⟨rfl,rfl⟩
 ·rw[alB_ _ _ _ _ _ _ (by omega)]
  simp only[h64, ↓reduceIte]
  first|with_reducible refine ks [] @qL_ ?_|refine kp @qL_ ?_
  refine⟨_,_,_,(ke @qL_),rfl,trivial, ?_⟩
  exact⟨rfl,by rw[if_neg h64];simp⟩
theorem WY_ (b:Nat) (bg:Bool) (s:Hs) (taken:UInt64) (x:Value) (b2 off:Nat) (l:List (List UInt8)) (arr:Array Value) (E:TypeId) (fz:Nat×Nat) (w:World) (hG:GlobE w) (hb:3<b) (hs:s.Ok) (hne:0<l.length→b≠b2)
  (hS:StrS w x l b2 off arr E fz) (hn:l.length<1099511627776) (hz: ∀i,i<l.length→(l.getD i []).length<1099511627776)
  (ho:w.heap[b]? =some (.cells (zJ_ bg s.st s.rest s.many taken) 298 (0,0))):
  Rets Tryz.prog 185 #[vp b 0,x] w (fun v D=> ∃o,D= [(b,o)]∧v= .tuple #[]∧o= .cells (xX_ (qE_ (vR_ bg s) l.flatten) (kk_ taken l)) 298 (0,0)):=by
 obtain⟨e0,e1,f0,f1,h0,h1⟩:=id hG
 obtain⟨st,rest,many⟩:=s
 obtain⟨hst,hrt,hmn⟩:=id hs
 simp only[xX_] at ho hst hrt hmn ⊢
 refine Rets.enterM Tryz.func185 rfl (rs:= []) Tryz.results185 Tryz.ntmps185 ho ?_
 refine kf ?_
 first|with_reducible refine ks [] @qL_ ?_|refine kp @qL_ ?_
 refine Ow.callM rfl rfl Tryz.call226 (by simp[keys]) (fun w' hw'=>XV_ _ _ _ _ _ _ w' (GlobE.of hG hw' (by simp[keys];omega)) hb hst hrt (hw'.has _ _ List.mem_cons_self)) ?_
 refine ko @qL_ ?_
 ((try with_reducible refine Cw.go [] ?_);(try simp(disch:=(first|assumption|omega| (simp only[je_,jc_,UInt64.reduceToNat];try omega))) only[↓Sx.S0,Sx.S1,Tryz.fx,qL_,Nat.reduceAdd,Nat.reducePow,Int.reducePow,Nat.reduceBEq, ↓reduceIte,UInt8.reduceToNat,UInt16.reduceToNat,UInt32.reduceToNat,UInt64.reduceToNat,Int.reduceToNat,hS.len]))
 have e:zJ_ true (if bg=true then st else initL) rest many taken=xX_ (qE_ (vR_ bg ⟨st,rest,many⟩) (l.take 0).flatten) (kk_ taken (l.take 0)):=by cases bg<;>rfl
 rw[e]
 have hok0:=Vq_ bg hs
 generalize vR_ bg ⟨st,rest,many⟩=S0 at*
 refine Cw.loopG (G:=Nat) [14,15,16,5,17,18,19,20,21,6,22,23,24,25,26,27,28,29,30,31,32,33,34,35,36,37,38,13] (fun g=> [(13,vi g)]) (fun g=> [(b, .cells (xX_ (qE_ S0 (l.take g).flatten) (kk_ taken (l.take g))) 298 (0,0))]) (fun g=>g≤l.length) (fun g=>l.length - g) 0 rfl rfl ?_ ?_
 ·omega
 intro g j hg
 refine kv ?_
 by_cases hlt:g<l.length
 ·have hlg:=hS.get g hlt
  have hb2:=hS.has (by omega)
  have hne2:=hne (by omega)
  have hzg:=hz g hlt
  ((try with_reducible refine Cw.go [] ?_);(try simp(disch:=(first|assumption|omega| (simp only[je_,jc_,UInt64.reduceToNat];try omega))) only[↓Sx.S0,Sx.S1,Tryz.fx,qL_,Nat.reduceAdd,Nat.reducePow,Int.reducePow,Nat.reduceBEq, ↓reduceIte,UInt8.reduceToNat,UInt16.reduceToNat,UInt32.reduceToNat,UInt64.reduceToNat,Int.reduceToNat,Sx.loadV_one,hb2,hlg,hS.idx]))
  have hok:=kI_ (l.take g).flatten hok0
  rw[show xX_ (qE_ S0 (l.take g).flatten) (kk_ taken (l.take g))=xX_ (qE_ (qE_ S0 (l.take g).flatten) ((l.getD g []).take 0)) (kk_ taken (l.take g)) from rfl]
  refine Cw.loopG (G:=Nat) [20,21,6,22,23,24,25,26,27,19] (fun k=> [(19,vi k)]) (fun k=> [(b, .cells (xX_ (qE_ (qE_ S0 (l.take g).flatten) ((l.getD g []).take k)) (kk_ taken (l.take g))) 298 (0,0))]) (fun k=>k≤ (l.getD g []).length) (fun k=>(l.getD g []).length - k) 0 rfl rfl ?_ ?_
  ·omega
  intro k jk hk
  refine kv ?_
  by_cases hlk:k< (l.getD g []).length
  ·first|with_reducible refine ks [] @qL_ ?_|refine kp @qL_ ?_
   refine Ow.callM rfl rfl Tryz.call227 (by simp[keys]) (fun w' hw'=>ZX_ _ _ _ _ w' (GlobE.of hG hw' (by simp[keys];omega)) hb (kI_ _ hok) (hw'.has _ _ List.mem_cons_self)) ?_
   refine ko @qL_ ?_
   first|with_reducible refine ks [] @qL_ ?_|refine kp @qL_ ?_
   refine Again.mk (k+1) (by omega) (by omega) ?_ rfl
   rw[XH_ _ _ _ hlk]
  ·have hke:k=(l.getD g []).length:=by omega
   subst hke
   have hok2:=kI_ (l.getD g []) hok
   have hok3:=hok2.st
   have hok4:=hok2.rest
   rw[List.take_length]
   unfold xX_
   first|with_reducible refine ks [] @qL_ ?_|refine kp @qL_ ?_
   refine Again.mk (g+1) (by omega) (by omega) ?_ rfl
   rw[V7_ _ _ hlt,ju_,abg_ _ _ _ hlt,show UInt64.ofInt ((l.getD g []).length:Int)=UInt64.ofNat (l.getD g []).length from Jz_ _]
 ·have hge:g=l.length:=by omega
  subst hge
  first|with_reducible refine ks [] @qL_ ?_|refine kp @qL_ ?_
  rw[List.take_length]
  refine⟨_,_,_,(ke @qL_),rfl,trivial, ?_⟩
  exact⟨rfl,rfl⟩
end Go.Proofs
end
namespace Go.Dig
open Go.Sx
def x5_ (m:Nat):Nat:=(120 - m)%64
def lenB (t:UInt64) (g:Nat):UInt8:=UInt8.ofNat (jr_ (8*t) (56 - 8*g)).toNat
def len8 (t:UInt64):List UInt8:=(List.range 8).map (lenB t)
def outB (st:List UInt32) (j:Nat):UInt8:=UInt8.ofNat (qn_ (st.getD (j / 4) 0) (24 - 8* (j%4))).toNat
def jK_ (st:List UInt32) (k:Nat):List UInt8:=(List.range 32).map fun j=>if j<k then outB st j else 0
def acZ_ (s:Hs) (taken:UInt64):Hs:=qE_ (qE_ (JE_ s 128) (List.replicate (x5_ (JE_ s 128).many) 0)) (len8 taken)
def hsum (s:Hs) (taken:UInt64):List UInt8:=jK_ (acZ_ s taken).st 32
def H0:Hs:=⟨initL,List.replicate 64 0,0⟩
theorem alV_:H0.Ok:=⟨rfl,by simp[H0],by show(0:Nat)<64;omega⟩
def sumV (l:List (List UInt8)):List UInt8:=hsum (qE_ H0 l.flatten) (kk_ 0 l)
theorem ags_ {s:Hs} (x:UInt8) (h:s.Ok): (JE_ s x).many=(s.many+1)%64:=by
 have:=h.many
 unfold JE_
 split
 ·show 0=_;omega
 ·show s.many+1=_;omega
theorem adU_ {s:Hs} (l:List UInt8) (h:s.Ok): (qE_ s l).many=(s.many+l.length)%64:=by
 induction l generalizing s with
 |nil=>have:=h.many;show s.many=_;simp;omega
 |cons x r ih=>
  show(qE_ (JE_ s x) r).many=_
  rw[ih (X7_ x h),ags_ x h,List.length_cons];omega
theorem aft_ (s:Hs) (x:UInt8) (j:Nat):qE_ s (List.replicate (j+1) x)=JE_ (qE_ s (List.replicate j x)) x:=by
 rw[List.replicate_succ',ju_];rfl
theorem outPre_length (st:List UInt32) (k:Nat): (jK_ st k).length=32:=by simp[jK_]
theorem Jg_ (st:List UInt32):jK_ st 0=List.replicate 32 0:=by
 apply List.ext_getElem
 ·simp[jK_]
 intro k hk1 hk2
 simp only[jK_,List.getElem_map,List.getElem_range,List.getElem_replicate]
 rw[if_neg (by omega)]
theorem xH_ (st:List UInt32) (k:Nat): (jK_ st k).set k (outB st k)=jK_ st (k+1):=by
 apply List.ext_getElem
 ·simp[jK_]
 intro j hk1 hk2
 rw[List.getElem_set]
 by_cases h:k=j
 ·subst h;simp[jK_]
 ·rw[if_neg h]
  simp only[jK_,List.getElem_map,List.getElem_range]
  by_cases h1:j<k
  ·rw[if_pos h1,if_pos (by omega)]
  ·rw[if_neg h1,if_neg (by omega)]
theorem KZ_ (st:List UInt32) (i r:Nat) (h:r<4):outB st (4*i+r)=UInt8.ofNat (qn_ (st.getD i 0) (24 - 8*r)).toNat:=by
 unfold outB
 rw[show(4*i+r) / 4=i by omega,show(4*i+r)%4=r by omega]
theorem Vy_ (x:UInt32):qn_ x 0=x:=by
 apply UInt32.toNat.inj
 have:=x.toNat_lt
 rw[qn_,UInt32.toNat_ofNat']
 simp
theorem ab1_ (st:List UInt32) (i:Nat):
  ((((jK_ st (4*i)).set (4*i) (UInt8.ofNat (qn_ (st.getD i 0) 24).toNat)).set (4*i+1) (UInt8.ofNat (qn_ (st.getD i 0) 16).toNat)).set (4*i+2) (UInt8.ofNat (qn_ (st.getD i 0) 8).toNat)).set (4*i+3) (UInt8.ofNat (st.getD i 0).toNat)=jK_ st (4* (i+1)):=by
 have h0:=KZ_ st i 0 (by omega)
 have h1:=KZ_ st i 1 (by omega)
 have h2:=KZ_ st i 2 (by omega)
 have h3:=KZ_ st i 3 (by omega)
 rw[Nat.add_zero] at h0
 rw[show 24 - 8*3=0 from rfl,Vy_] at h3
 rw[←h3,←h2,←h1,←h0,xH_,xH_,xH_,xH_]
 rw[show 4* (i+1)=4*i+1+1+1+1 by omega]
theorem QI_ (t:UInt64): (len8 t).length=8:=by simp[len8]
theorem agL_ (t:UInt64) (g:Nat) (h:g<8): (len8 t).getD g 0=lenB t g:=by simp[len8,List.getD_eq_getElem?_getD,h]
end Go.Dig
section
open Go Go.Proofs Go.Sx Go.Dig
namespace Go.Proofs
set_option maxRecDepth 10000
set_option maxHeartbeats 1000000
set_option linter.unusedSimpArgs false
set_option linter.defProp false
def qR_:=And.intro (And.intro (And.intro (And.intro (@vu_) (@vH_)) (And.intro (@vs_) (And.intro (@ks_) (@vC_)))) (And.intro (And.intro (@vI_) (@kK_)) (And.intro (@xM_) (And.intro (@jE_) (@kB_))))) (And.intro (And.intro (And.intro (@ko_) (@kH_)) (And.intro (@kr_) (And.intro (@kq_) (@xU_)))) (And.intro (And.intro (@q1_) (@akO_)) (And.intro (@ag1_) (And.intro (@ag6_) (@abW_)))))
theorem ajs_:zZ_ Tryz.prog 298=some (.agg (zJ_ false (List.replicate 8 0) (List.replicate 64 0) 0 0)):=id (by kernel_rfl)
theorem XM_ (bg:Bool) (st:List UInt32) (rest:List UInt8) (many:Int) (taken:UInt64):Value.cells (.agg (zJ_ bg st rest many taken))=zJ_ bg st rest many taken:=ze_ _
theorem vV_ {bg bg':Bool} {st st':List UInt32} {rest rest':List UInt8} {many many':Int} {taken taken':UInt64} {E:TypeId} (h:st.length=8∧rest.length=64∧st'.length=8∧rest'.length=64):
  zt_ (some (true,75)) (some (.cells (zJ_ bg' st' rest' many' taken') E (0,0))) 0 (.agg (zJ_ bg st rest many taken))=some (.cells (zJ_ bg st rest many taken) E (0,0)):=
 jE_ _ ⟨h.1,h.2.1,jj_ h.2.2⟩
theorem aeQ_ (b:Nat) (bg:Bool) (s:Hs) (taken:UInt64) (w:World) (hG:GlobE w) (hb:3<b) (hs:s.Ok)
  (ho:w.heap[b]? =some (.cells (zJ_ bg s.st s.rest s.many taken) 298 (0,0))):
  Rets Tryz.prog 186 #[vp b 0] w (fun v D=>v= .agg (a8 (hsum (vR_ bg s) taken))∧D= []):=by
 obtain⟨e0,e1,f0,f1,h0,h1⟩:=id hG
 obtain⟨st,rest,many⟩:=s
 obtain⟨hst,hrt,hmn⟩:=id hs
 simp only at ho hst hrt hmn ⊢
 refine Rets.enterV Tryz.func186 rfl (rs:= [.cell 2 24]) Tryz.results186 Tryz.ntmps186 ?_
 refine kf ?_
 first|with_reducible refine ks [] @qR_ ?_|refine kp @qR_ ?_
 refine Ow.alloc rfl rfl Tryz.zr24 fun b1 hb1 hw1=> ?_
 refine ko @qR_ ?_
 first|with_reducible refine ks [] @qR_ ?_|refine kp @qR_ ?_
 refine Ow.alloc rfl rfl ajs_ fun b2 hb2 hw2=> ?_
 obtain⟨h12,-⟩:=hb2
 have hbl:=(Array.getElem?_eq_some_iff.1 ho).1
 rw[XM_]
 refine ko @qR_ ?_
 first|with_reducible refine ks [] (And.intro @qR_ (And.intro @ho (@vV_))) ?_|refine kp (And.intro @qR_ (And.intro @ho (@vV_))) ?_
 refine Ow.callM rfl rfl Tryz.call226 (by simp[keys]) (fun w' hw'=>XV_ _ _ _ _ _ _ w' (GlobE.of hG hw' (by simp[keys];omega)) (by omega) hst hrt (hw'.has _ _ (List.mem_cons_of_mem _ List.mem_cons_self))) ?_
 refine ko @qR_ ?_
 first|with_reducible refine ks [] @qR_ ?_|refine kp @qR_ ?_
 have e:zJ_ true (if bg=true then st else initL) rest many taken=xX_ (vR_ bg ⟨st,rest,many⟩) taken:=by cases bg<;>rfl
 rw[e]
 have hok0:=Vq_ bg hs
 generalize vR_ bg ⟨st,rest,many⟩=S0 at*
 refine Ow.callM rfl rfl Tryz.call227 (by simp[keys]) (fun w' hw'=>ZX_ _ _ _ 128 w' (GlobE.of hG hw' (by simp[keys];omega)) (by omega) hok0 (hw'.has _ _ (List.mem_cons_of_mem _ List.mem_cons_self))) ?_
 refine ko @qR_ ?_
 have hok1:=X7_ 128 hok0
 have ep:acZ_ S0 taken=qE_ (qE_ (JE_ S0 128) (List.replicate (x5_ (JE_ S0 128).many) 0)) (len8 taken):=rfl
 unfold hsum
 rw[ep]
 generalize JE_ S0 128=S1 at*
 first|with_reducible refine ks [] @qR_ ?_|refine kp @qR_ ?_
 rw[show xX_ S1 taken=xX_ (qE_ S1 (List.replicate 0 0)) taken from rfl]
 have hz: (S1.many+x5_ S1.many)%64=56∧x5_ S1.many<64:=by have:=hok1.many;unfold x5_;omega
 refine Cw.loopG (G:=Nat) [15,16,17,18] (fun g=> []) (fun g=> [(b1, .cells (a8 (List.replicate 32 0)) 24 (0,0)),(b2, .cells (xX_ (qE_ S1 (List.replicate g 0)) taken) 298 (0,0))]) (fun g=>g≤x5_ S1.many) (fun g=>x5_ S1.many - g) 0 rfl rfl ?_ ?_
 ·omega
 intro g j hg
 refine kv ?_
 have hokg:=kI_ (List.replicate g 0) hok1
 have hm:=adU_ (List.replicate g 0) hok1
 rw[List.length_replicate] at hm
 have hg1:=hokg.st
 have hg2:=hokg.rest
 by_cases hlt:g<x5_ S1.many
 ·have hzz: (S1.many+g)%64≠56:=by have:=hok1.many;unfold x5_ at hlt;omega
  unfold xX_
  first|with_reducible refine ks [] @qR_ ?_|refine kp @qR_ ?_
  refine Ow.callM rfl rfl Tryz.call227 (by simp[keys]) (fun w' hw'=>ZX_ _ _ _ 0 w' (GlobE.of hG hw' (by simp[keys];omega)) (by omega) hokg (hw'.has _ _ (List.mem_cons_of_mem _ List.mem_cons_self))) ?_
  refine ko @qR_ ?_
  first|with_reducible refine ks [] @qR_ ?_|refine kp @qR_ ?_
  refine Again.mk (g+1) (by omega) (by omega) ?_ rfl
  rw[aft_];rfl
 ·have hge:g=x5_ S1.many:=by omega
  subst hge
  unfold xX_
  first|with_reducible refine ks [] @qR_ ?_|refine kp @qR_ ?_
  generalize qE_ S1 (List.replicate (x5_ S1.many) 0)=S2 at*
  rw[show zJ_ true S2.st S2.rest S2.many taken=xX_ (qE_ S2 ((len8 taken).take 0)) taken from rfl]
  have h8:=QI_ taken
  refine Cw.loopG (G:=Nat) [19,20,23,24,25,26,27,28,29,21,22,4] (fun k=> [(4,vi (56 - 8*k))]) (fun k=> [(b1, .cells (a8 (List.replicate 32 0)) 24 (0,0)),(b2, .cells (xX_ (qE_ S2 ((len8 taken).take k)) taken) 298 (0,0))]) (fun k=>k≤8) (fun k=>8 - k) 0 rfl rfl ?_ ?_
  ·omega
  intro k jk hk
  refine kv ?_
  have hokk:=kI_ ((len8 taken).take k) hokg
  have hk1:=hokk.st
  have hk2:=hokk.rest
  by_cases hk8:k<8
  ·unfold xX_
   first|with_reducible refine ks [] @qR_ ?_|refine kp @qR_ ?_
   rw[show(56 - 8* (k:Int)).toNat=56 - 8*k from by omega]
   refine Ow.callM rfl rfl Tryz.call227 (by simp[keys]) (fun w' hw'=>ZX_ _ _ _ (lenB taken k) w' (GlobE.of hG hw' (by simp[keys];omega)) (by omega) hokk (hw'.has _ _ (List.mem_cons_of_mem _ List.mem_cons_self))) ?_
   refine ko @qR_ ?_
   first|with_reducible refine ks [] @qR_ ?_|refine kp @qR_ ?_
   refine Again.mk (k+1) (by omega) (by omega) ?_ ?_
   ·rw[XH_ _ _ _ (by omega),agL_ _ _ hk8];rfl
   ·rw[show(56 - 8* ((k+1:Nat):Int))=56 - 8* (k:Int) - 8 from by omega];rfl
  ·have hke:k=8:=by omega
   subst hke
   first|with_reducible refine ks [] @qR_ ?_|refine kp @qR_ ?_
   rw[List.take_of_length_le (show(len8 taken).length≤8 by omega)] at*
   generalize qE_ S2 (len8 taken)=S3 at*
   refine Ow.alloc rfl rfl Tryz.zr24 fun b3 hb3 hw3=> ?_
   obtain⟨h13,h23,-⟩:=hb3
   unfold xX_
   refine ko @qR_ ?_
   first|with_reducible refine ks [] @qR_ ?_|refine kp @qR_ ?_
   rw[show a8 (List.replicate 32 0)=a8 (jK_ S3.st (4*0)) from by rw[Jg_]]
   have h3s:=(kI_ (len8 taken) hokg).st
   have hS3:S3.st.length=8:=hk1
   refine Cw.loopG (G:=Nat) [33,34,35,6,7,36,37,38,39,40,41,42,43,44,45,46,47,48,49,50,51,52,53,54,55,56,57,58,59,60,61,62,32] (fun i=> [(32,vi i)]) (fun i=> [(b1, .cells (a8 (jK_ S3.st (4*0))) 24 (0,0)),(b2, .cells (zJ_ true S3.st S3.rest S3.many taken) 298 (0,0)),(b3, .cells (a8 (jK_ S3.st (4*i))) 24 (0,0))]) (fun i=>i≤8) (fun i=>8 - i) 0 rfl rfl ?_ ?_
   ·omega
   intro i ji hi
   refine kv ?_
   have hol:=outPre_length S3.st (4*i)
   have hol0:=outPre_length S3.st (4*0)
   by_cases hi8:i<8
   ·first|with_reducible refine ks [] @qR_ ?_|refine kp @qR_ ?_
    refine Again.mk (i+1) (by omega) (by omega) ?_ rfl
    rw[ab1_]
   ·have hie:i=8:=by omega
    subst hie
    first|with_reducible refine ks [] @qR_ ?_|refine kp @qR_ ?_
    rw[show 4*8=32 from rfl]
    refine⟨_,(ke @qR_),⟨hw1,hw2,hw3,trivial⟩, ?_⟩
    rfl
end Go.Proofs
end
section
open Go Go.Proofs Go.Sx Go.Dig
namespace Go.Proofs
set_option maxRecDepth 10000
set_option maxHeartbeats 1000000
set_option linter.unusedSimpArgs false
set_option linter.defProp false
def we_:=And.intro (And.intro (And.intro (And.intro (@vu_) (@vH_)) (And.intro (@vs_) (And.intro (@ks_) (@vC_)))) (And.intro (And.intro (@vI_) (@kK_)) (And.intro (@xM_) (And.intro (@jE_) (@kB_))))) (And.intro (And.intro (And.intro (@ko_) (@kH_)) (And.intro (@kr_) (And.intro (@kq_) (@xU_)))) (And.intro (And.intro (@q1_) (@akO_)) (And.intro (@ag1_) (And.intro (@ag6_) (@abW_)))))
theorem agp_ (x:Value) (b2 off:Nat) (l:List (List UInt8)) (arr:Array Value) (E:TypeId) (fz:Nat×Nat) (w:World) (hG:GlobE w)
  (hS:StrS w x l b2 off arr E fz) (hn:l.length<1099511627776) (hz: ∀i,i<l.length→(l.getD i []).length<1099511627776):
  Rets Tryz.prog 118 #[x] w (fun v D=>v= .agg (a8 (sumV l))∧D= []):=by
 obtain⟨e0,e1,f0,f1,h0,h1⟩:=id hG
 have hg1:3<w.heap.size:=(Array.getElem?_eq_some_iff.1 h1).1
 have hbl:0<l.length→b2<w.heap.size:=fun h=>(Array.getElem?_eq_some_iff.1 (hS.has h)).1
 refine Rets.enterV Tryz.func118 rfl (rs:= [.cell 2 24]) Tryz.results118 Tryz.ntmps118 ?_
 refine kf ?_
 first|with_reducible refine ks [] @we_ ?_|refine kp @we_ ?_
 refine Ow.alloc rfl rfl Tryz.zr24 fun b1 hb1 hw1=> ?_
 refine ko @we_ ?_
 first|with_reducible refine ks [] @we_ ?_|refine kp @we_ ?_
 refine Ow.alloc rfl rfl ajs_ fun b3 hb3 hw3=> ?_
 obtain⟨h13,-⟩:=hb3
 rw[XM_]
 refine ko @we_ ?_
 first|with_reducible refine ks [] @we_ ?_|refine kp @we_ ?_
 refine Ow.callM rfl rfl Tryz.call185 (by simp[keys]) (fun w' hw'=>WY_ _ _ ⟨List.replicate 8 0,List.replicate 64 0,0⟩ _ _ _ _ _ _ _ _ w' (GlobE.of hG hw' (by simp[keys];omega)) (by omega) ⟨by simp,by simp,by simp⟩ (fun h=>by have:=hbl h;omega) (hS.old hw' (fun h=>by have:=hbl h;simp[keys];omega)) hn hz (hw'.has _ _ (List.mem_cons_of_mem _ List.mem_cons_self))) ?_
 refine ko @we_ ?_
 first|with_reducible refine ks [] @we_ ?_|refine kp @we_ ?_
 have hok:=kI_ l.flatten alV_
 have e:vR_ false ⟨List.replicate 8 0,List.replicate 64 0,0⟩=H0:=rfl
 rw[e]
 refine Ow.callFV rfl Tryz.call186 (fun w' hw'=>aeQ_ _ true _ _ w' (GlobE.of hG hw' (by simp[keys];omega)) (by omega) hok (hw'.has _ _ (List.mem_cons_of_mem _ List.mem_cons_self))) ?_
 have hsl: (hsum (vR_ true (qE_ H0 l.flatten)) (kk_ 0 l)).length=32:=outPre_length _ _
 refine ko @we_ ?_
 first|with_reducible refine ks [] @we_ ?_|refine kp @we_ ?_
 refine⟨_,(ke @we_),⟨hw1,hw3,trivial⟩, ?_⟩
 rfl
end Go.Proofs
end
namespace Go.Dig
open Go.Sx
def quoN (t:UInt64):Nat→UInt64
 |0=>t
 |n+1=>quoN t n / 256
theorem ael_ (t:UInt64) (n:Nat): (quoN t n).toNat=t.toNat / 256^n:=by
 induction n with
 |zero=>simp[quoN]
 |succ n ih=>
  show(quoN t n / 256).toNat=_
  rw[UInt64.toNat_div,ih,Nat.pow_succ,Nat.div_div_eq_div_mul];rfl
def ak4_ (t:UInt64) (j:Nat):UInt8:=UInt8.ofNat (jr_ t (56 - 8*j)).toNat
theorem aip_ (t:UInt64) (i:Nat) (h:i<8):UInt8.ofNat (quoN t i%256).toNat=ak4_ t (7 - i):=by
 apply UInt8.toNat.inj
 unfold ak4_
 rw[UInt8.toNat_ofNat',UInt8.toNat_ofNat',UInt64.toNat_mod,ael_,jr_,UInt64.toNat_ofNat']
 have e:56 - 8* (7 - i)=8*i:=by omega
 have ht:=t.toNat_lt
 have hd:t.toNat / 2^ (8*i)≤t.toNat:=Nat.div_le_self _ _
 rw[e,Nat.mod_eq_of_lt (a:=t.toNat / 2^ (8*i)) (by omega)]
 have e2:256^i=2^ (8*i):=by rw[Nat.pow_mul]
 rw[e2,show(256:UInt64).toNat=256 from rfl]
 omega
def ja_ (t:UInt64) (i:Nat):List UInt8:=(List.range 8).map fun j=>if 8≤j+i then ak4_ t j else 0
theorem Xb_ (t:UInt64) (i:Nat): (ja_ t i).length=8:=by simp[ja_]
theorem WG_ (t:UInt64):ja_ t 0=List.replicate 8 0:=by
 apply List.ext_getElem
 ·simp[ja_]
 intro k hk1 hk2
 have:k<8:=by simpa [ja_] using hk1
 simp only[ja_,List.getElem_map,List.getElem_range,List.getElem_replicate]
 rw[if_neg (by omega)]
theorem Wu_ (t:UInt64) (i:Nat) (h:i<8): (ja_ t i).set (7 - i) (UInt8.ofNat (quoN t i%256).toNat)=ja_ t (i+1):=by
 rw[aip_ t i h]
 apply List.ext_getElem
 ·simp[ja_]
 intro j hj1 hj2
 have hj:j<8:=by simpa [ja_] using hj2
 rw[List.getElem_set]
 by_cases h1:7 - i=j
 ·rw[if_pos h1]
  simp only[ja_,List.getElem_map,List.getElem_range]
  rw[if_pos (by omega),h1]
 ·rw[if_neg h1]
  simp only[ja_,List.getElem_map,List.getElem_range]
  by_cases h2:8≤j+i
  ·rw[if_pos h2,if_pos (by omega)]
  ·rw[if_neg h2,if_neg (by omega)]
theorem aaq_ (t:UInt64):ja_ (8*t) 8=len8 t:=by
 unfold ja_ len8
 apply List.map_congr_left
 intro j hj
 rw[if_pos (by omega)];rfl
def padR (m:List UInt8):List UInt8:=m++ [128]++List.replicate (x5_ ((m.length+1)%64)) 0++len8 (UInt64.ofNat m.length)
theorem Xu_ (n:Nat): (n+x5_ (n%64))%64=56∧x5_ (n%64)<64:=by unfold x5_;omega
theorem abz_ (m:List UInt8): (padR m).length%64=0∧(padR m).length≤m.length+72:=by
 have:=Xu_ (m.length+1)
 simp only[padR,List.length_append,List.length_replicate,QI_,List.length_cons,List.length_nil]
 omega
def shaR (m:List UInt8):List UInt8:=jK_ (vX_ initL (padR m) ((padR m).length / 64)) 32
theorem ad9_ (st s:List UInt32):xa_ st s 8= [st.getD 0 0+s.getD 0 0,st.getD 1 0+s.getD 1 0,st.getD 2 0+s.getD 2 0,st.getD 3 0+s.getD 3 0,st.getD 4 0+s.getD 4 0,st.getD 5 0+s.getD 5 0,st.getD 6 0+s.getD 6 0,st.getD 7 0+s.getD 7 0]:=rfl
end Go.Dig
section
open Go Go.Proofs Go.Sx Go.Dig
namespace Go.Proofs
set_option maxRecDepth 10000
set_option maxHeartbeats 1000000
set_option linter.unusedSimpArgs false
set_option linter.defProp false
def zC_:= @q1_
theorem Jt_ (m:List UInt8) (hm:m.length<1099511627776) (w:World):
  Rets Tryz.prog 136 #[vs m] w (fun v D=>v=vs (padR m)∧D= []):=by
 refine Rets.enterV Tryz.func136 rfl (rs:= [.tmp 2]) Tryz.results136 Tryz.ntmps136 ?_
 refine kf ?_
 first|with_reducible refine ks [] @zC_ ?_|refine kp @zC_ ?_
 have hz:=Xu_ (m.length+1)
 rw[show m++ [128]=m++ [128]++List.replicate 0 0 from(List.append_nil _).symm]
 refine Cw.loopG (G:=Nat) [9,10,11,12,13,14,3] (fun g=> [(3,vs (m++ [128]++List.replicate g 0))]) (fun g=> []) (fun g=>g≤x5_ ((m.length+1)%64)) (fun g=>x5_ ((m.length+1)%64) - g) 0 rfl rfl ?_ ?_
 ·omega
 intro g j hg
 refine kv ?_
 have hl: (m++ [128]++List.replicate g 0).length=m.length+1+g:=by simp;omega
 by_cases hlt:g<x5_ ((m.length+1)%64)
 ·have h56: (m.length+1+g)%64≠56:=by unfold x5_ at*;omega
  first|with_reducible refine ks [] (And.intro @zC_ @hl) ?_|refine kp (And.intro @zC_ @hl) ?_
  refine Again.mk (g+1) (by omega) (by omega) rfl ?_
  rw[show m++ [128]++List.replicate (g+1) 0=m++ [128]++List.replicate g 0++ [0] from by rw[List.replicate_succ'];simp]
  rfl
 ·have hge:g=x5_ ((m.length+1)%64):=by omega
  subst hge
  first|with_reducible refine ks [] (And.intro @zC_ @hl) ?_|refine kp (And.intro @zC_ @hl) ?_
  refine Ow.alloc rfl rfl Tryz.zr306 fun b1 hb1 hw1=> ?_
  rw[show UInt64.ofInt (m.length:Int)=UInt64.ofNat m.length from Jz_ _]
  refine ko @zC_ ?_
  first|with_reducible refine ks [] @zC_ ?_|refine kp @zC_ ?_
  generalize ht:UInt64.ofNat m.length*8=t
  rw[←WG_ t]
  refine Cw.loopG (G:=Nat) [19,20,23,24,25,26,27,28,29,30,4,21,22,6] (fun i=> [(4,v64 (quoN t i)),(6,vi i)]) (fun i=> [(b1, .cells (a8 (ja_ t i)) 306 (0,0))]) (fun i=>i≤8) (fun i=>8 - i) 0 rfl rfl ?_ ?_
  ·omega
  intro i ji hi
  refine kv ?_
  have htl:=Xb_ t i
  by_cases hi8:i<8
  ·first|with_reducible refine ks [] @zC_ ?_|refine kp @zC_ ?_
   refine Again.mk (i+1) (by omega) (by omega) ?_ rfl
   rw[Wu_ t i hi8]
  ·have hie:i=8:=by omega
   subst hie
   first|with_reducible refine ks [] @zC_ ?_|refine kp @zC_ ?_
   rw[List.drop_zero,List.take_of_length_le (show(ja_ t 8).length≤8 by omega),←ht,UInt64.mul_comm,aaq_]
   refine⟨_,(ke @zC_),⟨hw1,trivial⟩, ?_⟩
   rfl
theorem adl_ (st:List UInt32) (blk:List UInt8) (hst:st.length=8) (hbk:blk.length=64) (w:World):
  Rets Tryz.prog 137 #[.agg (a32 st),vs blk] w (fun v D=>v= .agg (a32 (comp st blk))∧D= []):=by
 have hkl:kL.length=64:=rfl
 refine Rets.enterV Tryz.func137 rfl (rs:= [.cell 4 251]) Tryz.results137 Tryz.ntmps137 ?_
 refine kf ?_
 first|with_reducible refine ks [] @zC_ ?_|refine kp @zC_ ?_
 refine Ow.box rfl rfl fun b1 hb1 hw1=> ?_
 refine ko @zC_ ?_
 refine Ow.alloc rfl rfl Tryz.zr251 fun b2 hb2 hw2=> ?_
 obtain⟨h12,-⟩:=hb2
 refine ko @zC_ ?_
 first|with_reducible refine ks [] @zC_ ?_|refine kp @zC_ ?_
 refine Ow.alloc rfl rfl Tryz.zr307 fun b3 hb3 hw3=> ?_
 obtain⟨h13,h23,-⟩:=hb3
 refine ko @zC_ ?_
 first|with_reducible refine ks [] @zC_ ?_|refine kp @zC_ ?_
 rw[←VK_ blk]
 refine Cw.loopG (G:=Nat) [22,23,26,27,28,29,30,31,32,33,34,35,36,37,38,39,40,41,42,43,44,45,46,47,48,49,50,51,52,53,54,55,56,24,25,6] (fun g=> [(6,vi g)]) (fun g=> [(b1, .cells (a32 st) 251 (0,0)),(b2, .cells (a32 (List.replicate 8 0)) 251 (0,0)),(b3, .cells (a32 (XX_ blk g)) 307 (0,0))]) (fun g=>g≤16) (fun g=>16 - g) 0 rfl rfl ?_ ?_
 ·omega
 intro g j hg
 refine kv ?_
 have hlen:=kA_ blk g
 by_cases hlt:g<16
 ·first|with_reducible refine ks [] @zC_ ?_|refine kp @zC_ ?_
  refine Cw.regionO [0,1,2,3,4,5,6,7,8,9,10,11,12,13,14,15,16,17,18,19,20,21,22,23,24,25,26,27,28,29,30,31] [31] rfl (by kernel_rfl) (by kernel_rfl) ?_
  simp only[zg_, ↓zc_, ↓za_, ↓zl_, ↓zk_,zb_]
  refine kq @zC_ ?_
  refine Ow.store rfl rfl rfl (ke @zC_) ?_
  refine ko @zC_ ?_
  first|with_reducible refine ks [] @zC_ ?_|refine kp @zC_ ?_
  exact Again.mk (g+1) (by omega) (by omega) (by rw[←VC_];rfl) rfl
 ·have hg16:g=16:=by omega
  subst hg16
  first|with_reducible refine ks [] @zC_ ?_|refine kp @zC_ ?_
  rw[acu_]
  refine Cw.loopG (G:=Nat) [57,58,61,62,63,64,65,66,67,68,8,9,69,70,71,72,73,74,75,76,77,78,79,80,81,82,83,84,85,86,87,88,89,90,91,92,93,94,95,96,97,59,60,7] (fun g=> [(7,vi g)]) (fun g=> [(b1, .cells (a32 st) 251 (0,0)),(b2, .cells (a32 (List.replicate 8 0)) 251 (0,0)),(b3, .cells (a32 (wG blk g)) 307 (0,0))]) (fun g=>16≤g∧g≤64) (fun g=>64 - g) 16 rfl rfl ?_ ?_
  ·omega
  intro g j hg
  refine kv ?_
  obtain⟨hg1,hg2⟩:=hg
  have hlen:=We_ blk g
  by_cases hlt:g<64
  ·first|with_reducible refine ks [] @zC_ ?_|refine kp @zC_ ?_
   refine Cw.regionO [0,1,2,4,5,6,3,8,7,9] [] rfl (by kernel_rfl) (by kernel_rfl) ?_
   simp only[zg_, ↓zc_, ↓za_, ↓zl_, ↓zk_,zb_]
   refine kq @zC_ ?_
   first|with_reducible refine ks [] @zC_ ?_|refine kp @zC_ ?_
   refine Cw.regionO [0,1,3,6,7,9,10,11,14,16,19,20,23,24,25,12,26,2,4,5,8,13,15,17,18,21,22,27,28,29] [29] rfl (by kernel_rfl) (by kernel_rfl) ?_
   simp only[zg_, ↓zc_, ↓za_, ↓zl_, ↓zk_,zb_]
   refine kq @zC_ ?_
   refine Ow.callFV rfl Tryz.call196 (fun w' hw'=>qK_ _ 17 w') ?_
   refine kq @zC_ ?_
   refine Ow.callFV rfl Tryz.call196 (fun w' hw'=>qK_ _ 19 w') ?_
   refine kq @zC_ ?_
   refine Ow.callFV rfl Tryz.call196 (fun w' hw'=>qK_ _ 7 w') ?_
   refine kq @zC_ ?_
   refine Ow.callFV rfl Tryz.call196 (fun w' hw'=>qK_ _ 18 w') ?_
   refine kq @zC_ ?_
   refine Ow.store rfl rfl rfl (ke @zC_) ?_
   refine ko @zC_ ?_
   first|with_reducible refine ks [] @zC_ ?_|refine kp @zC_ ?_
   exact Again.mk (g+1) (by omega) (by omega) (by rw[aeU_ blk g hg1];rfl) rfl
  ·have hg64:g=64:=by omega
   subst hg64
   rw[ajq_]
   have hwl:=QE_ blk
   first|with_reducible refine ks [] @zC_ ?_|refine kp @zC_ ?_
   refine Ow.callFV rfl Tryz.call197 (fun w' hw'=>aaB_ w') ?_
   refine ko @zC_ ?_
   refine Ow.alloc rfl rfl Tryz.zr307 fun b4 hb4 hw4=> ?_
   obtain⟨h14,h24,h34,-⟩:=hb4
   refine ko @zC_ ?_
   first|with_reducible refine ks [] @zC_ ?_|refine kp @zC_ ?_
   refine Cw.regionO [0,2,4,6,1,8,3,9,5,10,7,11] [] rfl (by kernel_rfl) (by kernel_rfl) ?_
   simp only[zg_, ↓zc_, ↓za_, ↓zl_, ↓zk_,zb_]
   refine kq @zC_ ?_
   first|with_reducible refine ks [] @zC_ ?_|refine kp @zC_ ?_
   refine Cw.regionO [0,2,4,6,1,8,3,9,5,10,7,11] [] rfl (by kernel_rfl) (by kernel_rfl) ?_
   simp only[zg_, ↓zc_, ↓za_, ↓zl_, ↓zk_,zb_]
   refine kq @zC_ ?_
   first|with_reducible refine ks [] @zC_ ?_|refine kp @zC_ ?_
   generalize hw:Vx_ blk=W at*
   refine Cw.loopG (G:=Nat) [115,116,119,120,121,122,123,124,125,126,127,128,129,130,131,132,133,134,135,136,137,138,139,140,141,142,143,144,145,20,146,147,148,149,150,151,152,153,154,155,156,157,158,159,160,161,162,163,164,165,21,166,18,167,17,168,16,169,170,171,15,172,14,173,13,174,12,175,176,177,11,117,118,19] (fun g=> [(19,vi g),(11,v32 ((rGo st W g).getD 0 0)),(12,v32 ((rGo st W g).getD 1 0)),(13,v32 ((rGo st W g).getD 2 0)),(14,v32 ((rGo st W g).getD 3 0)),(15,v32 ((rGo st W g).getD 4 0)),(16,v32 ((rGo st W g).getD 5 0)),(17,v32 ((rGo st W g).getD 6 0)),(18,v32 ((rGo st W g).getD 7 0))]) (fun g=> [(b1, .cells (a32 st) 251 (0,0)),(b2, .cells (a32 (List.replicate 8 0)) 251 (0,0)),(b3, .cells (a32 W) 307 (0,0)),(b4, .cells (a32 kL) 307 (0,0))]) (fun g=>g≤64) (fun g=>64 - g) 0 rfl rfl ?_ ?_
   ·omega
   ·intro g j hg
    refine kv ?_
    by_cases hlt:g<64
    ·first|with_reducible refine ks [] @zC_ ?_|refine kp @zC_ ?_
     refine Cw.regionO [0,1,3,6,10,11,12,13,14,15,16,17,19,20,23,24,21,25,2,4,5,7,8,9,18,22,26,27] [] rfl (by kernel_rfl) (by kernel_rfl) ?_
     simp only[zg_, ↓zc_, ↓za_, ↓zl_, ↓zk_,zb_]
     refine kq @zC_ ?_
     refine Ow.callFV rfl Tryz.call196 (fun w' hw'=>qK_ _ 6 w') ?_
     refine kq @zC_ ?_
     refine Ow.callFV rfl Tryz.call196 (fun w' hw'=>qK_ _ 11 w') ?_
     refine kq @zC_ ?_
     refine Ow.callFV rfl Tryz.call196 (fun w' hw'=>qK_ _ 25 w') ?_
     refine kq @zC_ ?_
     first|with_reducible refine ks [] @zC_ ?_|refine kp @zC_ ?_
     refine Ow.callFV rfl Tryz.call196 (fun w' hw'=>qK_ _ 2 w') ?_
     refine ko @zC_ ?_
     refine Ow.callFV rfl Tryz.call196 (fun w' hw'=>qK_ _ 13 w') ?_
     refine ko @zC_ ?_
     refine Ow.callFV rfl Tryz.call196 (fun w' hw'=>qK_ _ 22 w') ?_
     refine ko @zC_ ?_
     first|with_reducible refine ks [] @zC_ ?_|refine kp @zC_ ?_
     exact Again.mk (g+1) (by omega) (by omega) rfl rfl
    ·have hg64:g=64:=by omega
     subst hg64
     first|with_reducible refine ks [] @zC_ ?_|refine kp @zC_ ?_
     have hcomp:comp st blk=xa_ st (rGo st W 64) 8:=by rw[←hw];rfl
     rw[hcomp]
     generalize rGo st W 64=R at*
     rw[ad9_]
     refine Ow.build (.agg (a32 [st.getD 0 0+R.getD 0 0,st.getD 1 0+R.getD 1 0,st.getD 2 0+R.getD 2 0,st.getD 3 0+R.getD 3 0,st.getD 4 0+R.getD 4 0,st.getD 5 0+R.getD 5 0,st.getD 6 0+R.getD 6 0,st.getD 7 0+R.getD 7 0])) rfl (by kernel_rfl) ?_
     refine ko @zC_ ?_
     first|with_reducible refine ks [] @zC_ ?_|refine kp @zC_ ?_
     refine⟨_,(ke @zC_),⟨hw1,hw2,hw3,hw4,trivial⟩, ?_⟩
     rfl
end Go.Proofs
end
section
open Go Go.Proofs Go.Sx Go.Dig
namespace Go.Proofs
set_option maxRecDepth 10000
set_option maxHeartbeats 1000000
set_option linter.unusedSimpArgs false
set_option linter.defProp false
def jz_:= @q1_
theorem ab6_ (m:List UInt8) (hm:m.length<1099511627776) (w:World):
  Rets Tryz.prog 70 #[vs m] w (fun v D=>v= .agg (a8 (shaR m))∧D= []):=by
 refine Rets.enterV Tryz.func70 rfl (rs:= [.cell 2 24]) Tryz.results70 Tryz.ntmps70 ?_
 refine kf ?_
 first|with_reducible refine ks [] @jz_ ?_|refine kp @jz_ ?_
 refine Ow.alloc rfl rfl Tryz.zr24 fun b1 hb1 hw1=> ?_
 refine ko @jz_ ?_
 first|with_reducible refine ks [] @jz_ ?_|refine kp @jz_ ?_
 refine Ow.callFV rfl Tryz.call136 (fun w' hw'=>Jt_ m hm w') ?_
 have hp:=abz_ m
 unfold shaR
 generalize padR m=p at*
 refine ko @jz_ ?_
 first|with_reducible refine ks [] @jz_ ?_|refine kp @jz_ ?_
 refine Ow.build (.agg (a32 initL)) rfl (by kernel_rfl) ?_
 refine ko @jz_ ?_
 refine Ow.alloc rfl rfl Tryz.zr251 fun b2 hb2 hw2=> ?_
 obtain⟨h12,-⟩:=hb2
 have hil:initL.length=8:=rfl
 refine ko @jz_ ?_
 first|with_reducible refine ks [] @jz_ ?_|refine kp @jz_ ?_
 rw[show a32 initL=a32 (vX_ initL p 0) from rfl]
 refine Cw.loopG (G:=Nat) [11,12,13,14,17,18,19,20,21,22,23,15,16,5] (fun g=> [(5,vi (64*g))]) (fun g=> [(b1, .cells (a8 (List.replicate 32 0)) 24 (0,0)),(b2, .cells (a32 (vX_ initL p g)) 251 (0,0))]) (fun g=>64*g≤p.length) (fun g=>p.length - 64*g) 0 rfl rfl ?_ ?_
 ·omega
 intro g j hg
 refine kv ?_
 have hcl:=VO_ initL p g rfl
 by_cases hlt:64*g<p.length
 ·first|with_reducible refine ks [] @jz_ ?_|refine kp @jz_ ?_
  refine Cw.regionO [1,2,3,4,5,0,6,7] [7] rfl (by kernel_rfl) (by kernel_rfl) ?_
  simp only[zg_, ↓zc_, ↓za_, ↓zl_, ↓zk_,zb_]
  refine kq @jz_ ?_
  rw[show List.drop (64*g) (List.take (64*g+64) p)=(p.drop (64*g)).take 64 from by rw[List.drop_take];congr 1;omega]
  refine Ow.callFV rfl Tryz.call137 (fun w' hw'=>adl_ _ _ hcl (by simp;omega) w') ?_
  have hcl2:=wf_ (vX_ initL p g) ((p.drop (64*g)).take 64)
  refine kq @jz_ ?_
  refine Ow.store rfl rfl rfl (ke @jz_) ?_
  refine ko @jz_ ?_
  first|with_reducible refine ks [] @jz_ ?_|refine kp @jz_ ?_
  exact Again.mk (g+1) (by omega) (by omega) rfl (by rw[show 64* ((g+1:Nat):Int)=64* (g:Int)+64 from by omega];rfl)
 ·have hge:g=p.length / 64:=by omega
  first|with_reducible refine ks [] @jz_ ?_|refine kp @jz_ ?_
  rw[←hge]
  refine Ow.alloc rfl rfl Tryz.zr24 fun b3 hb3 hw3=> ?_
  obtain⟨h13,h23,-⟩:=hb3
  refine ko @jz_ ?_
  first|with_reducible refine ks [] @jz_ ?_|refine kp @jz_ ?_
  generalize vX_ initL p g=S at*
  rw[show [(b1,Obj.cells (a8 (List.replicate 32 0)) 24 (0,0)),(b2, .cells (a32 S) 251 (0,0)),(b3, .cells (a8 (List.replicate 32 0)) 24 (0,0))]= [(b1,Obj.cells (a8 (List.replicate 32 0)) 24 (0,0)),(b2, .cells (a32 S) 251 (0,0)),(b3, .cells (a8 (jK_ S 0)) 24 (0,0))] from by rw[Jg_]]
  refine Cw.loopG (G:=Nat) [24,25,28,29,30,31,32,33,34,35,36,37,38,39,40,26,27,7] (fun k=> [(7,vi k)]) (fun k=> [(b1, .cells (a8 (List.replicate 32 0)) 24 (0,0)),(b2, .cells (a32 S) 251 (0,0)),(b3, .cells (a8 (jK_ S k)) 24 (0,0))]) (fun k=>k≤32) (fun k=>32 - k) 0 rfl rfl ?_ ?_
  ·omega
  intro k jk hk
  refine kv ?_
  have hol:=outPre_length S k
  by_cases hk:k<32
  ·first|with_reducible refine ks [] @jz_ ?_|refine kp @jz_ ?_
   refine Again.mk (k+1) (by omega) (by omega) ?_ rfl
   have e: (UInt64.ofInt (24 - 8* ((k:Int)%4))).toNat=24 - 8* (k%4):=by
    rw[show(24 - 8* ((k:Int)%4))=((24 - 8* (k%4):Nat):Int) from by omega,Jz_,UInt64.toNat_ofNat',Nat.mod_eq_of_lt (by omega)]
   rw[e,←xH_];rfl
  ·have hke:k=32:=by omega
   subst hke
   first|with_reducible refine ks [] @jz_ ?_|refine kp @jz_ ?_
   refine⟨_,(ke @jz_),⟨hw1,hw2,hw3,trivial⟩, ?_⟩
   rfl
end Go.Proofs
end
namespace Go.Dig
open Go.Sx
structure Inv (s:Hs) (p:List UInt8):Prop where
 ok:s.Ok
 st:s.st=vX_ initL p (p.length / 64)
 many:s.many=p.length%64
 rest:s.rest.take s.many=p.drop (64* (p.length / 64))
theorem Inv.put {s:Hs} {p:List UInt8} (h:Inv s p) (x:UInt8):Inv (JE_ s x) (p++ [x]):=by
 obtain⟨hok,hst,hmany,hrest⟩:=h
 have hk:=X7_ x hok
 have hm64:=hok.many
 have hrl:=hok.rest
 have hle:64* (p.length / 64)≤p.length:=by omega
 have htake: (s.rest.set s.many x).take (s.many+1)=p.drop (64* (p.length / 64))++ [x]:=by
  rw[List.take_add_one,List.take_set,←hrest]
  congr 1
  ·rw[List.set_eq_of_length_le (by simp only[List.length_take];exact Nat.min_le_left _ _)]
  ·simp[hrl,hm64]
 have hlen: (p++ [x]).length=p.length+1:=by simp
 have hc:vX_ initL (p++ [x]) (p.length / 64)=vX_ initL p (p.length / 64):=V4_ _ _ _ _ hle
 by_cases h64:s.many+1=64
 ·have e:JE_ s x=⟨comp s.st (s.rest.set s.many x),s.rest.set s.many x,0⟩:=by unfold JE_;rw[if_pos h64]
  have hd: (p.length+1) / 64=p.length / 64+1:=by omega
  have hr: (s.rest.set s.many x)=p.drop (64* (p.length / 64))++ [x]:=by
   rw[←htake,h64,List.take_of_length_le (by simp[hrl])]
  refine⟨hk, ?_, ?_, ?_⟩
  ·rw[e,hlen,hd]
   show comp s.st _=comp (vX_ initL (p++ [x]) (p.length / 64)) _
   rw[hc,←hst,hr,List.drop_append_of_le_length hle,List.take_of_length_le (by simp;omega)]
  ·rw[e,hlen];show 0=_;omega
  ·rw[e,hlen]
   show List.take 0 _=_
   rw[List.take_zero,List.drop_of_length_le (by rw[hlen];omega)]
 ·have e:JE_ s x=⟨s.st,s.rest.set s.many x,s.many+1⟩:=by unfold JE_;rw[if_neg h64]
  have hd: (p.length+1) / 64=p.length / 64:=by omega
  refine⟨hk, ?_, ?_, ?_⟩
  ·rw[e,hlen,hd,hc];exact hst
  ·rw[e,hlen];show s.many+1=_;omega
  ·rw[e,hlen,hd]
   show List.take (s.many+1) (s.rest.set s.many x)=_
   rw[htake,List.drop_append_of_le_length hle]
theorem Inv.puts {s:Hs} {p:List UInt8} (h:Inv s p) (l:List UInt8):Inv (qE_ s l) (p++l):=by
 induction l generalizing s p with
 |nil=>rw[List.append_nil];exact h
 |cons x r ih=>
  have:=ih (h.put x)
  rw[List.append_assoc] at this
  exact this
theorem Inv.zero:Inv H0 []:=⟨alV_,rfl,rfl,rfl⟩
theorem aiP_ (p:List UInt8): (qE_ H0 p).st=vX_ initL p (p.length / 64):=(Inv.zero.puts p).st
theorem afY_ (l:List (List UInt8)) (n:Nat):kk_ (UInt64.ofNat n) l=UInt64.ofNat (n+l.flatten.length):=by
 induction l generalizing n with
 |nil=>rfl
 |cons a r ih=>
  show kk_ (UInt64.ofNat n+UInt64.ofNat a.length) r=_
  rw[←UInt64.ofNat_add,ih,List.flatten_cons,List.length_append,Nat.add_assoc]
theorem aj7_ (m:List UInt8):hsum (qE_ H0 m) (UInt64.ofNat m.length)=shaR m:=by
 unfold hsum shaR
 rw[←aiP_]
 suffices h:acZ_ (qE_ H0 m) (UInt64.ofNat m.length)=qE_ H0 (padR m) by rw[h]
 have hmany: (JE_ (qE_ H0 m) 128).many=(m.length+1)%64:=by
  have:=((Inv.zero.puts m).put 128).many
  rw[this];simp
 unfold acZ_ padR
 rw[hmany,ju_,ju_,ju_,show qE_ (qE_ H0 m) [128]=JE_ (qE_ H0 m) 128 from rfl]
theorem sumV_eq (l:List (List UInt8)):sumV l=shaR l.flatten:=by
 unfold sumV
 have:=afY_ l 0
 rw[Nat.zero_add] at this
 rw[show(0:UInt64)=UInt64.ofNat 0 from rfl,this,aj7_]
end Go.Dig
section
open Go Go.Proofs Go.Sx Go.StP
namespace Go.Proofs
set_option maxRecDepth 10000
set_option maxHeartbeats 400000
set_option linter.unusedSimpArgs false
theorem GlobE.new {w0 w:World} {L:zd_} (hg:GlobE w0) (h:Hp w0 L w) (hn:New w0.heap.size L):GlobE w:=by
 obtain⟨e0,e1,f0,f1,h0,h1⟩:=id hg
 have:3<w0.heap.size:=(Array.getElem?_eq_some_iff.1 h1).1
 exact hg.of h fun b hb=>by have:=hn.le b hb;omega
theorem abK_ {k:Int} {t:List UInt8} (h:xA_ k t=true): (j2_ k t).length<100000:=by
 obtain⟨h1,h2,h3⟩:=Zr_ h
 have hh: (wO_ k).length≤4:=by unfold wO_;simp only[List.length_drop,List.length_take,List.length_cons,List.length_nil];omega
 have:=zz_ (t.length:Int)
 unfold j2_ jk_
 rw[List.length_append,List.length_append]
 omega
theorem Z6_ (m:List UInt8): (Dig.shaR m).length=32:=Dig.outPre_length _ _
set_option linter.defProp false
def qb_:=And.intro (And.intro (And.intro (@jt_) (@qH_)) (And.intro (@qC_) (@qO_))) (And.intro (And.intro (@Sx.tup2_0) (@Sx.tup2_1)) (And.intro (@zL_) (@zK_)))
def idV (k:Int) (t:List UInt8):IdL:=if xA_ k t then⟨Dig.shaR (j2_ k t),Z6_ _⟩ else id0
theorem aeW_:jl_ (wG_ Tryz.prog 24) (zZ_ Tryz.prog 24) []=some (.agg (a8 id0.l)):=id (by kernel_rfl)
theorem KL_ (k:Int) (t:List UInt8) (w:World) (hG:GlobE w):Rets Tryz.prog 66 #[obV k t] w (fun v D=>v= .tuple #[.agg (a8 (idV k t).l), .bool (xA_ k t)]∧D= []):=by
 refine Rets.enterV Tryz.func66 rfl (rs:= [.cell 2 24, .tmp 3]) Tryz.results66 Tryz.ntmps66 ?_
 refine kf ?_
 first|with_reducible refine ks [] @qb_ ?_|refine kp @qb_ ?_
 refine Ow.box rfl rfl fun b1 hb1 hw1=> ?_
 simp only[zV_,zT_,z6_,ze_,List.nil_append]
 refine ko @qb_ ?_
 refine Ow.alloc rfl rfl ZL_ fun b2 hb2 hw2=> ?_
 simp only[ze_,List.nil_append,List.cons_append]
 have h12:b1<b2:=zf_ hb2 (by simp[keys])
 have hi0:=id0.h
 refine ko @qb_ ?_
 refine Ow.callC rfl rfl Tryz.call117 (fun w' hw'=>aav_ k t w') (fun B v D hA hB hN hS=> ?_)
 have hD:New w.heap.size D:=New.mono hB hN
 unfold idV
 cases hr:xA_ k t
 ·rw[hr,if_neg (by decide)] at hS
  subst hS
  have e: ((1:Int) !=0)=true:=rfl
  refine ko @qb_ ?_
  first|with_reducible refine ks [] (And.intro @qb_ @e) ?_|refine kp (And.intro @qb_ @e) ?_
  refine Ow.build (.agg (a8 id0.l)) rfl aeW_ ?_
  refine ko @qb_ ?_
  first|with_reducible refine ks [] @qb_ ?_|refine kp @qb_ ?_
  refine⟨_,(ke @qb_),⟨hw1,hw2,hD⟩, ?_⟩
  rfl
 ·rw[hr,if_pos rfl] at hS
  subst hS
  have e: ((0:Int) !=0)=false:=rfl
  have hfl:=abK_ hr
  have hzl: ∀i,i< [j2_ k t].length→([j2_ k t].getD i []).length<1099511627776:=fun i hi=>by
   obtain rfl:i=0:=by simpa using hi
   show(j2_ k t).length<_;omega
  refine ko @qb_ ?_
  first|with_reducible refine ks [] (And.intro @qb_ @e) ?_|refine kp (And.intro @qb_ @e) ?_
  refine Ow.buildSlice (e:=9) #[vs (j2_ k t)] rfl rfl (by kernel_rfl) fun b15 hb15 hw15=> ?_
  refine ko @qb_ ?_
  refine Ow.callFV rfl Tryz.call118 (fun w' hw'=>agp_ _ b15 0 [j2_ k t] _ _ _ w' (hG.new hw' (by exact⟨hw1,hw2,New.app hD ⟨hw15,trivial⟩⟩)) (StrS.lit [j2_ k t] rfl rfl (hw'.has _ (.cells #[vs (j2_ k t)] 9 (0,0)) (by simp))) (by show(1:Nat)<1099511627776;omega) hzl) ?_
  rw[Dig.sumV_eq,show([j2_ k t]:List (List UInt8)).flatten=j2_ k t by simp]
  have hsl:=Z6_ (j2_ k t)
  refine ko @qb_ ?_
  first|with_reducible refine ks [] @qb_ ?_|refine kp @qb_ ?_
  refine⟨_,(ke @qb_),⟨hw1,hw2,hD.app ⟨hw15,trivial⟩⟩, ?_⟩
  rfl
def wE_ (k:Int) (t:List UInt8):List UInt8:=(if k=3 then [99] else if k=2 then [116] else [98])++jk_ t
theorem afL_ {k:Int} {t:List UInt8} (h:xA_ k t=true):wE_ k t=j2_ k t:=by
 obtain⟨h1,h2,-⟩:=Zr_ h
 unfold wE_ j2_
 rcases(show k=1∨k=2∨k=3 by omega) with rfl|rfl|rfl<;>rfl
theorem aa0_ (k:Int) (t:List UInt8) (w:World) (ht:t.length<100000):Rets Tryz.prog 71 #[obV k t] w (fun v D=>v=vs (wE_ k t)∧D= []):=by
 have tl:=xE_ (s:=t) (by omega)
 refine Rets.enterV Tryz.func71 rfl (rs:= [.tmp 2]) Tryz.results71 Tryz.ntmps71 ?_
 refine kf ?_
 first|with_reducible refine ks [] @qb_ ?_|refine kp @qb_ ?_
 refine Ow.box rfl rfl fun b1 hb1 hw1=> ?_
 simp only[zV_,zT_,z6_,ze_,List.nil_append]
 unfold wE_
 by_cases h3:k=3
 ·have e2: (k==2)=false:=beq_eq_false_iff_ne.2 (by omega)
  have e3: (k==3)=true:=by simp[h3]
  rw[if_pos h3]
  refine ko (And.intro @qb_ (And.intro @e2 (@e3))) ?_
  first|with_reducible refine ks [] (And.intro @qb_ (And.intro @e2 (@e3))) ?_|refine kp (And.intro @qb_ (And.intro @e2 (@e3))) ?_
  refine Ow.callFV rfl Tryz.call138 (fun w' hw'=>x3_ t w' (by omega)) ?_
  refine ko @qb_ ?_
  first|with_reducible refine ks [] @qb_ ?_|refine kp @qb_ ?_
  refine⟨_,(ke @qb_),⟨hw1,trivial⟩, ?_⟩
  rfl
 ·have e3: (k==3)=false:=by simpa using h3
  rw[if_neg h3]
  by_cases h2:k=2
  ·have e2: (k==2)=true:=by simp[h2]
   rw[if_pos h2]
   refine ko (And.intro @qb_ (And.intro @e2 (@e3))) ?_
   first|with_reducible refine ks [] (And.intro @qb_ (And.intro @e2 (@e3))) ?_|refine kp (And.intro @qb_ (And.intro @e2 (@e3))) ?_
   refine Ow.callFV rfl Tryz.call138 (fun w' hw'=>x3_ t w' (by omega)) ?_
   refine ko @qb_ ?_
   first|with_reducible refine ks [] @qb_ ?_|refine kp @qb_ ?_
   refine⟨_,(ke @qb_),⟨hw1,trivial⟩, ?_⟩
   rfl
  ·have e2: (k==2)=false:=by simpa using h2
   rw[if_neg h2]
   refine ko (And.intro @qb_ (And.intro @e2 (@e3))) ?_
   first|with_reducible refine ks [] (And.intro @qb_ (And.intro @e2 (@e3))) ?_|refine kp (And.intro @qb_ (And.intro @e2 (@e3))) ?_
   refine Ow.callFV rfl Tryz.call138 (fun w' hw'=>x3_ t w' (by omega)) ?_
   refine ko @qb_ ?_
   first|with_reducible refine ks [] @qb_ ?_|refine kp @qb_ ?_
   refine⟨_,(ke @qb_),⟨hw1,trivial⟩, ?_⟩
   rfl
theorem acQ_ (k:Int) (t:List UInt8) (w:World) (ht:t.length<100000):Rets Tryz.prog 20 #[obV k t] w (fun v D=>v= .agg (a8 (Dig.shaR (wE_ k t)))∧D= []):=by
 have tl:=xE_ (s:=t) (by omega)
 have fl: (wE_ k t).length<1099511627776:=by
  have nl:=zz_ (t.length:Int)
  unfold wE_ jk_;rw[List.length_append,List.length_append]
  have: ((if k=3 then [99] else if k=2 then [116] else [98]:List UInt8)).length=1:=by split<;>(try split)<;>rfl
  omega
 have hsl:=Z6_ (wE_ k t)
 refine Rets.enterV Tryz.func20 rfl (rs:= [.cell 2 24]) Tryz.results20 Tryz.ntmps20 ?_
 refine kf ?_
 first|with_reducible refine ks [] @qb_ ?_|refine kp @qb_ ?_
 refine Ow.box rfl rfl fun b1 hb1 hw1=> ?_
 simp only[zV_,zT_,z6_,ze_,List.nil_append]
 refine ko @qb_ ?_
 refine Ow.alloc rfl rfl ZL_ fun b2 hb2 hw2=> ?_
 simp only[ze_,List.nil_append,List.cons_append]
 have h12:b1<b2:=zf_ hb2 (by simp[keys])
 have hi0:=id0.h
 refine ko @qb_ ?_
 refine Ow.callFV rfl Tryz.call71 (fun w' hw'=>aa0_ k t w' ht) ?_
 refine ko @qb_ ?_
 refine Ow.callFV rfl Tryz.call70 (fun w' hw'=>ab6_ _ fl w') ?_
 refine ko @qb_ ?_
 first|with_reducible refine ks [] @qb_ ?_|refine kp @qb_ ?_
 refine⟨_,(ke @qb_),⟨hw1,hw2,trivial⟩, ?_⟩
 rfl
instance:DecidableEq ChildL:=fun a b=>if h:a.id.l=b.id.l∧a.kind=b.kind then .isTrue (by cases a;cases b;simp only at h;obtain⟨h3,rfl⟩:=h;rw[IdL.ext' h3]) else .isFalse (fun e=>h (by rw[e];exact⟨rfl,rfl⟩))
theorem ChildL.ext' {a b:ChildL} (h: (a.id.l==b.id.l&&a.kind==b.kind)=true):a=b:=by
 simp only[Bool.and_eq_true,beq_iff_eq] at h
 cases a;cases b;simp only at h;obtain⟨h3,rfl⟩:=h;rw[IdL.ext' h3]
set_option linter.defProp false
end Go.Proofs
end
section
open Go Go.Proofs Go.Sx Go.StP
namespace Go.Proofs
set_option maxRecDepth 10000
set_option maxHeartbeats 1000000
set_option linter.unusedSimpArgs false
theorem akc_ {t:List UInt8} (h:xA_ 2 t=true):qt_ (qM_ t).1=true:=by
 have:=h
 unfold xA_ at this
 rw[if_pos (Zr_ h),if_neg (by decide),if_pos rfl] at this
 simp only[Bool.and_eq_true] at this
 exact this.2
set_option linter.defProp false
end Go.Proofs
end
namespace Go.RooP
open Go Go.Sx
abbrev Il:=List (List UInt8)
def putI (x:List UInt8):Il→Il
 | []=> [x]
 |a::l=>if ltB a x=true then a::putI x l else if a==x then a::l else x::a::l
def Ris (l:Il):Prop:=l.Pairwise fun a b=>ltB a b=true
theorem mem_putI {x y:List UInt8}: ∀ {l:Il},y∈putI x l↔y=x∨y∈l
 | []=>by simp[putI]
 |a::l=>by
  unfold putI
  split
  ·rw[List.mem_cons,mem_putI (l:=l),List.mem_cons]
   constructor
   ·rintro(h|h|h)<;>simp[h]
   ·rintro(h|h|h)<;>simp[h]
  ·split
   ·rename_i h;have h:=eq_of_beq h;subst h
    rw[List.mem_cons]
    constructor
    ·rintro(h|h)<;>simp[h]
    ·rintro(h|h|h)<;>simp[h]
   ·rw[List.mem_cons]
theorem ac4_ {x:List UInt8}: ∀ {l:Il},Ris l→Ris (putI x l)
 | [],_=>by simp[putI,Ris]
 |a::l,h=>by
  have h1:=List.pairwise_cons.1 h
  unfold putI
  split
  ·rename_i hlt
   refine List.pairwise_cons.2 ⟨fun y hy=> ?_,ac4_ h1.2⟩
   rcases mem_putI.1 hy with rfl|hy
   ·exact hlt
   ·exact h1.1 y hy
  ·rename_i hlt
   split
   ·exact h
   ·rename_i hne
    have hxa:ltB x a=true:=xx_ (by simpa using hlt) (fun e=>hne (by simp[e]))
    refine List.pairwise_cons.2 ⟨fun y hy=> ?_,h⟩
    rcases List.mem_cons.1 hy with rfl|hy
    ·exact hxa
    ·exact x9_ hxa (h1.1 y hy)
theorem Ris.ext: ∀ {a b:Il},Ris a→Ris b→(∀x,x∈a↔x∈b)→a=b
 | [],[],_,_,_=>rfl
 | [],y::b,_,_,h=>by have:=(h y).2 List.mem_cons_self;cases this
 |x::a,[],_,_,h=>by have:=(h x).1 List.mem_cons_self;cases this
 |x::a,y::b,ha,hb,h=>by
  have pa:=List.pairwise_cons.1 ha
  have pb:=List.pairwise_cons.1 hb
  have hxy:x=y:=by
   rcases List.mem_cons.1 ((h x).1 List.mem_cons_self) with e|e
   ·exact e
   ·rcases List.mem_cons.1 ((h y).2 List.mem_cons_self) with e2|e2
    ·exact e2.symm
    ·have h1:=pa.1 y e2
     have h2:=pb.1 x e
     rw[QX_ h1] at h2;cases h2
  subst hxy
  congr 1
  refine Ris.ext pa.2 pb.2 fun z=> ?_
  have hz:=h z
  rw[List.mem_cons,List.mem_cons] at hz
  constructor
  ·intro hm
   rcases hz.1 (.inr hm) with rfl|h3
   ·have:=pa.1 z hm;rw[xq_] at this;cases this
   ·exact h3
  ·intro hm
   rcases hz.2 (.inr hm) with rfl|h3
   ·have:=pb.1 z hm;rw[xq_] at this;cases this
   ·exact h3
end Go.RooP
namespace Go.RefP
open Go Go.Sx
abbrev Pr:=List UInt8×List UInt8
def zp:Pr:=([],[])
def setM (z:List UInt8) (r:Pr) (m:jQ_):jQ_:=if r.2==z then delV r.1 (updV r.1 r.2 m) else updV r.1 r.2 m
def QW_ (x:Pr):jQ_→Bool→jQ_
 | [],dn=>if dn then [] else [x]
 |p::r,dn=>if p.1==x.1 then QW_ x r dn else if !dn&& !(ltB p.1 x.1||p.1==x.1) then x::p::QW_ x r true else p::QW_ x r dn
def setL (z:List UInt8) (l:jQ_) (x:Pr):jQ_:=QW_ x l (x.2==z)
def Rising (l:jQ_):Prop:=l.Pairwise fun a b=>ltB a.1 b.1=true
def kX_ (m:jQ_):Prop:=(m.map Prod.fst).Nodup
theorem Rising.nd {l:jQ_} (h:Rising l):kX_ l:=by
 unfold kX_ List.Nodup
 rw[List.pairwise_map]
 exact List.Pairwise.imp (fun hab=>ajb_ hab) h
def but (k:List UInt8) (m:jQ_):jQ_:=m.filter fun p=> !(p.1==k)
theorem X3_ {k:List UInt8} {m:jQ_} (h:k∉m.map Prod.fst):but k m=m:=by
 unfold but
 refine List.filter_eq_self.2 fun p hp=> ?_
 have:p.1≠k:=fun e=>h (List.mem_map.2 ⟨p,hp,e⟩)
 simp[this]
theorem Vk_ (k:List UInt8) (m:jQ_):k∉ (but k m).map Prod.fst:=by
 intro h
 obtain⟨p,hp,rfl⟩:=List.mem_map.1 h
 simp[but] at hp
theorem wt_ {k v:List UInt8}: ∀ {m:jQ_},kX_ m→(updV k v m).Perm ((k,v)::but k m)
 | [],_=>List.Perm.refl _
 |p::r,h=>by
  simp only[kX_,List.map_cons,List.nodup_cons] at h
  unfold updV
  cases hk: (k==p.1)
  ·simp only[Bool.false_eq_true, ↓reduceIte]
   have hk': (p.1==k)=false:=by
    rw[beq_eq_false_iff_ne] at hk ⊢;exact fun e=>hk e.symm
   have ih:=wt_ (k:=k) (v:=v) (m:=r) h.2
   have:but k (p::r)=p::but k r:=by unfold but;rw[List.filter_cons];simp[hk']
   rw[this]
   exact(List.Perm.cons p ih).trans (List.Perm.swap _ _ _)
  ·simp only[↓reduceIte]
   have e:k=p.1:=by simpa using hk
   subst e
   have:but p.1 (p::r)=r:=by
    have h2:=X3_ h.1
    unfold but at h2 ⊢;rw[List.filter_cons];simp[h2]
   rw[this]
theorem aku_ {k v:List UInt8} {m:jQ_} (h:kX_ m):kX_ (updV k v m):=by
 have hp:=(wt_ (k:=k) (v:=v) h).map Prod.fst
 refine(List.Perm.nodup_iff hp).2 ?_
 simp only[List.map_cons,List.nodup_cons]
 refine⟨Vk_ k m, ?_⟩
 exact List.Nodup.sublist (List.Sublist.map _ List.filter_sublist) h
theorem agt_ {k:List UInt8}: ∀ {m:jQ_},kX_ m→delV k m=but k m
 | [],_=>rfl
 |p::r,h=>by
  simp only[kX_,List.map_cons,List.nodup_cons] at h
  unfold delV
  cases hk: (k==p.1)
  ·have hk': (p.1==k)=false:=by
    rw[beq_eq_false_iff_ne] at hk ⊢;exact fun e=>hk e.symm
   simp only[Bool.false_eq_true, ↓reduceIte,agt_ h.2]
   unfold but;rw[List.filter_cons];simp[hk']
  ·have e:k=p.1:=by simpa using hk
   subst e
   simp only[↓reduceIte]
   have h2:=X3_ h.1
   unfold but at h2 ⊢;rw[List.filter_cons];simp[h2]
theorem ajJ_ {k v:List UInt8} {m:jQ_} (h:kX_ m): (but k (updV k v m)).Perm (but k m):=by
 have hp:=(wt_ (k:=k) (v:=v) h).filter fun p=> !(p.1==k)
 have e1:List.filter (fun p=> !(p.1==k)) ((k,v)::but k m)=but k m:=by
  rw[List.filter_cons]
  simp only[beq_self_eq_true,Bool.not_true,Bool.false_eq_true, ↓reduceIte]
  exact X3_ (Vk_ k m)
 rw[e1] at hp
 exact hp
theorem agu_ {z:List UInt8} {r:Pr} {m:jQ_} (h:kX_ m): (setM z r m).Perm (if r.2==z then but r.1 m else r::but r.1 m):=by
 unfold setM
 split
 ·rw[agt_ (aku_ h)];exact ajJ_ h
 ·exact wt_ h
theorem xj_ (x:Pr): ∀ (l:jQ_),QW_ x l true=but x.1 l
 | []=>rfl
 |p::r=>by
  unfold QW_
  cases h: (p.1==x.1)
  ·simp only[Bool.false_eq_true, ↓reduceIte,Bool.not_true,Bool.false_and,xj_ x r]
   unfold but;rw[List.filter_cons];simp[h]
  ·simp only[↓reduceIte,xj_ x r]
   unfold but;rw[List.filter_cons];simp[h]
theorem vp_ (x:Pr): ∀ (l:jQ_),(QW_ x l false).Perm (x::but x.1 l)
 | []=>List.Perm.refl _
 |p::r=>by
  unfold QW_
  cases h: (p.1==x.1)
  ·have e:but x.1 (p::r)=p::but x.1 r:=by unfold but;rw[List.filter_cons];simp[h]
   simp only[Bool.false_eq_true, ↓reduceIte,Bool.not_false,Bool.true_and,Bool.or_false]
   rw[e]
   split
   ·rw[xj_]
   ·exact(List.Perm.cons p (vp_ x r)).trans (List.Perm.swap _ _ _)
  ·have e:but x.1 (p::r)=but x.1 r:=by unfold but;rw[List.filter_cons];simp[h]
   simp only[↓reduceIte]
   rw[e]
   exact vp_ x r
theorem ago_ (z:List UInt8) (l:jQ_) (x:Pr): (setL z l x).Perm (if x.2==z then but x.1 l else x::but x.1 l):=by
 unfold setL
 cases x.2==z
 ·exact vp_ x l
 ·rw[xj_];exact List.Perm.refl _
theorem Xx_ {k:List UInt8} {l:jQ_} (h:Rising l):Rising (but k l):=List.Pairwise.sublist List.filter_sublist h
theorem aeC_ {x p:Pr} {l:jQ_} (h:p∈QW_ x l false):p=x∨p∈l:=by
 have:=(vp_ x l).mem_iff.1 h
 rcases List.mem_cons.1 this with rfl|h2
 ·exact .inl rfl
 ·exact .inr (List.mem_filter.1 h2).1
theorem k4_ (x:Pr): ∀ {l:jQ_},Rising l→Rising (QW_ x l false)
 | [],_=>List.pairwise_singleton _ _
 |p::r,h=>by
  have h':=List.pairwise_cons.1 h
  unfold QW_
  cases hk: (p.1==x.1)
  ·simp only[Bool.false_eq_true, ↓reduceIte,Bool.not_false,Bool.true_and,Bool.or_false]
   have hne:p.1≠x.1:=by simpa using hk
   cases hl:ltB p.1 x.1
   ·have hx:=xx_ hl hne
    simp only[Bool.not_false, ↓reduceIte]
    rw[xj_]
    refine List.pairwise_cons.2 ⟨?_,List.pairwise_cons.2 ⟨?_,Xx_ h'.2⟩⟩
    ·intro q hq
     rcases List.mem_cons.1 hq with rfl|hq
     ·exact hx
     ·exact x9_ hx (h'.1 q (List.mem_filter.1 hq).1)
    ·intro q hq
     exact h'.1 q (List.mem_filter.1 hq).1
   ·simp only[Bool.not_true,Bool.false_eq_true, ↓reduceIte]
    refine List.pairwise_cons.2 ⟨?_,k4_ x h'.2⟩
    intro q hq
    rcases aeC_ hq with rfl|hq
    ·exact hl
    ·exact h'.1 q hq
  ·simp only[↓reduceIte]
   exact k4_ x h'.2
theorem abZ_ {z:List UInt8} {l:jQ_} {x:Pr} (h:Rising l):Rising (setL z l x):=by
 unfold setL
 cases x.2==z
 ·exact k4_ x h
 ·rw[xj_];exact Xx_ h
def Rel (m l:jQ_):Prop:=m.Perm l∧Rising l
theorem Rel.nd {m l:jQ_} (h:Rel m l):kX_ m:=(List.Perm.nodup_iff (h.1.map Prod.fst)).2 h.2.nd
theorem Rel.set {z:List UInt8} {m l:jQ_} {x:Pr} (h:Rel m l):Rel (setM z x m) (setL z l x):=by
 refine⟨?_,abZ_ h.2⟩
 have hb: (but x.1 m).Perm (but x.1 l):=h.1.filter _
 refine(agu_ h.nd).trans (List.Perm.trans ?_ (ago_ z l x).symm)
 split
 ·exact hb
 ·exact List.Perm.cons _ hb
def ams_ (nm:List UInt8→Bool) (z:List UInt8) (t:jQ_) (g:Nat):Bool:=
 nm (t.getD g zp).1&& !((t.getD g zp).2==z)&& (g==0||ltB (t.getD (g - 1) zp).1 (t.getD g zp).1)
def logL (nm:List UInt8→Bool) (z:List UInt8) (l:jQ_) (m0:jQ_):Nat→Option jQ_
 |0=>some m0
 |g+1=>(logL nm z l m0 g).bind fun m=>if(nm (l.getD g zp).1&&decide ((setL z m (l.getD g zp)).length≤16))=true then some (setL z m (l.getD g zp)) else none
def alN_ (nm:List UInt8→Bool) (z:List UInt8) (t:jQ_):Bool:=(List.range t.length).all (ams_ nm z t)
def ofL (nm:List UInt8→Bool) (z:List UInt8) (t l:jQ_) (k:Nat):Option jQ_:=
 if t.length≤16∧l.length≤100∧alN_ nm z t=true then logL nm z l t k else none
def V3_ (nm:List UInt8→Bool) (z:List UInt8) (t l:jQ_):Bool:=(ofL nm z t l l.length).isSome
theorem Kn_ {k v:List UInt8}: ∀ {m:jQ_} {p:Pr},p∈updV k v m→p.2=v∨p∈m
 | [],p,h=>by simp only[updV,List.mem_singleton] at h;exact .inl (by rw[h])
 |q::r,p,h=>by
  unfold updV at h
  split at h
  ·rcases List.mem_cons.1 h with rfl|h
   ·exact .inl rfl
   ·exact .inr (List.mem_cons_of_mem _ h)
  ·rcases List.mem_cons.1 h with rfl|h
   ·exact .inr List.mem_cons_self
   ·rcases Kn_ h with h|h
    ·exact .inl h
    ·exact .inr (List.mem_cons_of_mem _ h)
theorem acp_ {k:List UInt8}: ∀ {m:jQ_} {p:Pr},p∈delV k m→p∈m
 | [],_,h=>h
 |q::r,p,h=>by
  unfold delV at h
  split at h
  ·exact List.mem_cons_of_mem _ h
  ·rcases List.mem_cons.1 h with rfl|h
   ·exact List.mem_cons_self
   ·exact List.mem_cons_of_mem _ (acp_ h)
theorem aib_ {z:List UInt8} {r p:Pr} {m:jQ_} (h:p∈setM z r m):p.2=r.2∨p∈m:=by
 unfold setM at h
 split at h
 ·exact Kn_ (acp_ h)
 ·exact Kn_ h
def AllLen (m:jQ_):Prop:= ∀p,p∈m→p.2.length=32
theorem AllLen.set {z:List UInt8} {r:Pr} {m:jQ_} (h:AllLen m) (hr:r.2.length=32):AllLen (setM z r m):=by
 intro p hp
 rcases aib_ hp with e|h2
 ·rw[e];exact hr
 ·exact h p h2
end Go.RefP
section
open Go Go.Proofs Go.Sx Go.RefP Go.RooP
namespace Go.Proofs
set_option maxRecDepth 100000
set_option maxHeartbeats 400000
set_option linter.unusedSimpArgs false
theorem ae2_: ∀ (a b:List UInt8),Lib.compareBytes a b=if ltB a b=true then -1 else if ltB b a=true then 1 else 0
 | [],[]=>by simp[Lib.compareBytes,ltB,Op.bytesLess]
 |_::_,[]=>by simp[Lib.compareBytes,ltB,Op.bytesLess]
 | [],_::_=>by simp[Lib.compareBytes,ltB,Op.bytesLess]
 |a::x,b::y=>by
  have ih:=ae2_ x y
  unfold Lib.compareBytes
  rw[QL_,QL_] at*
  rw[ih]
  simp only[List.cons_lt_cons_iff,decide_eq_true_eq]
  by_cases h1:a<b
  ·simp[h1]
  ·by_cases h2:b<a
   ·have: ¬a=b:=fun e=>by subst e;exact h1 h2
    simp[h1,h2,this]
   ·have:a=b:=UInt8.le_antisymm (UInt8.not_lt.1 h2) (UInt8.not_lt.1 h1)
    subst this
    simp[h1]
theorem vT_ {b:Nat} {E:TypeId} {fz:Nat×Nat} {arr:Array Value} {w:World} (hb:w.heap[b]? =some (.cells arr E fz)): ∀ (l:List UInt8) (off:Nat) (acc:ByteArray),(∀j,j<l.length→arr[off+j]? =some (v8 (l.getD j 0)))→
  (Extern.Bytes.loadBytes ⟨b,off,none⟩ l.length acc).run Tryz.prog w= .ok (acc++ ⟨l.toArray⟩) w
 | [],off,acc,_=>by
  show Result.ok acc w=_
  congr 1
  apply ByteArray.ext
  simp
 |x::l,off,acc,h=>by
  have h0:=h 0 (by simp)
  simp only[Nat.add_zero,List.getD_cons_zero] at h0
  have hc:w.cell? ⟨b,off,none⟩=some (v8 x):=by rw[cell_of_row w b _ arr E fz hb];exact h0
  have hld: (load ⟨b,off,none⟩).run Tryz.prog w= .ok (v8 x) w:=by
   simp only[load,Sem.run,hc]
  rw[List.length_cons,Extern.Bytes.loadBytes,Sem.run_bind,hld,Result.andThen_ok]
  simp only[v8,qG_]
  have e: ((x.toNat:Int).toNat.toUInt8)=x:=by
   rw[Int.toNat_natCast]
   exact UInt8.ofNat_toNat
  rw[e,vT_ hb l (off+1) _ (fun j hj=>by
   have:=h (j+1) (by simpa using hj)
   rw[List.getD_cons_succ] at this
   rw[←this];congr 1;omega)]
  congr 1
  apply ByteArray.ext
  simp
theorem Jq_ {b:Nat} {l:List UInt8} {E:TypeId} {w:World} (hb:w.heap[b]? =some (.cells (a8 l) E (0,0))): (Extern.Bytes.bytesOf (vsl b 0 l.length l.length)).run Tryz.prog w= .ok ⟨l.toArray⟩ w:=by
 have h:=vT_ hb l 0 .empty (fun j hj=>by simp[a8,v8,hj])
 show(Extern.Bytes.loadBytes ⟨b,0,none⟩ l.length .empty).run Tryz.prog w=_
 rw[h]
 congr 1
theorem ahF_ {b c:Nat} {l m:List UInt8} {E E2:TypeId} {w:World} (hb:w.heap[b]? =some (.cells (a8 l) E (0,0))) (hc:w.heap[c]? =some (.cells (a8 m) E2 (0,0))):
  (callFunc 201 #[vsl b 0 l.length l.length,vsl c 0 m.length m.length]).run Tryz.prog w= .ok (.value (.int .i64 (Lib.compareBytes l m))) w:=by
 rw[run_callFunc_extern Tryz.func201 (by kernel_rfl) (by kernel_rfl) (by kernel_rfl) (e:=Extern.BytealgCompare.compare) (by kernel_rfl)]
 show((Extern.BytealgCompare.compare #[vsl b 0 l.length l.length,vsl c 0 m.length m.length]).run Tryz.prog w).andThen _=_
 have: (Extern.BytealgCompare.compare #[vsl b 0 l.length l.length,vsl c 0 m.length m.length]).run Tryz.prog w= .ok (.int .i64 (Lib.compareBytes l m)) w:=by
  change Sem.run Tryz.prog (do pure (goInt (Extern.BytealgCompare.cmp (←Extern.Bytes.bytesOf _) (←Extern.Bytes.bytesOf _)))) w=_
  have h1:=Jq_ hb
  have h2:=Jq_ hc
  rw[Sem.run_bind]
  erw[h1]
  rw[Result.andThen_ok,Sem.run_bind]
  erw[h2]
  rw[Result.andThen_ok,Lib.cmp_eq]
  rfl
 rw[this];rfl
theorem K4_ {b c:Nat} {l m:List UInt8} {E E2:TypeId} {w:World} (hb:w.heap[b]? =some (.cells (a8 l) E (0,0))) (hc:w.heap[c]? =some (.cells (a8 m) E2 (0,0))):
  Calls Tryz.prog 143 #[vsl b 0 l.length l.length,vsl c 0 m.length m.length] w fun e w'=>e= .returned (.int .i64 (Lib.compareBytes l m))∧w'=w:=by
 have hr:=ahF_ hb hc
 generalize vsl b 0 l.length l.length=x at hr ⊢
 generalize vsl c 0 m.length m.length=y at hr ⊢
 go_enter Tryz.func143,Tryz.ntmps143
 go_wp2
 go_ret
 exact⟨rfl,rfl⟩
theorem Jw_ {b c:Nat} {x y:IdL} {E E2:TypeId} {w:World} (hb:w.heap[b]? =some (.cells (a8 x.l) E (0,0))) (hc:w.heap[c]? =some (.cells (a8 y.l) E2 (0,0))):
  Calls Tryz.prog 143 #[.slice (some ⟨b,0,none⟩) 32 32, .slice (some ⟨c,0,none⟩) 32 32] w fun e w'=>e= .returned (.int .i64 (Lib.compareBytes x.l y.l))∧w'=w:=by
 have h:=K4_ hb hc
 rw[x.h,y.h] at h
 exact h
theorem adu_ (x y:IdL) (W:World):Calls Tryz.prog 142 #[.agg (a8 x.l), .agg (a8 y.l)] W fun e w'=>e= .returned (.int .i64 (Lib.compareBytes x.l y.l))∧ ∃q os',w'=Go.Sort.grow (W.drewN q) os':=by
 have hx: (Value.agg (a8 x.l)).cells=a8 x.l:=rfl
 have hy: (Value.agg (a8 y.l)).cells=a8 y.l:=rfl
 go_enter Tryz.func142,Tryz.ntmps142
 go_wp2
 have h0: ((W.alloc (Obj.cells (a8 x.l) 24)).alloc (Obj.cells (a8 y.l) 24)).heap[W.heap.size]? =some (.cells (a8 x.l) 24 (0,0)):=by
  show((W.heap.push _).push _)[W.heap.size]? =_
  rw[Array.getElem?_push,if_neg (by simp),Array.getElem?_push,if_pos rfl]
 have h1: ((W.alloc (Obj.cells (a8 x.l) 24)).alloc (Obj.cells (a8 y.l) 24)).heap[W.heap.size+1]? =some (.cells (a8 y.l) 24 (0,0)):=by
  show((W.heap.push _).push _)[W.heap.size+1]? =_
  rw[Array.getElem?_push,if_pos (by simp)]
 refine wp_region_quiet_lit (by kernel_rfl) (by kernel_rfl) ?_
 quiet_step (skip)
 quiet_step (skip)
 refine wpQuiet_step (fun K hK=> ?_)
 go_simp
 refine⟨.int .i64 (Lib.compareBytes x.l y.l),fun n=>Calls.quiet_of_same (Jw_ h0 h1),hK _ ?_⟩
 clear hK K
 quiet_step (skip)
 refine wpQuiet_nil ?_
 intro _ hw'
 obtain⟨nq,rfl⟩:=hw'
 go_wp2
 go_ret
 exact⟨rfl,nq,_,by rw[Go.Sort.alloc_eq_grow,Go.Sort.alloc_eq_grow,Go.Sort.grow_grow];rfl⟩
theorem Kq_ (x:IdL): (qd_ x).all Value.oneCell'=true:=Zt_ _
theorem akn_ (a b:IdL):q6_ Tryz.prog .eql 24 (.agg (a8 a.l)) (.agg (a8 b.l))=some (.bool (a.l==b.l)):=
 afn_ Tryz.underlying24 Tryz.underlying5 Tryz.ag5 (by kernel_rfl) a.l b.l ⟨a.h,b.h⟩
theorem amY_ (a b:IdL):q6_ Tryz.prog .neq 24 (.agg (a8 a.l)) (.agg (a8 b.l))=some (.bool (!(a.l==b.l))):=
 ach_ Tryz.underlying24 Tryz.underlying5 Tryz.ag5 (by kernel_rfl) a.l b.l ⟨a.h,b.h⟩
theorem IdL.ext2 {a b:IdL} (h:a.l=b.l):a=b:=by cases a;cases b;simp only at h;subst h;rfl
theorem adK_:zZ_ Tryz.prog 24=some (.agg (a8 (List.replicate 32 0))):=Tryz.zr24
set_option linter.defProp false
def putL (x:IdL):List IdL→List IdL
 | []=> [x]
 |a::l=>if ltB a.l x.l=true then a::putL x l else if a.l==x.l then a::l else x::a::l
theorem acy_ (x:IdL): ∀ (l:List IdL),(putL x l).map IdL.l=putI x.l (l.map IdL.l)
 | []=>rfl
 |a::l=>by
  unfold putL
  simp only[List.map_cons,putI]
  split
  ·rw[List.map_cons,acy_ x l]
  ·split<;>rfl
theorem aci_ (x:IdL): ∀ (l:List IdL),(putL x l).length≤l.length+1
 | []=>Nat.le_refl _
 |a::l=>by
  unfold putL
  have:=aci_ x l
  split
  ·simp only[List.length_cons];omega
  ·split<;>simp
theorem kz_ (i:IdL):kb_ Tryz.prog 30 1 [(0, .agg (a8 i.l))]=some (24,(qd_ i).toArray):=
 qs_ Tryz.underlying30 Tryz.ag24 adK_ (by decide) (qB_ i)
theorem vw_ (x:IdL) (E:TypeId):zv_ (some (true,32)) (some (.cells (a8 x.l) E (0,0))) 0=some (.agg (a8 x.l)):=wZ_ _ E (0,0) 32 x.h
theorem Jb_ {w:World} {v:Value} {l:List IdL} {b off:Nat} {arr:Array Value} {E:TypeId} {fz:Nat×Nat} (h:RowS 32 qd_ id0 w v l b off arr E fz) {k:Nat} (hk:k<l.length):
  zv_ (some (true,32)) (some (.cells arr E fz)) (off+k*32)=some (.agg (a8 (l.getD k id0).l)):=RowS.load h qB_ (by omega) hk
set_option linter.defProp false
end Go.Proofs
end
section
open Go Go.Proofs Go.Sx Go.StP Go.RooP
namespace Go.Proofs
set_option maxRecDepth 10000
set_option maxHeartbeats 400000
set_option linter.unusedSimpArgs false
structure ObK where
 k:Int
 t:List UInt8
instance:DecidableEq ObK:=fun a b=>if h:a.k=b.k∧a.t=b.t then .isTrue (by cases a;cases b;simp only at h;obtain⟨rfl,rfl⟩:=h;rfl) else .isFalse (fun e=>h (by rw[e];exact⟨rfl,rfl⟩))
def x7_:ObK:=⟨0,[]⟩
def obKV (o:ObK):Value:=obV o.k o.t
abbrev j7_:=IdL→ObK×Bool
structure WkS where
 q:List ChildL
 vis:List ChildL
 ms:List IdL
 lk:List ChildL
def jO_ (s:j7_) (i:IdL):List ChildL:=qm_ (s i).1.k (s i).1.t
def jN_ (s:j7_) (c:ChildL):Bool:=(s c.id).2&& (c.kind==0||c.kind==(s c.id).1.k)
def xw_ (s:j7_) (W:WkS) (c:ChildL):WkS:=
 if jN_ s c=true then(if c.id∈W.ms then{W with vis:=W.vis++ [c]} else{W with vis:=W.vis++ [c],ms:=W.ms++ [c.id],q:=W.q++jO_ s c.id})
 else{W with vis:=W.vis++ [c],lk:=W.lk++ [c]}
def stepQ (s:j7_) (W:WkS):List ChildL→Bool×WkS
 | []=>(true,{W with q:= []})
 |c::q=>if c∈W.vis then stepQ s W q else(false,xw_ s {W with q:=q} c)
def kT_ (s:j7_) (W:WkS):Bool×WkS:=stepQ s W W.q
def J6_ (W:WkS) (r:List IdL):WkS:={W with q:=W.q++r.map fun i=>⟨i,0⟩}
def XW_:WkS:=⟨[],[],[],[]⟩
def newK (r:List IdL):WkS:=J6_ XW_ r
def runK (s:j7_):Nat→WkS→WkS
 |0,W=>W
 |n+1,W=>if(kT_ s W).1=true then(kT_ s W).2 else runK s n (kT_ s W).2
inductive ReachK (s:j7_) (r:List IdL):ChildL→Prop
 |root {i:IdL} (h:i∈r):ReachK s r ⟨i,0⟩
 |kid {c d:ChildL} (h:ReachK s r c) (hf:jN_ s c=true) (hd:d∈jO_ s c.id):ReachK s r d
structure WkI (s:j7_) (r:List IdL) (W:WkS):Prop where
 q: ∀c,c∈W.q→ReachK s r c
 vis: ∀c,c∈W.vis→ReachK s r c
 root: ∀i,i∈r→(⟨i,0⟩:ChildL)∈W.vis∨(⟨i,0⟩:ChildL)∈W.q
 fine: ∀c,c∈W.vis→jN_ s c=true→c.id∈W.ms
 lack: ∀c,c∈W.vis→jN_ s c=false→c∈W.lk
 ms: ∀i,i∈W.ms→ ∃c,c∈W.vis∧jN_ s c=true∧c.id=i
 lk: ∀c,c∈W.lk→c∈W.vis∧jN_ s c=false
 kids: ∀i,i∈W.ms→ ∀d,d∈jO_ s i→d∈W.vis∨d∈W.q
 nv:W.vis.Nodup
 nm:W.ms.Nodup
theorem ReachK.mono {s:j7_} {r r':List IdL} (h: ∀i,i∈r→i∈r') {c:ChildL} (hc:ReachK s r c):ReachK s r' c:=by
 induction hc with
 |root hi=>exact .root (h _ hi)
 |kid _ hf hd ih=>exact .kid ih hf hd
theorem WkI.new (s:j7_) (r:List IdL):WkI s r (newK r) where
 q c hc:=by
  simp only[newK,J6_,XW_,List.nil_append,List.mem_map] at hc
  obtain⟨i,hi,rfl⟩:=hc
  exact .root hi
 vis c hc:=by cases hc
 root i hi:= .inr (by simp only[newK,J6_,XW_,List.nil_append,List.mem_map];exact⟨i,hi,rfl⟩)
 fine c hc:=by cases hc
 lack c hc:=by cases hc
 ms i hi:=by cases hi
 lk c hc:=by cases hc
 kids i hi:=by cases hi
 nv:=List.nodup_nil
 nm:=List.nodup_nil
theorem WkI.add {s:j7_} {r:List IdL} {W:WkS} (h:WkI s r W) (r':List IdL):WkI s (r++r') (J6_ W r') where
 q c hc:=by
  simp only[J6_,List.mem_append,List.mem_map] at hc
  rcases hc with hc| ⟨i,hi,rfl⟩
  ·exact(h.q c hc).mono fun i hi=>List.mem_append_left _ hi
  ·exact .root (List.mem_append_right _ hi)
 vis c hc:=(h.vis c hc).mono fun i hi=>List.mem_append_left _ hi
 root i hi:=by
  simp only[J6_,List.mem_append,List.mem_map]
  rcases List.mem_append.1 hi with hi|hi
  ·rcases h.root i hi with h1|h1
   ·exact .inl h1
   ·exact .inr (.inl h1)
  ·exact .inr (.inr ⟨i,hi,rfl⟩)
 fine:=h.fine
 lack:=h.lack
 ms:=h.ms
 lk:=h.lk
 kids i hi d hd:=(h.kids i hi d hd).imp id fun h1=>List.mem_append_left _ h1
 nv:=h.nv
 nm:=h.nm
theorem WkI.visit {s:j7_} {r:List IdL} {W:WkS} {c:ChildL} {q:List ChildL} (h:WkI s r W) (hq: ∀d,d∈W.q→d=c∨d∈q∨d∈W.vis) (hq': ∀d,d∈q→d∈W.q) (hc:c∈W.q) (hn:c∉W.vis):WkI s r (xw_ s {W with q:=q} c):=by
 have hR:=h.q c hc
 have nv: (W.vis++ [c]).Nodup:=by
  rw[List.nodup_append]
  exact⟨h.nv,by simp,fun a ha b hb=>by simp only[List.mem_singleton] at hb;subst hb;intro e;subst e;exact hn ha⟩
 have root: ∀i,i∈r→(⟨i,0⟩:ChildL)∈W.vis++ [c]∨(⟨i,0⟩:ChildL)∈q:=fun i hi=>by
  rw[List.mem_append,List.mem_singleton]
  rcases h.root i hi with h1|h1
  ·exact .inl (.inl h1)
  ·rcases hq _ h1 with h2|h2|h2
   ·exact .inl (.inr h2)
   ·exact .inr h2
   ·exact .inl (.inl h2)
 have kids: ∀i,i∈W.ms→ ∀d,d∈jO_ s i→d∈W.vis++ [c]∨d∈q:=fun i hi d hd=>by
  rw[List.mem_append,List.mem_singleton]
  rcases h.kids i hi d hd with h1|h1
  ·exact .inl (.inl h1)
  ·rcases hq _ h1 with h2|h2|h2
   ·exact .inl (.inr h2)
   ·exact .inr h2
   ·exact .inl (.inl h2)
 have vis: ∀d,d∈W.vis++ [c]→ReachK s r d:=fun d hd=>by
  rw[List.mem_append,List.mem_singleton] at hd
  rcases hd with hd|rfl
  ·exact h.vis d hd
  ·exact hR
 unfold xw_
 by_cases hf:jN_ s c=true
 ·rw[if_pos hf]
  by_cases hm:c.id∈W.ms
  ·rw[if_pos hm]
   exact{
    q:=fun d hd=>h.q d (hq' d hd)
    vis:=vis
    root:=root
    fine:=fun d hd hfd=>by
     rcases List.mem_append.1 hd with hd|hd
     ·exact h.fine d hd hfd
     ·rw[List.mem_singleton] at hd;subst hd;exact hm
    lack:=fun d hd hfd=>by
     rcases List.mem_append.1 hd with hd|hd
     ·exact h.lack d hd hfd
     ·rw[List.mem_singleton] at hd;subst hd;rw[hf] at hfd;cases hfd
    ms:=fun i hi=>by
     obtain⟨d,h1,h2⟩:=h.ms i hi
     exact⟨d,List.mem_append_left _ h1,h2⟩
    lk:=fun d hd=>⟨List.mem_append_left _ (h.lk d hd).1,(h.lk d hd).2⟩
    kids:=kids
    nv:=nv
    nm:=h.nm}
  ·rw[if_neg hm]
   exact{
    q:=fun d hd=>by
     rcases List.mem_append.1 hd with hd|hd
     ·exact h.q d (hq' d hd)
     ·exact .kid hR hf hd
    vis:=vis
    root:=fun i hi=>(root i hi).imp id fun h1=>List.mem_append_left _ h1
    fine:=fun d hd hfd=>by
     rcases List.mem_append.1 hd with hd|hd
     ·exact List.mem_append_left _ (h.fine d hd hfd)
     ·rw[List.mem_singleton] at hd;subst hd;exact List.mem_append_right _ (List.mem_singleton.2 rfl)
    lack:=fun d hd hfd=>by
     rcases List.mem_append.1 hd with hd|hd
     ·exact h.lack d hd hfd
     ·rw[List.mem_singleton] at hd;subst hd;rw[hf] at hfd;cases hfd
    ms:=fun i hi=>by
     rcases List.mem_append.1 hi with hi|hi
     ·obtain⟨d,h1,h2⟩:=h.ms i hi
      exact⟨d,List.mem_append_left _ h1,h2⟩
     ·rw[List.mem_singleton] at hi;subst hi
      exact⟨c,List.mem_append_right _ (List.mem_singleton.2 rfl),hf,rfl⟩
    lk:=fun d hd=>⟨List.mem_append_left _ (h.lk d hd).1,(h.lk d hd).2⟩
    kids:=fun i hi d hd=>by
     rcases List.mem_append.1 hi with hi|hi
     ·exact(kids i hi d hd).imp id fun h1=>List.mem_append_left _ h1
     ·rw[List.mem_singleton] at hi;subst hi
      exact .inr (List.mem_append_right _ hd)
    nv:=nv
    nm:=by
     rw[List.nodup_append]
     exact⟨h.nm,by simp,fun a ha b hb=>by simp only[List.mem_singleton] at hb;subst hb;intro e;subst e;exact hm ha⟩}
 ·have hf':jN_ s c=false:=by simpa using hf
  rw[if_neg hf]
  exact{
   q:=fun d hd=>h.q d (hq' d hd)
   vis:=vis
   root:=root
   fine:=fun d hd hfd=>by
    rcases List.mem_append.1 hd with hd|hd
    ·exact h.fine d hd hfd
    ·rw[List.mem_singleton] at hd;subst hd;exact absurd hfd hf
   lack:=fun d hd hfd=>by
    rcases List.mem_append.1 hd with hd|hd
    ·exact List.mem_append_left _ (h.lack d hd hfd)
    ·exact List.mem_append_right _ hd
   ms:=fun i hi=>by
    obtain⟨d,h1,h2⟩:=h.ms i hi
    exact⟨d,List.mem_append_left _ h1,h2⟩
   lk:=fun d hd=>by
    rcases List.mem_append.1 hd with hd|hd
    ·exact⟨List.mem_append_left _ (h.lk d hd).1,(h.lk d hd).2⟩
    ·rw[List.mem_singleton] at hd;subst hd
     exact⟨List.mem_append_right _ (List.mem_singleton.2 rfl),hf'⟩
   kids:=kids
   nv:=nv
   nm:=h.nm}
theorem WkI.stepQ {s:j7_} {r:List IdL} {W:WkS} (h:WkI s r W): ∀ (q:List ChildL),(∀d,d∈W.q→d∈q∨d∈W.vis)→(∀d,d∈q→d∈W.q)→WkI s r (stepQ s W q).2
 | [],h1,_=>by
  unfold Go.Proofs.stepQ
  exact{h with
   q:=fun c hc=>by cases hc
   root:=fun i hi=>by
    rcases h.root i hi with h2|h2
    ·exact .inl h2
    ·rcases h1 _ h2 with h3|h3
     ·cases h3
     ·exact .inl h3
   kids:=fun i hi d hd=>by
    rcases h.kids i hi d hd with h2|h2
    ·exact .inl h2
    ·rcases h1 _ h2 with h3|h3
     ·cases h3
     ·exact .inl h3}
 |c::q,h1,h2=>by
  unfold Go.Proofs.stepQ
  by_cases hc:c∈W.vis
  ·rw[if_pos hc]
   refine h.stepQ q (fun d hd=> ?_) (fun d hd=>h2 d (List.mem_cons_of_mem _ hd))
   rcases h1 d hd with h3|h3
   ·rcases List.mem_cons.1 h3 with rfl|h3
    ·exact .inr hc
    ·exact .inl h3
   ·exact .inr h3
  ·rw[if_neg hc]
   refine h.visit (fun d hd=> ?_) (fun d hd=>h2 d (List.mem_cons_of_mem _ hd)) (h2 c List.mem_cons_self) hc
   rcases h1 d hd with h3|h3
   ·rcases List.mem_cons.1 h3 with rfl|h3
    ·exact .inl rfl
    ·exact .inr (.inl h3)
   ·exact .inr (.inr h3)
theorem WkI.step {s:j7_} {r:List IdL} {W:WkS} (h:WkI s r W):WkI s r (kT_ s W).2:=h.stepQ W.q (fun _ hd=> .inl hd) (fun _ hd=>hd)
theorem WkI.run {s:j7_} {r:List IdL}: ∀ (n:Nat) {W:WkS},WkI s r W→WkI s r (runK s n W)
 |0,_,h=>h
 |n+1,W,h=>by
  unfold runK
  split
  ·exact h.step
  ·exact WkI.run n h.step
theorem WkI.all {s:j7_} {r:List IdL} {W:WkS} (h:WkI s r W) (hq:W.q= []) (c:ChildL):ReachK s r c↔c∈W.vis:=by
 refine⟨fun hc=> ?_,h.vis c⟩
 induction hc with
 |root hi=>
  rcases h.root _ hi with h1|h1
  ·exact h1
  ·rw[hq] at h1;cases h1
 |kid _ hf hd ih=>
  rcases h.kids _ (h.fine _ ih hf) _ hd with h1|h1
  ·exact h1
  ·rw[hq] at h1;cases h1
theorem WkI.marked {s:j7_} {r:List IdL} {W:WkS} (h:WkI s r W) (hq:W.q= []) (i:IdL):i∈W.ms↔ ∃c,ReachK s r c∧jN_ s c=true∧c.id=i:=by
 refine⟨fun hi=> ?_,fun⟨c,h1,h2,h3⟩=> ?_⟩
 ·obtain⟨c,h1,h2,h3⟩:=h.ms i hi
  exact⟨c,h.vis c h1,h2,h3⟩
 ·rw[←h3];exact h.fine c ((h.all hq c).1 h1) h2
theorem WkI.missing {s:j7_} {r:List IdL} {W:WkS} (h:WkI s r W) (hq:W.q= []) (c:ChildL):c∈W.lk↔ReachK s r c∧jN_ s c=false:=
 ⟨fun hc=>⟨h.vis c (h.lk c hc).1,(h.lk c hc).2⟩,fun⟨h1,h2⟩=>h.lack c ((h.all hq c).1 h1) h2⟩
theorem ac9_ (s:j7_) (W:WkS) (c:ChildL): (xw_ s W c).vis=W.vis++ [c]:=by
 unfold xw_;split
 ·split<;>rfl
 ·rfl
theorem XA_ (s:j7_) (W:WkS): ∀ (q:List ChildL),(stepQ s W q).1=true→(stepQ s W q).2={W with q:= []}
 | [],_=>rfl
 |c::q,h=>by
  unfold stepQ at h ⊢
  split
  ·rename_i hc;rw[if_pos hc] at h;exact XA_ s W q h
  ·rename_i hc;rw[if_neg hc] at h;cases h
theorem ac0_ (s:j7_) (W:WkS): ∀ (q:List ChildL),(stepQ s W q).1=false→ ∃c,(stepQ s W q).2.vis=W.vis++ [c]
 | [],h=>by cases h
 |c::q,h=>by
  unfold stepQ at h ⊢
  split
  ·rename_i hc;rw[if_pos hc] at h;exact ac0_ s W q h
  ·exact⟨c,ac9_ _ _ _⟩
theorem ah2_ {s:j7_} {W:WkS} (h: (kT_ s W).1=false): (kT_ s W).2.vis.length=W.vis.length+1:=by
 obtain⟨c,hc⟩:=ac0_ s W W.q h
 unfold kT_
 rw[hc,List.length_append];rfl
theorem acg_ {α:Type} [DecidableEq α] {a b:List α} (hn:a.Nodup) (h: ∀x,x∈a→x∈b):a.length≤b.length:=by
 induction a generalizing b with
 |nil=>exact Nat.zero_le _
 |cons x a ih=>
  rw[List.nodup_cons] at hn
  have hx:=h x List.mem_cons_self
  have:=ih (b:=b.erase x) hn.2 (fun y hy=>(List.mem_erase_of_ne (fun e=>hn.1 (by rw[←e];exact hy))).2 (h y (List.mem_cons_of_mem _ hy)))
  rw[List.length_erase_of_mem hx] at this
  have hp:=List.length_pos_of_mem hx
  rw[List.length_cons];omega
def acV_ (s:j7_) (ids r:List IdL):List ChildL:=r.map (fun i=>⟨i,0⟩)++ (ids.map (jO_ s)).flatten
theorem ReachK.name {s:j7_} {ids r:List IdL} (hi: ∀i,(s i).2=true→i∈ids) {c:ChildL} (h:ReachK s r c):c∈acV_ s ids r:=by
 cases h with
 |root h=>exact List.mem_append_left _ (List.mem_map.2 ⟨_,h,rfl⟩)
 | @kid c d h hf hd=>
  refine List.mem_append_right _ (List.mem_flatten.2 ⟨_,List.mem_map.2 ⟨c.id,hi _ ?_,rfl⟩,hd⟩)
  unfold jN_ at hf
  simp only[Bool.and_eq_true] at hf
  exact hf.1
theorem WkI.le {s:j7_} {ids r:List IdL} {W:WkS} (h:WkI s r W) (hi: ∀i,(s i).2=true→i∈ids):W.vis.length≤ (acV_ s ids r).length:=
 acg_ h.nv fun c hc=>(h.vis c hc).name hi
def xn_ (l:List IdL):List IdL:=l.foldl (fun a x=>putL x a) []
theorem acI_ (l:List IdL): (xn_ l).map IdL.l=(l.map IdL.l).foldl (fun a x=>putI x a) []:=by
 have h: ∀ (l a:List IdL),(l.foldl (fun a x=>putL x a) a).map IdL.l=(l.map IdL.l).foldl (fun a x=>putI x a) (a.map IdL.l):=by
  intro l
  induction l with
  |nil=>intro a;rfl
  |cons x l ih=>intro a;rw[List.foldl_cons,ih,acy_];rfl
 exact h l []
theorem K5_: ∀ {a b:List IdL},a.map IdL.l=b.map IdL.l→a=b
 | [],[],_=>rfl
 | [],_::_,h=>by cases h
 |_::_,[],h=>by cases h
 |x::a,y::b,h=>by
  simp only[List.map_cons,List.cons.injEq] at h
  rw[IdL.ext2 h.1,K5_ h.2]
theorem mem_srtI {x:IdL} {l:List IdL}:x∈xn_ l↔x∈l:=by
 have key: ∀ (l a:List (List UInt8)) (y:List UInt8),y∈l.foldl (fun a x=>putI x a) a↔y∈l∨y∈a:=by
  intro l
  induction l with
  |nil=>intro a y;simp
  |cons z l ih=>
   intro a y
   rw[List.foldl_cons,ih,mem_putI,List.mem_cons]
   constructor
   ·rintro(h|h|h)
    ·exact .inl (.inr h)
    ·exact .inl (.inl h)
    ·exact .inr h
   ·rintro((h|h) |h)
    ·exact .inr (.inl h)
    ·exact .inl h
    ·exact .inr (.inr h)
 have h1: ∀ (l:List IdL) (x:IdL),x∈l↔x.l∈l.map IdL.l:=fun l x=>by
  rw[List.mem_map]
  exact⟨fun h=>⟨x,h,rfl⟩,fun⟨y,h,e⟩=>by rw[←IdL.ext2 e];exact h⟩
 rw[h1 (xn_ l),h1 l,acI_,key]
 simp
theorem Kt_ (l:List IdL):Ris ((xn_ l).map IdL.l):=by
 rw[acI_]
 have: ∀ (l a:List (List UInt8)),Ris a→Ris (l.foldl (fun a x=>putI x a) a):=by
  intro l
  induction l with
  |nil=>intro a h;exact h
  |cons z l ih=>intro a h;rw[List.foldl_cons];exact ih _ (ac4_ h)
 exact this _ _ List.Pairwise.nil
theorem Qg_ {a b:List IdL} (h: ∀i,i∈a↔i∈b):xn_ a=xn_ b:=by
 refine K5_ (Ris.ext (Kt_ a) (Kt_ b) fun x=> ?_)
 rw[List.mem_map,List.mem_map]
 constructor
 ·rintro⟨y,h1,h2⟩;exact⟨y,mem_srtI.2 ((h y).1 (mem_srtI.1 h1)),h2⟩
 ·rintro⟨y,h1,h2⟩;exact⟨y,mem_srtI.2 ((h y).2 (mem_srtI.1 h1)),h2⟩
theorem adJ_ {l s:List IdL} (hp:s.Perm l) (hn:l.Nodup) (hs:s.Pairwise fun x y=>ltB y.l x.l=false):s=xn_ l:=by
 have hsn:s.Nodup:=hp.nodup_iff.2 hn
 have hr:Ris (s.map IdL.l):=by
  refine List.pairwise_map.2 ?_
  refine List.Pairwise.imp₂ ?_ hs hsn
  intro x y h1 h2
  exact xx_ h1 fun e=>h2 (IdL.ext2 e.symm)
 refine K5_ (Ris.ext hr (Kt_ l) fun x=> ?_)
 rw[List.mem_map,List.mem_map]
 constructor
 ·rintro⟨y,h1,h2⟩;exact⟨y,mem_srtI.2 (hp.mem_iff.1 h1),h2⟩
 ·rintro⟨y,h1,h2⟩;exact⟨y,hp.mem_iff.2 (mem_srtI.1 h1),h2⟩
end Go.Proofs
end
section
open Go Go.Proofs Go.Sx Go.StP
namespace Go.Proofs
set_option maxRecDepth 10000
set_option maxHeartbeats 400000
set_option linter.unusedSimpArgs false
def ZS_ (i:IdL):Value:= .agg (a8 i.l)
def chKV (c:ChildL):Value:= .agg (zO_ c).toArray
def blV (b:Bool):Value:= .bool b
theorem WD_:KeyOk Tryz.prog 24 ZS_:=KeyOk.arr Tryz.underlying24 Tryz.underlying5 (id (by kernel_rfl):zH_ Tryz.prog 5=some (false,1)) IdL.l (fun a=>a.h) (fun a b=>by
 rw[Bool.eq_iff_iff,beq_iff_eq,beq_iff_eq]
 exact⟨fun h=>IdL.ext2 h,fun h=>by rw[h]⟩)
theorem ZT_ {P:Program} {t e:TypeId} {n d:Nat} (hu:P.underlying t=some (.array n e)) (he:P.underlying e=some (.int .u8)) (hm:zH_ P e=some (false,1)) (l:List UInt8) (hl:l.length=n) (em:Bool) (w:World):
  (Instr.checkKey em (d+2) t (.agg (a8 l))).run P w= .ok () w:=by
 show(Instr.checkKey em ((d+1)+1) t (.agg (a8 l))).run P w= .ok () w
 rw[Instr.checkKey]
 simp only[Sem.run_bind,run_underlying hu,Result.andThen_ok]
 simp only[Std.Legacy.Range.forIn_eq_forIn_range',Std.Legacy.Range.size,Nat.sub_zero,Nat.add_one_sub_one,Nat.div_one]
 have each: ∀j,j∈List.range' 0 n→j<l.length:=by
  intro j hj
  rw[List.mem_range'] at hj
  obtain⟨i,hi,rfl⟩:=hj
  omega
 generalize List.range' 0 n=is at each
 induction is with
 |nil=>simp
 |cons j is ih=>
  have hj:=each j (by simp)
  have p1: (part e (a8 l) (j*1)).run P w= .ok (v8 (l.getD j 0)) w:=by
   refine qP_ hm ?_ w
   simp[partV,a8,v8,hj]
  have p2: (Instr.checkKey em (d+1) e (v8 (l.getD j 0))).run P w= .ok () w:=by
   rw[Instr.checkKey]
   simp only[Sem.run_bind,run_underlying he,Result.andThen_ok,v8]
   rfl
  simp only[List.forIn_cons,Sem.run_bind,Sx.run_sizeOf hm w,Result.andThen_ok,p1,p2,Sem.run_pure]
  exact ih (fun y hy=>each y (by simp[hy]))
theorem aic_ (w:World) (e:Bool) (k:ChildL): (Instr.checkKey e 10000 59 (chKV k)).run Tryz.prog w= .ok () w:=by
 show(Instr.checkKey e (9999+1) _ _).run Tryz.prog w=_
 rw[Instr.checkKey]
 have p1: (part 24 (zO_ k).toArray 0).run Tryz.prog w= .ok (.agg (a8 k.id.l)) w:=qP_ XL_ (ajr_ k) w
 have p2: (part 3 (zO_ k).toArray 32).run Tryz.prog w= .ok (vi k.kind) w:=qP_ (id (by kernel_rfl):zH_ Tryz.prog 3=some (false,1)) (aji_ k) w
 have c1: (Instr.checkKey e 9999 24 (.agg (a8 k.id.l))).run Tryz.prog w= .ok () w:=ZT_ (d:=9997) Tryz.underlying24 Tryz.underlying5 (id (by kernel_rfl):zH_ Tryz.prog 5=some (false,1)) _ k.id.h e w
 have c2: (Instr.checkKey e 9999 3 (vi k.kind)).run Tryz.prog w= .ok () w:=by
  show(Instr.checkKey e (9998+1) _ _).run Tryz.prog w=_
  rw[Instr.checkKey]
  simp only[Sem.run_bind,run_underlying Tryz.underlying3,Result.andThen_ok,vi]
  rfl
 simp only[Sem.run_bind,run_underlying Tryz.underlying59 w,Result.andThen_ok,chKV]
 simp[p1,p2,c1,c2]
theorem ajn_:KeyOk Tryz.prog 59 chKV:=KeyOk.struct Tryz.underlying59 chKV (fun a b=>by
  show eqD Tryz.prog 8 59 (.agg (zO_ a).toArray) (.agg (zO_ b).toArray)=_
  rw[all_]
  congr 1
  rw[Bool.eq_iff_iff,beq_iff_eq]
  exact⟨fun h=>ChildL.ext' h,fun h=>by rw[h];simp⟩) aic_ (fun k=>K6_ _ fun x hx=>by
  unfold zO_ at hx
  rcases List.mem_append.1 hx with hx|hx
  ·obtain⟨y,-,rfl⟩:=List.mem_map.1 hx
   simp[v8,Instr.sameBits]
  ·rw[List.mem_singleton] at hx
   subst hx
   simp[vi,Instr.sameBits])
def qe_ (m:List (IdL×ObK)):j7_:=fun i=>(Qy_ i x7_ m,hasG i m)
structure SrcAt (w:World) (sv:Value) (m:List (IdL×ObK)) (bx bm:Nat) (om:Obj):Prop where
 sv:sv= .iface 118 (vp bx 0)
 bx:w.heap[bx]? =some (.cells #[vm bm] 121 (0,0))
 bm:w.heap[bm]? =some om
 m:K7_ ZS_ obKV om m
theorem SrcAt.old {w w':World} {L:zd_} {sv:Value} {m:List (IdL×ObK)} {bx bm:Nat} {om:Obj} (h:SrcAt w sv m bx bm om) (hw:Hp w L w') (h1:bx∉keys L) (h2:bm∉keys L):SrcAt w' sv m bx bm om:=
 ⟨h.sv,(hw.old _ (Array.getElem?_eq_some_iff.1 h.bx).1 h1).trans h.bx,(hw.old _ (Array.getElem?_eq_some_iff.1 h.bm).1 h2).trans h.bm,h.m⟩
def SrcW (w:World) (sv:Value) (m:List (IdL×ObK)) (X:zd_):Prop:= ∃bx bm om,SrcAt w sv m bx bm om∧bx∉keys X∧bm∉keys X
theorem SrcW.old {w w':World} {L X:zd_} {sv:Value} {m:List (IdL×ObK)} (h:SrcW w sv m L) (hw:Hp w L w') (hX: ∀c,c∈keys X→c∈keys L):SrcW w' sv m X:=by
 obtain⟨bx,bm,om,h1,h2,h3⟩:=h
 exact⟨bx,bm,om,h1.old hw h2 h3,fun hm=>h2 (hX _ hm),fun hm=>h3 (hX _ hm)⟩
theorem SrcW.ext {w:World} {L X:zd_} {sv:Value} {m:List (IdL×ObK)} (h:SrcW w sv m X) (hL: ∀c,c∈keys L→c∈keys X∨w.heap.size≤c):SrcW w sv m L:=by
 obtain⟨bx,bm,om,h1,h2,h3⟩:=h
 have k1:=(Array.getElem?_eq_some_iff.1 h1.bx).1
 have k2:=(Array.getElem?_eq_some_iff.1 h1.bm).1
 refine⟨bx,bm,om,h1,fun hm=> ?_,fun hm=> ?_⟩
 ·rcases hL _ hm with h|h
  ·exact h2 h
  ·omega
 ·rcases hL _ hm with h|h
  ·exact h3 h
  ·omega
theorem adv_ {n:Nat} {E:zd_} {o:Obj} {Q:Nat→Prop} (h:E= []∨ ∃b,E= [(b,o)]∧n≤b∧Q b):New n E:=by
 rcases h with rfl| ⟨b,rfl,h,-⟩
 ·trivial
 ·exact⟨h,trivial⟩
theorem afV_ (b:Nat) (n:Nat) (E:TypeId) (fz:Nat×Nat):zv_ (some (false,n)) (some (.cells #[vm b] E fz)) 0=some (vm b):=(rfl)
set_option linter.defProp false
def ZQ_:=And.intro (And.intro (And.intro (@jt_) (@qH_)) (And.intro (@qC_) (And.intro (@qO_) (@Sx.tup2_0)))) (And.intro (And.intro (@Sx.tup2_1) (@zL_)) (And.intro (@zK_) (And.intro (@jH_) (@afV_))))
theorem Q7_ (bx bm:Nat) (om:Obj) (m:List (IdL×ObK)) (i:IdL) (sv:Value) (w:World) (h:SrcAt w sv m bx bm om):
  Rets Tryz.prog 342 #[vp bx 0, .agg (a8 i.l)] w (fun v D=>v= .tuple #[obKV (qe_ m i).1, .bool (qe_ m i).2]∧D= []):=by
 have hbx:=h.bx
 have hbm:=h.bm
 have hlx:=(Array.getElem?_eq_some_iff.1 hbx).1
 have hlm:=(Array.getElem?_eq_some_iff.1 hbm).1
 refine Rets.enterV Tryz.func342 rfl (rs:= [.cell 4 35, .tmp 5]) Tryz.results342 Tryz.ntmps342 ?_
 refine kf ?_
 first|with_reducible refine ks [] @ZQ_ ?_|refine kp @ZQ_ ?_
 refine Ow.box rfl rfl fun b3 hb3 hw3=> ?_
 simp only[zV_,zT_,z6_,ze_,List.nil_append,List.cons_append]
 refine Ow.go rfl ?_
 simp(disch:=(first|assumption|omega| (simp only[je_,jc_,UInt64.reduceToNat];try omega))) only[↓Sx.S0,Sx.S1,Tryz.fx,ZQ_,Nat.reduceAdd,Nat.reducePow,Int.reducePow,Nat.reduceBEq, ↓reduceIte,UInt8.reduceToNat,UInt16.reduceToNat,UInt32.reduceToNat,UInt64.reduceToNat,Int.reduceToNat]
 refine Ow.alloc rfl rfl WC_ fun b4 hb4 hw4=> ?_
 simp only[ze_,List.nil_append,List.cons_append]
 have h34:b3<b4:=zf_ hb4 (by simp[keys])
 have hNY:New w.heap.size [(b3,Obj.cells (a8 i.l) 24 (0,0)),(b4, .cells #[vi 0,vs []] 35 (0,0))]:=⟨hw3,hw4,trivial⟩
 have rbx:zr_ w [(b3,Obj.cells (a8 i.l) 24 (0,0)),(b4, .cells #[vi 0,vs []] 35 (0,0))] bx=some (.cells #[vm bm] 121 (0,0)):=by rw[qX_ (hNY.not hlx)];exact hbx
 refine ko @ZQ_ ?_
 first|with_reducible refine ks [] @ZQ_ ?_|refine kp @ZQ_ ?_
 refine Cw.regionD [bx,b3] [10] 9 6 35 11 _ rfl (by kernel_rfl) (by kernel_rfl) rfl (by kernel_rfl) WC_ (fun hD=> ?_)
 simp only[List.replicate_succ,List.replicate_zero]
 refine OwD.run [0,1,2,3,4] [true,true,true,true,true,false,false,false,false,false,false,false] 6 rfl hD (by kernel_rfl) fun k hk=> ?_
 simp only[zg_, ↓zc_, ↓za_, ↓zl_, ↓zk_,zb_]
 simp(disch:=(first|assumption|omega| (simp only[je_,jc_,UInt64.reduceToNat];try omega))) only[↓Sx.S0,Sx.S1,Tryz.fx,ZQ_,Nat.reduceAdd,Nat.reducePow,Int.reducePow,Nat.reduceBEq, ↓reduceIte,UInt8.reduceToNat,UInt16.reduceToNat,UInt32.reduceToNat,UInt64.reduceToNat,Int.reduceToNat,Md.next_sofnil,rbx]
 (with_reducible refine hk _ _ _ ?_);clear hk k
 refine OwD.soft 5 _ hD rfl (by kernel_rfl) (fun E hE=> ?_)
 have hNE:=hNY.app (adv_ hE)
 refine Ow.mapGet2G (encK:=ZS_) (encV:=obKV) (k:=i) (z:=x7_) rfl rfl Tryz.underlying119 WD_ WC_ rfl rfl (by rw[qX_ (hNE.not hlm)];exact hbm) h.m ?_
 with_reducible refine Ow.nil ?_
 refine⟨_,List.Perm.refl _,fun _ _=>rfl, ?_⟩
 simp only[List.set_cons_zero,List.set_cons_succ,zo_,zE_,zF_]
 refine OwD.run [6,7,8] [true,true,true,true,true,true,true,true,true,false,false,false] 2 rfl hD (by kernel_rfl) fun k hk=> ?_
 simp only[zg_, ↓zc_, ↓za_, ↓zl_, ↓zk_,zb_]
 simp(disch:=(first|assumption|omega| (simp only[je_,jc_,UInt64.reduceToNat];try omega))) only[↓Sx.S0,Sx.S1,Tryz.fx,ZQ_,Nat.reduceAdd,Nat.reducePow,Int.reducePow,Nat.reduceBEq, ↓reduceIte,UInt8.reduceToNat,UInt16.reduceToNat,UInt32.reduceToNat,UInt64.reduceToNat,Int.reduceToNat,Md.next_sofnil,Sx.tup2_0,Sx.tup2_1]
 (with_reducible refine hk _ _ _ ?_);clear hk k
 refine OwD.real [10,11] rfl hD (by kernel_rfl) (by kernel_rfl) (by kernel_rfl) (by kernel_rfl) (fun r hr=>by simp only[List.mem_cons,List.not_mem_nil,or_false] at hr;rcases hr with rfl|rfl;exact .inr hlx;exact .inl (by simp[keys])) ?_
 simp only[zg_, ↓zc_, ↓za_, ↓zl_, ↓zk_,zb_]
 intro b6 hw6 hbL
 simp only[zE_,zF_]
 refine Ow.store rfl rfl rfl (L':= [(b3, .cells (a8 i.l) 24 (0,0)),(b4, .cells #[vi 0,vs []] 35 (0,0))]++ [(b6, .cells #[vi (qe_ m i).1.k,vs (qe_ m i).1.t] 35 (0,0))]) ?_ ?_
 ·simp only[zV_,zT_,z6_]
  have hst:zt_ (some (true,2)) (some (Obj.cells (Value.cells (obV 0 [])) 35 (0,0))) 0 (obKV (Qy_ i x7_ m))=some (.cells #[vi (qe_ m i).1.k,vs (qe_ m i).1.t] 35 (0,0)):=rfl
  rw[Tryz.ag35,jJ_,xv_ hbL,hst,xh_,jS_ hbL]
  exact []
 have h63:b3≠b6∧b4≠b6:=by simp[keys] at hbL;omega
 obtain⟨h63,h64⟩:=h63
 simp only[List.cons_append,List.nil_append]
 refine ko @ZQ_ ?_
 first|with_reducible refine ks [] @ZQ_ ?_|refine kp @ZQ_ ?_
 refine⟨_,(ke @ZQ_),⟨hw3,hw4,hw6,trivial⟩, ?_⟩
 rfl
end Go.Proofs
end
namespace Go.Sx
open Go
section
variable {P:Program} {w0:World} {l:List Oper} {R ts:List Nat} {n:Nat} {listed:List Bool} {f:Fr} {L:zd_} {N:Fr→zd_→Prop}
def OwG (P:Program) (w0:World) (l:List Oper) (R ts:List Nat) (n:Nat) (listed:List Bool) (f:Fr) (L:zd_) (N:Fr→zd_→Prop):Prop:=
 ∀w,Hp w0 L w→xb_ P l.toArray (jd_ w0 N) ts (SR w0 R L) n listed.toArray (act f) w
theorem Cw.regionG {id:Nat} {K:j6_} (R ts:List Nat) (m:Nat) (hl:l.length=m) (hm:P.follows .mixedOrders=true) (h:OwG P w0 l R ts m (List.replicate m false) f L (K .normal)):Cw P w0 (.region id l.toArray true) f L K:=by
 intro w hw
 subst hl
 refine wp_mono (wp_region_any hm ?_) fun _ _ _ h=>jx_ h
 have:=kf_ _ _ _ _ (h _ hw.drew)
 simpa using this
def chkG (P:Program) (l:List Oper) (ts:List Nat):List Nat→List Bool→Option (List Bool)
 | [],listed=>some listed
 |k::is,listed=>
  match kh_ l k with
  |some o=>if !ts.contains k&& (ts.all fun t=> !listed.toArray.getD t true)&& (Region.ready .any l.toArray listed.toArray).contains k&&Region.free .any l.toArray listed.toArray k&&
    (j9_ P o.op|| (J9_ o.op&&Qo_ l.toArray ts listed.toArray k)) then chkG P l ts is (listed.set k true) else none
  |none=>none
theorem OwG.step {k:Nat} {o:Oper} {v:Value} (hns:Region.noSelect l.toArray=true) (hk:kh_ l k=some o) {rest:List Bool} (hc:chkG P l ts [k] listed=some rest)
  (hY:YieldsC P l.toArray (SR w0 R L) (j9_ P o.op=true) o v (act f)) (h:OwG P w0 l R ts n rest (qk_ f o.dst v) L N):OwG P w0 l R ts (n+1) listed f L N:=by
 have hoi:l.toArray[k]? =some o:=by rw[jR_] at hk;simpa using hk
 unfold chkG at hc
 rw[hk] at hc
 simp only at hc
 split at hc
 ·rename_i hcc
  simp only[chkG,Option.some.injEq] at hc
  subst hc
  simp only[Bool.and_eq_true,Bool.or_eq_true,Bool.not_eq_true',List.all_eq_true,List.contains_eq_mem,decide_eq_true_eq,decide_eq_false_iff_not] at hcc
  obtain⟨⟨⟨⟨c2,c3⟩,c4⟩,c5⟩,c9⟩:=hcc
  have hsel:=Region.noSelect_spec hns
  intro w hw
  refine kG_ hoi c2 hsel (fun c a w h=>zP_ h) _ _ _ _ (xe_ (P:=P) hoi c4 c5 (c9.imp id fun h=>⟨h.1,h.2,fun t ht=>c3 t ht⟩)) (.inr fun t ht=>c3 t ht) hY ?_
  rw[zW_,qc_]
  exact h w hw
 ·cases hc
theorem ag3_ {k:Nat} {is:List Nat} {listed listed':List Bool} (h:chkG P l ts (k::is) listed=some listed'):chkG P l ts [k] listed=some (listed.set k true)∧chkG P l ts is (listed.set k true)=some listed':=by
 rw[chkG] at h
 cases ho:kh_ l k with
 |none=>rw[ho] at h;cases h
 |some o=>
  rw[ho] at h
  simp only at h
  split at h
  ·rename_i hcc
   refine⟨?_,h⟩
   rw[chkG,ho]
   simp only
   rw[if_pos hcc];rfl
  ·cases h
theorem OwG.runs {k:Md→List Oper→Fr→zd_→Prop} (hns:Region.noSelect l.toArray=true): ∀ (is:List Nat) {listed listed':List Bool} {f:Fr} {L:zd_},chkG P l ts is listed=some listed'→
  (∀md r f' L',k md r f' L'→r= []∧OwG P w0 l R ts n listed' f' L' N)→vcL P w0 l.toArray false (.sof R [] []) (j5_ l is) f L k→OwG P w0 l R ts (is.length+n) listed f L N
 | [],listed,listed',f,L,hc,hk,h=>by
  cases hc
  rw[List.length_nil,Nat.zero_add]
  exact(hk _ _ _ _ h).2
 |i::is,listed,listed',f,L,hc,hk,h=>by
  obtain⟨hc1,hc2⟩:=ag3_ hc
  rw[za_] at h
  cases ho:kh_ l i with
  |none=>unfold chkG at hc1;rw[ho] at hc1;cases hc1
  |some o=>
   rw[ho,zb_] at h
   unfold vcL at h
   rw[List.length_cons,show is.length+1+n=(is.length+n)+1 by omega]
   cases hs:zn_ l.toArray f o with
   |true=>
    rw[hs] at h
    have hw0:Region.wanted o (yielded l.toArray (act f).tmps)=false:=by rw[z1_,hs];rfl
    exact OwG.step hns ho hc1 (v:=undef) (.inr ⟨hw0,rfl⟩) (OwG.runs hns is hc2 hk h)
   |false=>
    rw[hs] at h
    have hw0:Region.wanted o (yielded l.toArray (act f).tmps)=true:=by rw[z1_,hs];rfl
    simp only[ib,vcB] at h
    split at h
    ·cases hrd:KH_ (.sof R [] []) f o.op with
     |false=>rw[hrd] at h;exact absurd (hk _ _ _ _ h).1 (by simp)
     |true=>
      rw[hrd] at h
      simp only at h
      cases hv:xt_ P w0 L f o.op with
      |none=>rw[hv] at h;exact absurd (hk _ _ _ _ h).1 (by simp)
      |some v=>
       rw[hv] at h
       refine OwG.step hns ho hc1 (v:=v) (.inl ⟨hw0,fun w hw=> ?_⟩) (OwG.runs hns is hc2 hk h)
       rw[qW_]
       rcases hw with hp|hw
       ·exact qJ_ (Hp.refl w) (xo_ hp hv w)
       ·exact qJ_ (Hp.refl w) (v6_ hrd hv hw)
    ·exact absurd (hk _ _ _ _ h).1 (by simp)
    ·exact absurd (hk _ _ _ _ h).1 (by simp)
theorem OwG.run (is:List Nat) (listed':List Bool) (n:Nat) {m:Nat} (hm:m=is.length+n) (hns:Region.noSelect l.toArray=true) (hc:chkG P l ts is listed=some listed')
  (h: ∀k:Md→List Oper→Fr→zd_→Prop,(∀md f L,OwG P w0 l R ts n listed' f L N→k md [] f L)→nl (j5_ l is) fun l'=>vcL P w0 l.toArray false (.sof R [] []) l' f L k):OwG P w0 l R ts m listed f L N:=by
 subst hm
 refine OwG.runs (k:=fun _ r f' L'=>r= []∧OwG P w0 l R ts n listed' f' L' N) hns is hc (fun _ _ _ _ h=>h) ?_
 exact h _ fun _ _ _ h=>⟨rfl,h⟩
def acv_ (l:List Oper) (ts:List Nat) (ks:List Nat) (listed:List Bool):Bool:=
 ((Region.ready .any l.toArray listed.toArray).all fun i=>ks.contains i)&& (Region.ready .any l.toArray listed.toArray != [])&&ks.all fun k=> !ts.contains k
theorem OwG.softs (ks:List Nat) (hs:acv_ l ts ks listed=true)
  (h: ∀k,k∈ks→ ∀o,kh_ l k=some o→Ow P w0 l.toArray .seq [o] f L (fun f' L'=>(∀r,r∈R→zr_ w0 L' r=zr_ w0 L r)∧OwG P w0 l R ts n (listed.set k true) f' L' N)):
  OwG P w0 l R ts (n+1) listed f L N:=by
 unfold acv_ at hs
 simp only[Bool.and_eq_true,List.all_eq_true,bne_iff_ne,ne_eq,List.contains_eq_mem,decide_eq_true_eq,Bool.not_eq_true',decide_eq_false_iff_not] at hs
 obtain⟨⟨c3,c4⟩,c6⟩:=hs
 intro w hw
 refine⟨fun _=>SR.of hw,fun hr=>absurd hr c4,fun i hi=> ?_⟩
 have hik:=c3 i hi
 obtain⟨-,oi,hoi,-⟩:=mem_ready.1 hi
 have hni:kh_ l i=some oi:=by rw[jR_];simpa using hoi
 refine v8_ hoi (X:=xb_ P l.toArray (jd_ w0 N) ts (SR w0 R L) n (listed.toArray.setIfInBounds i true)) ?_ hw
 intro w' hw'
 have h1:=h i hik oi hni w' hw'
 refine xO_ ?_ h1
 rintro f' L' ⟨hS,hO⟩ w'' hw''
 rw[vF_ hS,qc_]
 exact hO w'' hw''
theorem OwG.one (i:Nat) (oi:Oper) (hs:acv_ l ts [i] listed=true) (hi:kh_ l i=some oi)
  (h:Ow P w0 l.toArray .seq [oi] f L (fun f' L'=>(∀r,r∈R→zr_ w0 L' r=zr_ w0 L r)∧OwG P w0 l R ts n (listed.set i true) f' L' N)):OwG P w0 l R ts (n+1) listed f L N:=
 OwG.softs [i] hs fun k hk o ho=>by
  rw[List.mem_singleton] at hk
  subst hk
  rw[hi] at ho
  cases ho
  exact h
theorem OwG.two (i j:Nat) (oi oj:Oper) (hs:acv_ l ts [i,j] listed=true) (hi:kh_ l i=some oi) (hj:kh_ l j=some oj)
  (h1:Ow P w0 l.toArray .seq [oi] f L (fun f' L'=>(∀r,r∈R→zr_ w0 L' r=zr_ w0 L r)∧OwG P w0 l R ts n (listed.set i true) f' L' N))
  (h2:Ow P w0 l.toArray .seq [oj] f L (fun f' L'=>(∀r,r∈R→zr_ w0 L' r=zr_ w0 L r)∧OwG P w0 l R ts n (listed.set j true) f' L' N)):OwG P w0 l R ts (n+1) listed f L N:=
 OwG.softs [i,j] hs fun k hk o ho=>by
  simp only[List.mem_cons,List.not_mem_nil,or_false] at hk
  rcases hk with rfl|rfl
  ·rw[hi] at ho;cases ho;exact h1
  ·rw[hj] at ho;cases ho;exact h2
theorem OwG.permL {M:zd_} (hp:M.Perm L) (hR: ∀r,r∈R→zr_ w0 M r=zr_ w0 L r) (h:OwG P w0 l R ts n listed f M N):OwG P w0 l R ts n listed f L N:=by
 intro w hw
 rw[vF_ hR]
 exact h w (hw.perm hp)
def alG_ (P:Program) (l:List Oper) (is ts:List Nat) (listed:List Bool):Bool:=
 Region.noSelect l.toArray&&ZE_ P l.toArray ts is listed.toArray&&ts.all fun t=> !listed.toArray.getD t true
theorem OwG.rest (is:List Nat) {m:Nat} (hm:m=is.length) (hB:alG_ P l is ts listed=true) (hl:is.map (fun i:Nat=>l[i]?)=(j5_ l is).map some)
  (h:nl (j5_ l is) fun l'=>Ow P w0 l.toArray (.sof R is ts) l' f L N):OwG P w0 l R ts m listed f L N:=by
 subst hm
 revert hl h
 generalize j5_ l is=l'
 intro hl h w hw
 simp only[alG_,Bool.and_eq_true,List.all_eq_true,Bool.not_eq_true'] at hB
 obtain⟨⟨h1,h4⟩,h5⟩:=hB
 have hlen:is.length=l'.length:=by have:=congrArg List.length hl;simpa using this
 have hF:Fits P l.toArray ts is l' listed.toArray:=⟨hlen,fun j=>by
  have:=congrArg (·[j]?) hl
  simp only[List.getElem?_map] at this
  cases hj:is[j]? with
  |none=>
   rw[hj] at this
   simp only[Option.map_none] at this
   cases hj':l'[j]? with
   |none=>rfl
   |some x=>rw[hj'] at this;cases this
  |some i=>
   rw[hj] at this
   simp only[Option.map_some] at this
   cases hj':l'[j]? with
   |none=>rw[hj'] at this;cases this
   |some x=>
    rw[hj'] at this
    simp only[Option.map_some,Option.some.injEq] at this
    simp[this],h1,h4⟩
 rw[hlen]
 exact(h:Ow P w0 l.toArray (.sof R is ts) l' f L N) listed.toArray hF (fun t ht=>h5 t ht) w hw
end
def CutO {G:Type} (M:List Nat) (S:G→List (Nat×Value)) (H:G→zd_) (J:G→Prop) (f f':Fr) (L':zd_):Prop:=
 ∃g,J g∧L'=H g∧f'=pin (qp_ (kR_ f') M 0 f) (S g)
theorem CutO.mk {G:Type} {M:List Nat} {S:G→List (Nat×Value)} {H:G→zd_} {J:G→Prop} {f f':Fr} {L':zd_} (g:G) (hJ:J g) (hL:L'=H g) (hf:f'=pin (qp_ (kR_ f') M 0 f) (S g)):CutO M S H J f f' L':=⟨g,hJ,hL,hf⟩
theorem Cw.cutO {P:Program} {w0:World} {x y:Code} {f:Fr} {L:zd_} {K:j6_} {G:Type} (M:List Nat) (S:G→List (Nat×Value)) (H:G→zd_) (J:G→Prop) (h1:Cw P w0 x f L (k0_ (CutO M S H J f) K))
  (h2: ∀ (g:G) (j:Nat→Value),J g→Cw P w0 y (pin (qp_ j M 0 f) (S g)) (H g) K):Cw P w0 (.seq x y) f L K:=by
 refine Cw.seq (h1.mono fun e f' L' k=> ?_)
 cases e with
 |normal=>
  obtain⟨g,hJ,rfl,hf⟩:=k
  have:=h2 g (kR_ f') hJ
  rw[←hf] at this
  exact this
 |_=>exact k
end Go.Sx
section
open Go Go.Proofs Go.Sx Go.StP
namespace Go.Proofs
set_option maxRecDepth 10000
set_option maxHeartbeats 400000
set_option linter.unusedSimpArgs false
def JF_ {α:Type} (l:List α):List (α×Bool):=l.map fun x=>(x,true)
theorem getT {α:Type} [DecidableEq α] (k:α): ∀ (l:List α),Qy_ k false (JF_ l)=decide (k∈l)
 | []=>rfl
 |x::l=>by
  have ih:=getT k l
  unfold Qy_ JF_ at ih ⊢
  rw[List.map_cons,List.find?_cons]
  by_cases h:k=x
  ·subst h;simp
  ·have h1: (k==x)=false:=by simpa using h
   simp only[h1]
   rw[ih]
   simp[h]
theorem afO_ {α:Type} [DecidableEq α] {k:α}: ∀ {l:List α},k∈l→JS_ k true (JF_ l)=JF_ l
 |x::l,h=>by
  unfold JF_
  rw[List.map_cons,JS_]
  by_cases h1:k=x
  ·subst h1;simp
  ·have h2: (k==x)=false:=by simpa using h1
   simp only[h2]
   have:=afO_ ((List.mem_cons.1 h).resolve_left h1)
   unfold JF_ at this
   simp[this]
theorem ZW_ {α:Type} [DecidableEq α] {k:α}: ∀ {l:List α},k∉l→JS_ k true (JF_ l)=JF_ (l++ [k])
 | [],_=>rfl
 |x::l,h=>by
  unfold JF_
  rw[List.map_cons,JS_,List.cons_append,List.map_cons]
  have h1:k≠x:=fun e=>h (by rw[e];exact List.mem_cons_self)
  have h2: (k==x)=false:=by simpa using h1
  simp only[h2]
  have:=ZW_ (k:=k) (l:=l) (fun hm=>h (List.mem_cons_of_mem _ hm))
  unfold JF_ at this
  simp[this]
structure WkA (bw:Nat) (sv:Value) (W:WkS) (vq:Value) (bv:Nat) (ov:Obj) (bm:Nat) (om:Obj) (vl:Value) (Q M X:zd_):Prop where
 perm:X.Perm ((bw, .cells #[sv,vq,vm bv,vm bm,vl] 133 (0,0)):: (bv,ov):: (bm,om):: (Q++M))
 q:Qu Q 59 33 vq W.q.length (W.q.map zO_).flatten
 l:Gr M 59 33 vl W.lk.length (W.lk.map zO_).flatten
 v:K7_ chKV blV ov (JF_ W.vis)
 m:K7_ ZS_ blV om (JF_ W.ms)
def WkP (bw:Nat) (sv:Value) (W:WkS) (X:zd_):Prop:= ∃vq bv ov bm om vl Q M,WkA bw sv W vq bv ov bm om vl Q M X
theorem WkA.ne {bw:Nat} {sv:Value} {W:WkS} {vq:Value} {bv:Nat} {ov:Obj} {bm:Nat} {om:Obj} {vl:Value} {Q M X:zd_} (h:WkA bw sv W vq bv ov bm om vl Q M X) (hn: (keys X).Nodup):
  bw≠bv∧bw≠bm∧bv≠bm∧(∀c,c∈keys Q∨c∈keys M→c≠bw∧c≠bv∧c≠bm):=by
 have:=(h.perm.map Prod.fst).nodup_iff.1 hn
 simp only[List.map_cons,List.map_append,List.nodup_cons,List.mem_cons,List.mem_append,not_or] at this
 obtain⟨⟨h1,h2,h3,h4⟩,⟨h5,h6,h7⟩,⟨h8,h9⟩,-⟩:=this
 refine⟨h1,h2,h5,fun c hc=> ?_⟩
 rcases hc with hc|hc
 ·exact⟨fun e=>h3 (e▸hc),fun e=>h6 (e▸hc),fun e=>h8 (e▸hc)⟩
 ·exact⟨fun e=>h4 (e▸hc),fun e=>h7 (e▸hc),fun e=>h9 (e▸hc)⟩
theorem WkA.ext {bw:Nat} {sv:Value} {W:WkS} {vq:Value} {bv:Nat} {ov:Obj} {bm:Nat} {om:Obj} {vl:Value} {Q M X D:zd_} {w:World} (h:WkA bw sv W vq bv ov bm om vl Q M X)
  (h1: ∀c,c∈keys D↔c=bw∨c=bv∨c=bm∨c∈keys Q∨c∈keys M∨(c∈keys D∧w.heap.size≤c)):Ext w X D:=by
 have hk: ∀c,c∈keys X↔c=bw∨c=bv∨c=bm∨c∈keys Q∨c∈keys M:=fun c=>by
  have:=(h.perm.map Prod.fst).mem_iff (a:=c)
  simp only[List.map_cons,List.map_append,List.mem_cons,List.mem_append] at this
  exact this
 refine⟨fun c hc=> ?_,fun c hc=>(h1 c).2 ?_⟩
 ·rcases(h1 c).1 hc with h|h|h|h|h|h
  ·exact .inl ((hk c).2 (.inl h))
  ·exact .inl ((hk c).2 (.inr (.inl h)))
  ·exact .inl ((hk c).2 (.inr (.inr (.inl h))))
  ·exact .inl ((hk c).2 (.inr (.inr (.inr (.inl h)))))
  ·exact .inl ((hk c).2 (.inr (.inr (.inr (.inr h)))))
  ·exact .inr h.2
 ·rcases(hk c).1 hc with h|h|h|h|h
  ·exact .inl h
  ·exact .inr (.inl h)
  ·exact .inr (.inr (.inl h))
  ·exact .inr (.inr (.inr (.inl h)))
  ·exact .inr (.inr (.inr (.inr (.inl h))))
theorem l5_0 (a b c d e:Value) (n:Nat) (E:TypeId) (fz:Nat×Nat):zv_ (some (false,n)) (some (.cells #[a,b,c,d,e] E fz)) 0=some a:=(rfl)
theorem l5_1 (a b c d e:Value) (n:Nat) (E:TypeId) (fz:Nat×Nat):zv_ (some (false,n)) (some (.cells #[a,b,c,d,e] E fz)) 1=some b:=(rfl)
theorem l5_2 (a b c d e:Value) (n:Nat) (E:TypeId) (fz:Nat×Nat):zv_ (some (false,n)) (some (.cells #[a,b,c,d,e] E fz)) 2=some c:=(rfl)
theorem l5_3 (a b c d e:Value) (n:Nat) (E:TypeId) (fz:Nat×Nat):zv_ (some (false,n)) (some (.cells #[a,b,c,d,e] E fz)) 3=some d:=(rfl)
theorem l5_4 (a b c d e:Value) (n:Nat) (E:TypeId) (fz:Nat×Nat):zv_ (some (false,n)) (some (.cells #[a,b,c,d,e] E fz)) 4=some e:=(rfl)
theorem s5_1 (a b c d e v:Value) (E:TypeId) (h:Value.oneCell' v=true∧v.cells= #[v]):zt_ (some (false,1)) (some (.cells #[a,b,c,d,e] E (0,0))) 1 v=some (.cells #[a,v,c,d,e] E (0,0)):=by
 simp[zt_,h,ky_]
theorem s5_4 (a b c d e v:Value) (E:TypeId) (h:Value.oneCell' v=true∧v.cells= #[v]):zt_ (some (false,1)) (some (.cells #[a,b,c,d,e] E (0,0))) 4 v=some (.cells #[a,b,c,d,v] E (0,0)):=by
 simp[zt_,h,ky_]
theorem ab5_ (b:Nat) (w:World): (method (Tryz.prog.types.size+Made.depth) 118 (vp b 0) "Get").run Tryz.prog w= .ok (342,vp b 0) w:=by kernel_rfl
set_option linter.defProp false
def jI_:=And.intro (And.intro (And.intro (And.intro (@jt_) (@qH_)) (And.intro (@qC_) (@qO_))) (And.intro (And.intro (@Sx.tup2_0) (@Sx.tup2_1)) (And.intro (@zL_) (And.intro (@zK_) (@jH_))))) (And.intro (And.intro (And.intro (@Z1_) (@wF_)) (And.intro (@wm_) (And.intro (@ji_) (@vJ_)))) (And.intro (And.intro (@l5_0) (@l5_1)) (And.intro (@l5_2) (And.intro (@l5_3) (@l5_4)))))
theorem agn_ (bw:Nat) (sv vq vv vk vl:Value) (m:List (IdL×ObK)) (c:ChildL) (w:World) (hb:w.heap[bw]? =some (.cells #[sv,vq,vv,vk,vl] 133 (0,0))) (hS:SrcW w sv m []):
  Rets Tryz.prog 79 #[vp bw 0, .agg (zO_ c).toArray] w (fun v D=>v= .tuple #[obKV (qe_ m c.id).1, .bool (jN_ (qe_ m) c)]∧D= []):=by
 obtain⟨bx,bm,om,hA,-,-⟩:=hS
 have hsv:=hA.sv
 subst hsv
 have hlw:=(Array.getElem?_eq_some_iff.1 hb).1
 have hlx:=(Array.getElem?_eq_some_iff.1 hA.bx).1
 have hlm:=(Array.getElem?_eq_some_iff.1 hA.bm).1
 refine Rets.enterV Tryz.func79 rfl (rs:= [.cell 4 35, .tmp 5]) Tryz.results79 Tryz.ntmps79 ?_
 refine kf ?_
 first|with_reducible refine ks [] @jI_ ?_|refine kp @jI_ ?_
 refine Ow.box rfl rfl fun b3 hb3 hw3=> ?_
 simp only[zV_,zT_,z6_,ze_,List.nil_append,List.cons_append]
 refine Ow.go rfl ?_
 simp(disch:=(first|assumption|omega| (simp only[je_,jc_,UInt64.reduceToNat];try omega))) only[↓Sx.S0,Sx.S1,Tryz.fx,jI_,Nat.reduceAdd,Nat.reducePow,Int.reducePow,Nat.reduceBEq, ↓reduceIte,UInt8.reduceToNat,UInt16.reduceToNat,UInt32.reduceToNat,UInt64.reduceToNat,Int.reduceToNat]
 refine Ow.alloc rfl rfl WC_ fun b4 hb4 hw4=> ?_
 simp only[ze_,List.nil_append,List.cons_append]
 have h34:b3<b4:=zf_ hb4 (by simp[keys])
 have hNY:New w.heap.size [(b3,Obj.cells (zO_ c).toArray 59 (0,0)),(b4, .cells #[vi 0,vs []] 35 (0,0))]:=⟨hw3,hw4,trivial⟩
 have rbw:zr_ w [(b3,Obj.cells (zO_ c).toArray 59 (0,0)),(b4, .cells #[vi 0,vs []] 35 (0,0))] bw=some (.cells #[.iface 118 (vp bx 0),vq,vv,vk,vl] 133 (0,0)):=by rw[qX_ (hNY.not hlw)];exact hb
 refine ko @jI_ ?_
 first|with_reducible refine ks [] @jI_ ?_|refine kp @jI_ ?_
 refine Cw.regionD [bw,b3] [11] 10 6 35 12 _ rfl (by kernel_rfl) (by kernel_rfl) rfl (by kernel_rfl) WC_ (fun hD=> ?_)
 simp only[List.replicate_succ,List.replicate_zero]
 refine OwD.run [0,1,2,3,4,5] [true,true,true,true,true,true,false,false,false,false,false,false,false] 6 rfl hD (by kernel_rfl) fun k hk=> ?_
 simp only[zg_, ↓zc_, ↓za_, ↓zl_, ↓zk_,zb_]
 simp(disch:=(first|assumption|omega| (simp only[je_,jc_,UInt64.reduceToNat];try omega))) only[↓Sx.S0,Sx.S1,Tryz.fx,jI_,Nat.reduceAdd,Nat.reducePow,Int.reducePow,Nat.reduceBEq, ↓reduceIte,UInt8.reduceToNat,UInt16.reduceToNat,UInt32.reduceToNat,UInt64.reduceToNat,Int.reduceToNat,Md.next_sofnil,rbw]
 (with_reducible refine hk _ _ _ ?_);clear hk k
 refine OwD.soft 6 _ hD rfl (by kernel_rfl) (fun E hE=> ?_)
 have hNE:=hNY.app (adv_ hE)
 refine Ow.callIV rfl rfl rfl (ab5_ bx) Tryz.call342 (fun w' hw'=>Q7_ bx bm om m c.id _ w' (hA.old hw' (hNE.not hlx) (hNE.not hlm))) ?_
 with_reducible refine Ow.nil ?_
 refine⟨_,List.Perm.refl _,fun _ _=>rfl, ?_⟩
 simp only[List.set_cons_zero,List.set_cons_succ,zo_,zE_,zF_]
 refine OwD.run [7,8,9] [true,true,true,true,true,true,true,true,true,true,false,false,false] 2 rfl hD (by kernel_rfl) fun k hk=> ?_
 simp only[zg_, ↓zc_, ↓za_, ↓zl_, ↓zk_,zb_]
 simp(disch:=(first|assumption|omega| (simp only[je_,jc_,UInt64.reduceToNat];try omega))) only[↓Sx.S0,Sx.S1,Tryz.fx,jI_,Nat.reduceAdd,Nat.reducePow,Int.reducePow,Nat.reduceBEq, ↓reduceIte,UInt8.reduceToNat,UInt16.reduceToNat,UInt32.reduceToNat,UInt64.reduceToNat,Int.reduceToNat,Md.next_sofnil,Sx.tup2_0,Sx.tup2_1]
 (with_reducible refine hk _ _ _ ?_);clear hk k
 refine OwD.real [11,12] rfl hD (by kernel_rfl) (by kernel_rfl) (by kernel_rfl) (by kernel_rfl) (fun r hr=>by simp only[List.mem_cons,List.not_mem_nil,or_false] at hr;rcases hr with rfl|rfl;exact .inr hlw;exact .inl (by simp[keys])) ?_
 simp only[zg_, ↓zc_, ↓za_, ↓zl_, ↓zk_,zb_]
 intro b6 hw6 hbL
 simp only[zE_,zF_]
 have e1:jN_ (qe_ m) c=((qe_ m c.id).2&& (c.kind==0||c.kind==(qe_ m c.id).1.k)):=rfl
 rw[e1]
 generalize (qe_ m c.id).2=ok at*
 generalize (qe_ m c.id).1=o at*
 refine Ow.store rfl rfl rfl (L':= [(b3, .cells (zO_ c).toArray 59 (0,0)),(b4, .cells #[vi 0,vs []] 35 (0,0))]++ [(b6, .cells #[vi o.k,vs o.t] 35 (0,0))]) ?_ ?_
 ·simp only[zV_,zT_,z6_]
  have hst:zt_ (some (true,2)) (some (Obj.cells (Value.cells (obV 0 [])) 35 (0,0))) 0 (obKV o)=some (.cells #[vi o.k,vs o.t] 35 (0,0)):=rfl
  rw[Tryz.ag35,jJ_,xv_ hbL,hst,xh_,jS_ hbL]
  exact []
 have h63:b3≠b6∧b4≠b6:=by simp[keys] at hbL;omega
 obtain⟨h63,h64⟩:=h63
 simp only[List.cons_append,List.nil_append]
 refine ko @jI_ ?_
 first|with_reducible refine ks [] @jI_ ?_|refine kp @jI_ ?_
 have hst2: ∀ (x y:Int) (s t:List UInt8),zt_ (some (true,2)) (some (Obj.cells #[vi x,vs s] 35 (0,0))) 0 (obV y t)=some (.cells #[vi y,vs t] 35 (0,0)):=fun _ _ _ _=>rfl
 cases ok
 ·refine Cw.regionG [b3,b6] [] 16 (by kernel_rfl) rfl ?_
  simp only[List.replicate_succ,List.replicate_zero]
  refine OwG.run [0,1,2,3,4,5,6,7,8,9,10,11,12,13] [true,true,true,true,true,true,true,true,true,true,true,true,true,true,false,false] 2 rfl (by kernel_rfl) (by kernel_rfl) fun k hk=> ?_
  simp only[zg_, ↓zc_, ↓za_, ↓zl_, ↓zk_,zb_]
  simp(disch:=(first|assumption|omega| (simp only[je_,jc_,UInt64.reduceToNat];try omega))) only[↓Sx.S0,Sx.S1,Tryz.fx,jI_,Nat.reduceAdd,Nat.reducePow,Int.reducePow,Nat.reduceBEq, ↓reduceIte,UInt8.reduceToNat,UInt16.reduceToNat,UInt32.reduceToNat,UInt64.reduceToNat,Int.reduceToNat,Md.next_sofnil,Md.next_sofnil]
  (with_reducible refine hk _ _ _ ?_);clear hk k
  refine OwG.one 14 _ (by kernel_rfl) rfl ?_
  refine ko (And.intro @jI_ @hst2) ?_
  refine⟨fun r hr=>by simp only[List.mem_cons,List.not_mem_nil,or_false] at hr;rcases hr with rfl|rfl;exact(zR_ _ _ _ _).trans (zR_ _ _ _ _).symm;rw[zx_ _ _ _ _ _ h63,zx_ _ _ _ _ _ h64,zx_ _ _ _ _ _ h63,zx_ _ _ _ _ _ h64], ?_⟩
  simp only[List.set_cons_zero,List.set_cons_succ,zo_,zE_,zF_]
  refine OwG.rest [15] rfl (by kernel_rfl) (by kernel_rfl) ?_
  simp only[zg_, ↓zc_, ↓za_, ↓zl_, ↓zk_,zb_]
  refine kq @jI_ ?_
  try with_reducible refine Ow.nil ?_
  first|with_reducible refine ks [] @jI_ ?_|refine kp @jI_ ?_
  refine⟨_,(ke @jI_),⟨hw3,hw4,hw6,trivial⟩, ?_⟩
  rfl
 ·cases hq: (c.kind==0)
  ·refine Cw.regionG [b3,b6] [] 16 (by kernel_rfl) rfl ?_
   simp only[List.replicate_succ,List.replicate_zero]
   refine OwG.run [0,1,2,3,4,5,6,7,8,9,10,11,12,13] [true,true,true,true,true,true,true,true,true,true,true,true,true,true,false,false] 2 rfl (by kernel_rfl) (by kernel_rfl) fun k hk=> ?_
   simp only[zg_, ↓zc_, ↓za_, ↓zl_, ↓zk_,zb_]
   simp(disch:=(first|assumption|omega| (simp only[je_,jc_,UInt64.reduceToNat];try omega))) only[↓Sx.S0,Sx.S1,Tryz.fx,jI_,Nat.reduceAdd,Nat.reducePow,Int.reducePow,Nat.reduceBEq, ↓reduceIte,UInt8.reduceToNat,UInt16.reduceToNat,UInt32.reduceToNat,UInt64.reduceToNat,Int.reduceToNat,Md.next_sofnil,hq]
   (with_reducible refine hk _ _ _ ?_);clear hk k
   refine OwG.one 14 _ (by kernel_rfl) rfl ?_
   refine ko (And.intro @jI_ @hst2) ?_
   refine⟨fun r hr=>by simp only[List.mem_cons,List.not_mem_nil,or_false] at hr;rcases hr with rfl|rfl;exact(zR_ _ _ _ _).trans (zR_ _ _ _ _).symm;rw[zx_ _ _ _ _ _ h63,zx_ _ _ _ _ _ h64,zx_ _ _ _ _ _ h63,zx_ _ _ _ _ _ h64], ?_⟩
   simp only[List.set_cons_zero,List.set_cons_succ,zo_,zE_,zF_]
   refine OwG.rest [15] rfl (by kernel_rfl) (by kernel_rfl) ?_
   simp only[zg_, ↓zc_, ↓za_, ↓zl_, ↓zk_,zb_]
   refine kq @jI_ ?_
   try with_reducible refine Ow.nil ?_
   first|with_reducible refine ks [] @jI_ ?_|refine kp @jI_ ?_
   refine⟨_,(ke @jI_),⟨hw3,hw4,hw6,trivial⟩, ?_⟩
   rfl
  ·refine Cw.regionG [b3,b6] [] 16 (by kernel_rfl) rfl ?_
   simp only[List.replicate_succ,List.replicate_zero]
   refine OwG.run [0,1,2,3,4,5,6,7,8,9,10,11,12,13] [true,true,true,true,true,true,true,true,true,true,true,true,true,true,false,false] 2 rfl (by kernel_rfl) (by kernel_rfl) fun k hk=> ?_
   simp only[zg_, ↓zc_, ↓za_, ↓zl_, ↓zk_,zb_]
   simp(disch:=(first|assumption|omega| (simp only[je_,jc_,UInt64.reduceToNat];try omega))) only[↓Sx.S0,Sx.S1,Tryz.fx,jI_,Nat.reduceAdd,Nat.reducePow,Int.reducePow,Nat.reduceBEq, ↓reduceIte,UInt8.reduceToNat,UInt16.reduceToNat,UInt32.reduceToNat,UInt64.reduceToNat,Int.reduceToNat,Md.next_sofnil,hq]
   (with_reducible refine hk _ _ _ ?_);clear hk k
   refine OwG.one 14 _ (by kernel_rfl) rfl ?_
   refine ko (And.intro @jI_ @hst2) ?_
   refine⟨fun r hr=>by simp only[List.mem_cons,List.not_mem_nil,or_false] at hr;rcases hr with rfl|rfl;exact(zR_ _ _ _ _).trans (zR_ _ _ _ _).symm;rw[zx_ _ _ _ _ _ h63,zx_ _ _ _ _ _ h64,zx_ _ _ _ _ _ h63,zx_ _ _ _ _ _ h64], ?_⟩
   simp only[List.set_cons_zero,List.set_cons_succ,zo_,zE_,zF_]
   refine OwG.rest [15] rfl (by kernel_rfl) (by kernel_rfl) ?_
   simp only[zg_, ↓zc_, ↓za_, ↓zl_, ↓zk_,zb_]
   refine kq @jI_ ?_
   try with_reducible refine Ow.nil ?_
   first|with_reducible refine ks [] @jI_ ?_|refine kp @jI_ ?_
   refine⟨_,(ke @jI_),⟨hw3,hw4,hw6,trivial⟩, ?_⟩
   rfl
end Go.Proofs
end
section
open Go Go.Proofs Go.Sx Go.StP
namespace Go.Proofs
set_option maxRecDepth 10000
set_option maxHeartbeats 1000000
set_option linter.unusedSimpArgs false
theorem Zm_ {k:Int} {t:List UInt8}: (qm_ k t).length≤40:=by
 unfold qm_
 cases hr:xA_ k t
 ·simp
 ·rw[if_pos rfl]
  split
  ·rename_i h
   subst h
   rw[List.length_map]
   have:=(xQ_ (akc_ hr)).1
   omega
  ·split
   ·have:=acX_ t
    simp only[List.length_cons,List.length_map];omega
   ·simp
set_option linter.defProp false
end Go.Proofs
end
namespace Go.Sx
open Go
theorem Ext.perm {w:World} {X D D':zd_} (h:Ext w X D) (hp:D'.Perm D):Ext w X D':=
 ⟨fun c hc=>h.new c ((hp.map Prod.fst).mem_iff.1 hc),fun c hc=>(hp.map Prod.fst).mem_iff.2 (h.all c hc)⟩
section
variable {P:Program} {w0:World} {f:Fr} {L:zd_} {N:Fr→zd_→Prop} {ops:Array Oper} {rest:List Oper} {md:Md} {d:Option Tmp} {ty:TypeId} {ps:String} {af:Array Edge} {g:Option (Nat×Bool)}
end
end Go.Sx
section
open Go Go.Proofs Go.Sx Go.StP
namespace Go.Proofs
set_option maxRecDepth 10000
set_option maxHeartbeats 400000
set_option linter.unusedSimpArgs false
theorem Wh_ (c:ChildL):kb_ Tryz.prog 44 1 [(0, .agg (zO_ c).toArray)]=some (59,(zO_ c).toArray):=
 qs_ Tryz.underlying44 vU_ wY_ (by decide) (zM_ c)
theorem alf_ {bw bv bm:Nat} {a b c:Obj} {Q M D:zd_} (h:D=(bw,a):: (bv,b):: (bm,c):: (Q++M)) (x:Nat):x∈keys D↔x=bw∨x=bv∨x=bm∨x∈keys Q∨x∈keys M:=by
 subst h
 simp only[keys,List.map_cons,List.map_append,List.mem_cons,List.mem_append]
theorem WkA.ext2 {bw:Nat} {sv:Value} {W:WkS} {vq:Value} {bv:Nat} {ov:Obj} {bm:Nat} {om:Obj} {vl:Value} {Q M X Q' M':zd_} {a b c:Obj} {w:World} (h:WkA bw sv W vq bv ov bm om vl Q M X)
  (h1: ∀x,x∈keys Q→x∈keys Q') (h2: ∀x,x∈keys Q'→x∈keys Q∨w.heap.size≤x) (h3: ∀x,x∈keys M→x∈keys M') (h4: ∀x,x∈keys M'→x∈keys M∨w.heap.size≤x):
  Ext w X ((bw,a):: (bv,b):: (bm,c):: (Q'++M')):=by
 refine h.ext fun x=> ?_
 rw[alf_ rfl]
 constructor
 ·rintro(h|h|h|h|h)
  ·exact .inl h
  ·exact .inr (.inl h)
  ·exact .inr (.inr (.inl h))
  ·rcases h2 x h with h5|h5
   ·exact .inr (.inr (.inr (.inl h5)))
   ·exact .inr (.inr (.inr (.inr (.inr ⟨.inr (.inr (.inr (.inl h))),h5⟩))))
  ·rcases h4 x h with h5|h5
   ·exact .inr (.inr (.inr (.inr (.inl h5))))
   ·exact .inr (.inr (.inr (.inr (.inr ⟨.inr (.inr (.inr (.inr h))),h5⟩))))
 ·rintro(h|h|h|h|h|h)
  ·exact .inl h
  ·exact .inr (.inl h)
  ·exact .inr (.inr (.inl h))
  ·exact .inr (.inr (.inr (.inl (h1 x h))))
  ·exact .inr (.inr (.inr (.inr (h3 x h))))
  ·exact h.1
theorem Ze_ {L D X:zd_} {B c:Nat} (hA:qV_ L B) (hc:c∈keys L) (hcX:c∉keys X) (hD: ∀q,q∈keys D→q∈keys X∨B≤q):c∉keys D:=fun h=>(hD c h).elim hcX fun hb=>by have:=zf_ hA hc;omega
theorem Qw_ {b:Nat} {x:Obj}: ∀ {L M:zd_},b∉keys L→setB (L++M) b x=L++setB M b x
 | [],_,_=>rfl
 | (c,y)::r,M,h=>by
  simp only[keys,List.map_cons,List.mem_cons,not_or] at h
  rw[List.cons_append,qg_ _ _ _ _ _ (Ne.symm h.1),Qw_ (L:=r) h.2,List.cons_append]
theorem KF_ {D Y:zd_} {b:Nat} {o x:Obj} (h:b∉keys D):setB (D++ ((b,o)::Y)) b x=D++ ((b,x)::Y):=by rw[Qw_ h,ql_]
theorem jp_ {D Y:zd_} {b:Nat} {o:Obj} (h:b∉keys D):Sx.look (D++ ((b,o)::Y)) b=some o:=by rw[zG_ h];exact zy_ _ _ _
theorem jA_ {D Y:zd_} {b c:Nat} {o x:Obj} (h:c∉keys D) (hn:b≠c):Sx.look (D++ ((b,o):: (c,x)::Y)) c=some x:=by rw[zG_ h,z2_ _ _ _ _ hn];exact zy_ _ _ _
theorem WkA.keysX {bw:Nat} {sv:Value} {W:WkS} {vq:Value} {bv:Nat} {ov:Obj} {bm:Nat} {om:Obj} {vl:Value} {Q M X:zd_} (h:WkA bw sv W vq bv ov bm om vl Q M X) (x:Nat):x∈keys X↔x=bw∨x=bv∨x=bm∨x∈keys Q∨x∈keys M:=by
 rw[←alf_ rfl x];exact(h.perm.map Prod.fst).mem_iff
theorem zrBl:zZ_ Tryz.prog 4=some (blV false):=id (by kernel_rfl)
set_option linter.defProp false
def qI_:=And.intro (And.intro (And.intro (And.intro (@jt_) (@qH_)) (And.intro (@qC_) (@qO_))) (And.intro (And.intro (@Sx.tup2_0) (@Sx.tup2_1)) (And.intro (@zL_) (And.intro (@zK_) (@jH_))))) (And.intro (And.intro (And.intro (@Z1_) (@wF_)) (And.intro (@wm_) (And.intro (@ji_) (@vJ_)))) (And.intro (And.intro (@l5_0) (@l5_1)) (And.intro (@l5_2) (And.intro (@l5_3) (@l5_4)))))
theorem adx_ (bw:Nat) (sv:Value) (W:WkS) (m:List (IdL×ObK)) (c:ChildL) (X:zd_) (w:World) (hX: ∀p,p∈X→w.heap[p.1]? =some p.2) (hn: (keys X).Nodup) (hP:WkP bw sv W X) (hS:SrcW w sv m X) (hc:c∉W.vis)
  (hb1:W.q.length<10000000) (hb2:W.lk.length<10000000):
  Rets Tryz.prog 72 #[vp bw 0, .agg (zO_ c).toArray] w (XS w X (fun v D=>v= .tuple #[]∧WkP bw sv (xw_ (qe_ m) W c) D)):=by
 obtain⟨vq,bv,ov,bm,om,vl,Q,M,hA⟩:=hP
 obtain⟨hn1,hn2,hn3,hn4⟩:=hA.ne hn
 have hkX:=hA.keysX
 have hlt: ∀x,x∈keys X→x<w.heap.size:=fun x hx=>by
  obtain⟨p,hp,rfl⟩:=List.mem_map.1 hx
  exact(Array.getElem?_eq_some_iff.1 (hX p hp)).1
 have hwb:=hlt bw ((hkX bw).2 (.inl rfl))
 have hwv:=hlt bv ((hkX bv).2 (.inr (.inl rfl)))
 have hwm:=hlt bm ((hkX bm).2 (.inr (.inr (.inl rfl))))
 have hwQ: ∀x,x∈keys Q→x<w.heap.size:=fun x hx=>hlt x ((hkX x).2 (.inr (.inr (.inr (.inl hx)))))
 have hwM: ∀x,x∈keys M→x<w.heap.size:=fun x hx=>hlt x ((hkX x).2 (.inr (.inr (.inr (.inr hx)))))
 have hid:=c.id.h
 refine Rets.enterX Tryz.func72 rfl (rs:= []) Tryz.results72 Tryz.ntmps72 hX hn ?_
 refine kf ?_
 refine Cw.permL hA.perm.symm ?_
 first|with_reducible refine ks [] @qI_ ?_|refine kp @qI_ ?_
 refine Ow.box rfl rfl fun b3 hb3 hw3=> ?_
 simp only[zV_,zT_,z6_,ze_,List.nil_append,List.cons_append]
 refine Ow.go rfl ?_
 simp(disch:=(first|assumption|omega| (simp only[je_,jc_,UInt64.reduceToNat];try omega))) only[↓Sx.S0,Sx.S1,Tryz.fx,qI_,Nat.reduceAdd,Nat.reducePow,Int.reducePow,Nat.reduceBEq, ↓reduceIte,UInt8.reduceToNat,UInt16.reduceToNat,UInt32.reduceToNat,UInt64.reduceToNat,Int.reduceToNat]
 refine Cw.permL (M:=(b3, .cells (zO_ c).toArray 59 (0,0)):: (bw, .cells #[sv,vq,vm bv,vm bm,vl] 133 (0,0)):: (bv,ov):: (bm,om):: (Q++M)) (by classical exact List.perm_iff_count.2 fun a=>by simp only[List.count_append,List.count_cons,List.count_nil]<;>omega) ?_
 first|with_reducible refine ks [] @qI_ ?_|refine kp @qI_ ?_
 refine Cw.regionS [bw,b3] [0,1,2,3,4,5] [5] (by kernel_rfl) (by kernel_rfl) (by kernel_rfl) ?_
 simp only[zg_, ↓zc_, ↓za_, ↓zl_, ↓zk_,zb_]
 refine kq @qI_ ?_
 refine Ow.mapUpdateG (encK:=chKV) (encV:=blV) (k:=c) (v:=true) rfl rfl Tryz.underlying130 ajn_ rfl rfl rfl (by rw[z2_ _ _ _ _ (by omega),z2_ _ _ _ _ (by omega)];exact zy_ _ _ _) hA.v (fun o1 ho1=> ?_)
 rw[ZW_ hc] at ho1
 rw[qg_ _ _ _ _ _ (by omega),qg_ _ _ _ _ _ (by omega),ql_]
 refine ko @qI_ ?_
 first|with_reducible refine ks [] @qI_ ?_|refine kp @qI_ ?_
 have hLk: ∀x,x∈keys ((b3,Obj.cells (zO_ c).toArray 59 (0,0)):: (bw, .cells #[sv,vq,vm bv,vm bm,vl] 133 (0,0)):: (bv,o1):: (bm,om):: (Q++M))→x∈keys X∨w.heap.size≤x:=fun x hx=>by
  simp only[keys,List.map_cons,List.map_append,List.mem_cons,List.mem_append] at hx
  rcases hx with h|h
  ·exact .inr (by omega)
  ·exact .inl ((hkX x).2 h)
 refine Ow.callFV rfl Tryz.call79 (fun w' hw'=>agn_ bw sv vq _ _ vl m c w' (hw'.has bw (.cells #[sv,vq,vm bv,vm bm,vl] 133 (0,0)) (by simp)) ((hS.ext hLk).old hw' (fun _ h=>by cases h))) ?_
 obtain⟨o,ho⟩: ∃o,o=(qe_ m c.id).1:=⟨_,rfl⟩
 rw[←ho]
 obtain⟨ok,ot⟩:=o
 have e0:obKV ⟨ok,ot⟩=obV ok ot:=rfl
 rw[e0]
 refine ko @qI_ ?_
 refine Ow.alloc rfl rfl WC_ fun b4 hb4 hw4=> ?_
 simp only[ze_,List.nil_append,List.cons_append]
 refine Ow.permL (M:=(bm,om):: (bw, .cells #[sv,vq,vm bv,vm bm,vl] 133 (0,0)):: (b3, .cells (zO_ c).toArray 59 (0,0)):: (b4, .cells #[vi 0,vs []] 35 (0,0)):: (bv,o1):: (Q++M)) (by classical exact List.perm_iff_count.2 fun a=>by simp only[List.count_append,List.count_cons,List.count_nil]<;>omega) ?_
 have h34:b3<b4:=zf_ hb4 (by simp[keys])
 refine ko @qI_ ?_
 have hbM:bw∉keys M:=fun h=>(hn4 _ (.inr h)).1 rfl
 have hbQ:bw∉keys Q:=fun h=>(hn4 _ (.inl h)).1 rfl
 have h3M:b3∉keys M:=fun h=>by have:=hwM _ h;omega
 have h3Q:b3∉keys Q:=fun h=>by have:=hwQ _ h;omega
 have h4Q:b4∉keys Q:=fun h=>by have:=hwQ _ h;omega
 have hNg: ∀x,x∈keys [(b3,Obj.cells (zO_ c).toArray 59 (0,0)),(b4, .cells #[vi ok,vs ot] 35 (0,0))]→w.heap.size≤x:=fun x hx=>by
  simp only[keys,List.map_cons,List.map_nil,List.mem_cons,List.not_mem_nil,or_false] at hx
  omega
 cases hf:jN_ (qe_ m) c
 ·have hv:xw_ (qe_ m) W c={W with vis:=W.vis++ [c],lk:=W.lk++ [c]}:=by unfold xw_;rw[hf];rfl
  rw[hv]
  refine Cw.permL (M:=M++ ((bw, .cells #[sv,vq,vm bv,vm bm,vl] 133 (0,0)):: (b3, .cells (zO_ c).toArray 59 (0,0)):: (b4, .cells #[vi ok,vs ot] 35 (0,0)):: (bv,o1):: (bm,om)::Q)) (by classical exact List.perm_iff_count.2 fun a=>by simp only[List.count_append,List.count_cons,List.count_nil]<;>omega) ?_
  have rbw:=fun Y=>zm_ (w0:=w) (jp_ (D:=M) (Y:=Y) (o:= .cells #[sv,vq,vm bv,vm bm,vl] 133 (0,0)) hbM)
  have rb3:=fun Y=>zm_ (w0:=w) (jA_ (D:=M) (Y:=Y) (o:= .cells #[sv,vq,vm bv,vm bm,vl] 133 (0,0)) (x:= .cells (zO_ c).toArray 59 (0,0)) h3M (show bw≠b3 by omega))
  first|with_reducible refine ks [] @qI_ ?_|refine kp @qI_ ?_
  refine Cw.regionG [bw,b3] [10] 11 (by kernel_rfl) rfl ?_
  simp only[List.replicate_succ,List.replicate_zero]
  refine OwG.run [0,1,2,3,4,5] [true,true,true,true,true,true,false,false,false,false,false] 5 rfl (by kernel_rfl) (by kernel_rfl) fun k hk=> ?_
  simp only[zg_, ↓zc_, ↓za_, ↓zl_, ↓zk_,zb_]
  simp(disch:=(first|assumption|omega| (simp only[je_,jc_,UInt64.reduceToNat];try omega))) only[↓Sx.S0,Sx.S1,Tryz.fx,qI_,Nat.reduceAdd,Nat.reducePow,Int.reducePow,Nat.reduceBEq, ↓reduceIte,UInt8.reduceToNat,UInt16.reduceToNat,UInt32.reduceToNat,UInt64.reduceToNat,Int.reduceToNat,Md.next_sofnil,rbw,rb3]
  (with_reducible refine hk _ _ _ ?_);clear hk k
  refine OwG.one 6 _ (by kernel_rfl) rfl ?_
  refine Ow.buildSlice (e:=59) (zO_ c).toArray rfl rfl (Wh_ c) fun ba hba hwa=> ?_
  with_reducible refine Ow.nil ?_
  refine⟨(zu_ (fun r hr=>by simp only[List.mem_cons,List.not_mem_nil,or_false] at hr;rcases hr with rfl|rfl<;>simp[keys])), ?_⟩
  simp only[List.set_cons_zero,List.set_cons_succ,zo_,zE_,zF_]
  refine OwG.one 7 _ (by kernel_rfl) rfl ?_
  refine Ow.appendXG (e:=59) (k:=1) (new:=zO_ c) (X:=M) vl (List.append_assoc _ _ _) rfl rfl rfl Tryz.underlying44 vU_ (by kernel_rfl) wY_ (by rw[ji_,List.size_toArray,zM_]) Tryz.underlying44 (by intro k h;cases h) hA.l (fun w' hw'=>AppX.one1 (hw'.has ba (.cells (zO_ c).toArray 59 (0,0)) (by simp)) (zM_ _) (kp_ _)) (by omega) (fun B5 v5 D5 hA5 hB5 hG5 hk15 hk25 hlk5=> ?_)
  have hbD:bw∉keys D5:=Ze_ hA5 (by simp[keys]) hbM hk25
  have h3D:b3∉keys D5:=Ze_ hA5 (by simp[keys]) h3M hk25
  have c5:=hG5.cell
  have lD5:=fun Y=>jp_ (D:=D5) (Y:=Y) (o:= .cells #[sv,vq,vm bv,vm bm,vl] 133 (0,0)) hbD
  have st5:=s5_4 sv vq (vm bv) (vm bm) vl v5 133 c5
  with_reducible refine Ow.nil ?_
  refine⟨(fun r hr=>by simp only[List.mem_cons,List.not_mem_nil,or_false] at hr;rcases hr with rfl|rfl;exact(zm_ (jp_ hbD)).trans (zm_ (zq_ (jp_ hbM))).symm;exact(zm_ (jA_ h3D (by omega))).trans (zm_ (zq_ (jA_ h3M (by omega)))).symm), ?_⟩
  simp only[List.set_cons_zero,List.set_cons_succ,zo_,zE_,zF_]
  refine OwG.rest [8,9,10] rfl (by kernel_rfl) (by kernel_rfl) ?_
  simp only[zg_, ↓zc_, ↓za_, ↓zl_, ↓zk_,zb_]
  refine kq @qI_ ?_
  refine Ow.store rfl rfl rfl (ke (And.intro @qI_ (And.intro @lD5 (@st5)))) ?_
  have es:=fun Y x=>KF_ (D:=D5) (Y:=Y) (o:= .cells #[sv,vq,vm bv,vm bm,vl] 133 (0,0)) (x:=x) hbD
  simp only[List.cons_append] at*
  rw[es]
  refine ko @qI_ ?_
  first|with_reducible refine ks [] @qI_ ?_|refine kp @qI_ ?_
  refine⟨_,(ke @qI_), ?_⟩
  have hN5: ∀x,x∈keys (D5++ [(b3,Obj.cells (zO_ c).toArray 59 (0,0)),(b4, .cells #[vi ok,vs ot] 35 (0,0)),(ba, .cells (zO_ c).toArray 59 (0,0))])→x∈keys M∨w.heap.size≤x:=fun x hx=>by
   rw[zh_,List.mem_append] at hx
   rcases hx with h|h
   ·exact(hk25 x h).imp id fun h=>by omega
   ·simp only[keys,List.map_cons,List.map_nil,List.mem_cons,List.not_mem_nil,or_false] at h
    exact .inr (by omega)
  refine⟨(hA.ext2 (fun x h=>h) (fun x h=> .inl h) (fun x h=>by rw[zh_];exact List.mem_append_left _ (hk15 x h)) hN5).perm (D:=(bw, .cells #[sv,vq,vm bv,vm bm,v5] 133 (0,0)):: (bv,o1):: (bm,om):: (Q++ (D5++ [(b3,Obj.cells (zO_ c).toArray 59 (0,0)),(b4, .cells #[vi ok,vs ot] 35 (0,0)),(ba, .cells (zO_ c).toArray 59 (0,0))]))) (by classical exact List.perm_iff_count.2 fun a=>by simp only[List.count_append,List.count_cons,List.count_nil]<;>omega),rfl,vq,bv,o1,bm,om,v5,Q,D5++ [(b3,Obj.cells (zO_ c).toArray 59 (0,0)),(b4, .cells #[vi ok,vs ot] 35 (0,0)),(ba, .cells (zO_ c).toArray 59 (0,0))],⟨(by classical exact List.perm_iff_count.2 fun a=>by simp only[List.count_append,List.count_cons,List.count_nil]<;>omega),hA.q, ?_,ho1,hA.m⟩⟩
  have:=hG5.app (M:= [(b3,Obj.cells (zO_ c).toArray 59 (0,0)),(b4, .cells #[vi ok,vs ot] 35 (0,0)),(ba, .cells (zO_ c).toArray 59 (0,0))])
  simpa [List.map_append] using this
 ·((try with_reducible refine Cw.go [] ?_);(try simp(disch:=(first|assumption|omega| (simp only[je_,jc_,UInt64.reduceToNat];try omega))) only[↓Sx.S0,Sx.S1,Tryz.fx,qI_,Nat.reduceAdd,Nat.reducePow,Int.reducePow,Nat.reduceBEq, ↓reduceIte,UInt8.reduceToNat,UInt16.reduceToNat,UInt32.reduceToNat,UInt64.reduceToNat,Int.reduceToNat,Bool.not_true]))
  refine Cw.regionS [bw,b3] [0,1,2,4,3,5,6,7,8] [] (by kernel_rfl) (by kernel_rfl) (by kernel_rfl) ?_
  simp only[zg_, ↓zc_, ↓za_, ↓zl_, ↓zk_,zb_]
  refine kq @qI_ ?_
  refine Ow.soft rfl rfl rfl ?_
  refine Ow.mapGetG (encK:=ZS_) (encV:=blV) (k:=c.id) (z:=false) rfl rfl Tryz.underlying131 WD_ zrBl rfl rfl (zR_ _ _ _ _) hA.m ?_
  with_reducible refine Ow.nil ?_
  refine⟨by intro b hb;simp only[List.mem_cons,List.not_mem_nil,or_false] at hb;(try subst hb);rfl, ?_⟩
  rw[getT]
  by_cases hm:c.id∈W.ms
  ·have hv:xw_ (qe_ m) W c={W with vis:=W.vis++ [c]}:=by unfold xw_;rw[if_pos hf,if_pos hm]
   rw[hv]
   have ec:blV (decide (c.id∈W.ms))= .bool true:=by rw[decide_eq_true hm];rfl
   refine Ow.goQ ?_
   simp(disch:=(first|assumption|omega| (simp only[je_,jc_,UInt64.reduceToNat];try omega))) only[↓Sx.S0,Sx.S1,Tryz.fx,qI_,Nat.reduceAdd,Nat.reducePow,Int.reducePow,Nat.reduceBEq, ↓reduceIte,UInt8.reduceToNat,UInt16.reduceToNat,UInt32.reduceToNat,UInt64.reduceToNat,Int.reduceToNat,ec,Bool.not_true]
   try with_reducible refine Ow.nil ?_
   first|with_reducible refine ks [] @qI_ ?_|refine kp @qI_ ?_
   refine⟨_,(ke @qI_), ?_⟩
   have hNM: ∀x,x∈keys (M++ [(b3,Obj.cells (zO_ c).toArray 59 (0,0)),(b4, .cells #[vi ok,vs ot] 35 (0,0))])→x∈keys M∨w.heap.size≤x:=fun x hx=>by
    rw[zh_,List.mem_append] at hx
    exact hx.imp id (hNg x)
   exact⟨(hA.ext2 (fun x h=>h) (fun x h=> .inl h) (fun x h=>by rw[zh_];exact List.mem_append_left _ h) hNM).perm (D:=(bw, .cells #[sv,vq,vm bv,vm bm,vl] 133 (0,0)):: (bv,o1):: (bm,om):: (Q++ (M++ [(b3,Obj.cells (zO_ c).toArray 59 (0,0)),(b4, .cells #[vi ok,vs ot] 35 (0,0))]))) (by classical exact List.perm_iff_count.2 fun a=>by simp only[List.count_append,List.count_cons,List.count_nil]<;>omega),rfl,vq,bv,o1,bm,om,vl,Q,M++ [(b3,Obj.cells (zO_ c).toArray 59 (0,0)),(b4, .cells #[vi ok,vs ot] 35 (0,0))],⟨(by classical exact List.perm_iff_count.2 fun a=>by simp only[List.count_append,List.count_cons,List.count_nil]<;>omega),hA.q,hA.l.app,ho1,hA.m⟩⟩
  ·have hv:xw_ (qe_ m) W c={W with vis:=W.vis++ [c],ms:=W.ms++ [c.id],q:=W.q++jO_ (qe_ m) c.id}:=by unfold xw_;rw[if_pos hf,if_neg hm]
   rw[hv]
   have ec:blV (decide (c.id∈W.ms))= .bool false:=by rw[decide_eq_false hm];rfl
   refine Ow.goQ ?_
   simp(disch:=(first|assumption|omega| (simp only[je_,jc_,UInt64.reduceToNat];try omega))) only[↓Sx.S0,Sx.S1,Tryz.fx,qI_,Nat.reduceAdd,Nat.reducePow,Int.reducePow,Nat.reduceBEq, ↓reduceIte,UInt8.reduceToNat,UInt16.reduceToNat,UInt32.reduceToNat,UInt64.reduceToNat,Int.reduceToNat,ec,Bool.not_false]
   try with_reducible refine Ow.nil ?_
   first|with_reducible refine ks [] @qI_ ?_|refine kp @qI_ ?_
   refine Cw.regionS [bw,b3] [0,1,2,4,3,5,6] [6] (by kernel_rfl) (by kernel_rfl) (by kernel_rfl) ?_
   simp only[zg_, ↓zc_, ↓za_, ↓zl_, ↓zk_,zb_]
   refine kq @qI_ ?_
   refine Ow.mapUpdateG (encK:=ZS_) (encV:=blV) (k:=c.id) (v:=true) rfl rfl Tryz.underlying131 WD_ rfl rfl rfl (zy_ _ _ _) hA.m (fun o2 ho2=> ?_)
   rw[ZW_ hm] at ho2
   rw[ql_]
   refine ko @qI_ ?_
   refine Cw.permL (M:=Q++ ((bw, .cells #[sv,vq,vm bv,vm bm,vl] 133 (0,0)):: (b4, .cells #[vi ok,vs ot] 35 (0,0)):: (b3, .cells (zO_ c).toArray 59 (0,0)):: (bv,o1):: (bm,o2)::M)) (by classical exact List.perm_iff_count.2 fun a=>by simp only[List.count_append,List.count_cons,List.count_nil]<;>omega) ?_
   have rbw:=fun Y=>zm_ (w0:=w) (jp_ (D:=Q) (Y:=Y) (o:= .cells #[sv,vq,vm bv,vm bm,vl] 133 (0,0)) hbQ)
   have rb4:=fun Y=>zm_ (w0:=w) (jA_ (D:=Q) (Y:=Y) (o:= .cells #[sv,vq,vm bv,vm bm,vl] 133 (0,0)) (x:= .cells #[vi ok,vs ot] 35 (0,0)) h4Q (show bw≠b4 by omega))
   refine Cw.regionG [bw,b4] [10] 11 (by kernel_rfl) rfl ?_
   simp only[List.replicate_succ,List.replicate_zero]
   refine OwG.run [0,1,2,3,4,5] [true,true,true,true,true,true,false,false,false,false,false] 5 rfl (by kernel_rfl) (by kernel_rfl) fun k hk=> ?_
   simp only[zg_, ↓zc_, ↓za_, ↓zl_, ↓zk_,zb_]
   simp(disch:=(first|assumption|omega| (simp only[je_,jc_,UInt64.reduceToNat];try omega))) only[↓Sx.S0,Sx.S1,Tryz.fx,qI_,Nat.reduceAdd,Nat.reducePow,Int.reducePow,Nat.reduceBEq, ↓reduceIte,UInt8.reduceToNat,UInt16.reduceToNat,UInt32.reduceToNat,UInt64.reduceToNat,Int.reduceToNat,Md.next_sofnil,rbw,rb4]
   (with_reducible refine hk _ _ _ ?_);clear hk k
   refine OwG.one 6 _ (by kernel_rfl) rfl ?_
   refine Ow.callC rfl rfl Tryz.call32 (fun w' hw'=>vM_ ok ot w') (fun B6 v6 D6 hA6 hB6 hN6 hS6=> ?_)
   have hN6':=hN6.mono hB6
   have hkk:qm_ ok ot=jO_ (qe_ m) c.id:=by unfold jO_;rw[←ho]
   rw[hkk] at hS6
   have hkl: (jO_ (qe_ m) c.id).length≤40:=by rw[←hkk];exact Zm_
   with_reducible refine Ow.nil ?_
   refine⟨(zu_ (fun r hr=>by simp only[List.mem_cons,List.not_mem_nil,or_false] at hr;rcases hr with rfl|rfl<;>simp[keys])), ?_⟩
   simp only[List.set_cons_zero,List.set_cons_succ,zo_,zE_,zF_]
   refine OwG.one 7 _ (by kernel_rfl) rfl ?_
   refine Ow.appendQ (e:=59) (k:=(jO_ (qe_ m) c.id).length) (new:=((jO_ (qe_ m) c.id).map zO_).flatten) (X:=Q) vq (List.append_assoc _ _ _) rfl rfl rfl Tryz.underlying44 vU_ (by kernel_rfl) wY_ (by rw[ji_,List.size_toArray,zM_]) Tryz.underlying44 (by intro k h;cases h) hA.q (fun w' hw'=>(hS6.slM (z:=chd0) (fun b o hm=>hw'.has b o (List.mem_append_right _ hm)) rfl rfl zM_).appX zM_ kp_) (by omega) (fun B7 v7 D7 hA7 hB7 hG7 hk17 hk27 hlk7=> ?_)
   have hbD:bw∉keys D7:=Ze_ hA7 (by simp[keys]) hbQ hk27
   have h4D:b4∉keys D7:=Ze_ hA7 (by simp[keys]) h4Q hk27
   have c7:=hG7.cell
   have lD7:=fun Y=>jp_ (D:=D7) (Y:=Y) (o:= .cells #[sv,vq,vm bv,vm bm,vl] 133 (0,0)) hbD
   have st7:=s5_1 sv vq (vm bv) (vm bm) vl v7 133 c7
   with_reducible refine Ow.nil ?_
   refine⟨(fun r hr=>by simp only[List.mem_cons,List.not_mem_nil,or_false] at hr;rcases hr with rfl|rfl;exact(zm_ (jp_ hbD)).trans (zm_ (zq_ (jp_ hbQ))).symm;exact(zm_ (jA_ h4D (by omega))).trans (zm_ (zq_ (jA_ h4Q (by omega)))).symm), ?_⟩
   simp only[List.set_cons_zero,List.set_cons_succ,zo_,zE_,zF_]
   refine OwG.rest [8,9,10] rfl (by kernel_rfl) (by kernel_rfl) ?_
   simp only[zg_, ↓zc_, ↓za_, ↓zl_, ↓zk_,zb_]
   refine kq @qI_ ?_
   refine Ow.store rfl rfl rfl (ke (And.intro @qI_ (And.intro @lD7 (@st7)))) ?_
   have es:=fun Y x=>KF_ (D:=D7) (Y:=Y) (o:= .cells #[sv,vq,vm bv,vm bm,vl] 133 (0,0)) (x:=x) hbD
   simp only[List.cons_append] at*
   rw[es]
   refine ko @qI_ ?_
   first|with_reducible refine ks [] @qI_ ?_|refine kp @qI_ ?_
   refine⟨_,(ke @qI_), ?_⟩
   have hNM: ∀x,x∈keys (M++ ([(b3,Obj.cells (zO_ c).toArray 59 (0,0)),(b4, .cells #[vi ok,vs ot] 35 (0,0))]++D6))→x∈keys M∨w.heap.size≤x:=fun x hx=>by
    rw[zh_,zh_,List.mem_append,List.mem_append] at hx
    exact hx.imp id fun h=>h.elim (hNg x) (hN6'.le x)
   refine⟨(hA.ext2 (fun x h=>hk17 x h) (fun x h=>(hk27 x h).imp id fun h=>by omega) (fun x h=>by rw[zh_];exact List.mem_append_left _ h) hNM).perm (D:=(bw, .cells #[sv,v7,vm bv,vm bm,vl] 133 (0,0)):: (bv,o1):: (bm,o2):: (D7++ (M++ ([(b3,Obj.cells (zO_ c).toArray 59 (0,0)),(b4, .cells #[vi ok,vs ot] 35 (0,0))]++D6)))) (by classical exact List.perm_iff_count.2 fun a=>by simp only[List.count_append,List.count_cons,List.count_nil]<;>omega),rfl,v7,bv,o1,bm,o2,vl,D7,M++ ([(b3,Obj.cells (zO_ c).toArray 59 (0,0)),(b4, .cells #[vi ok,vs ot] 35 (0,0))]++D6),⟨(by classical exact List.perm_iff_count.2 fun a=>by simp only[List.count_append,List.count_cons,List.count_nil]<;>omega), ?_,hA.l.app,ho1,ho2⟩⟩
   simpa [List.map_append] using hG7
end Go.Proofs
end
section
open Go Go.Proofs Go.Sx Go.StP Go.RooP
namespace Go.Proofs
set_option maxRecDepth 10000
set_option maxHeartbeats 400000
set_option linter.unusedSimpArgs false
section
variable {α β:Type} [BEq α] [LawfulBEq α]
omit [LawfulBEq α] in
theorem k8_ (k:α) (z:β) (p:α×β) (m:List (α×β)):Qy_ k z (p::m)=if k==p.1 then p.2 else Qy_ k z m:=by
 unfold Qy_
 rw[List.find?_cons]
 cases k==p.1<;>rfl
omit [LawfulBEq α] in
theorem wC_ (k:α) (p:α×β) (m:List (α×β)):hasG k (p::m)=(k==p.1||hasG k m):=rfl
theorem acH_ (k k':α) (v z:β): ∀ (m:List (α×β)),Qy_ k z (JS_ k' v m)=if k==k' then v else Qy_ k z m
 | []=>by unfold JS_;rw[k8_]
 |p::m=>by
  have ih:=acH_ k k' v z m
  unfold JS_
  split
  ·rename_i h
   have e:=eq_of_beq h
   rw[k8_,k8_,←e]
   split<;>rfl
  ·rename_i h
   rw[k8_,k8_,ih]
   by_cases h1: (k==p.1)=true
   ·rw[if_pos h1,if_pos h1,if_neg (fun h2=>h (by rw[←eq_of_beq h2];exact h1))]
   ·rw[if_neg h1,if_neg h1]
theorem acU_ (k k':α) (v:β): ∀ (m:List (α×β)),hasG k (JS_ k' v m)=(k==k'||hasG k m)
 | []=>rfl
 |p::m=>by
  have ih:=acU_ k k' v m
  unfold JS_
  split
  ·rename_i h
   have e:=eq_of_beq h
   rw[wC_,wC_,←e]
   cases k==k'<;>simp
  ·rw[wC_,wC_,ih]
   cases k==p.1<;>cases k==k'<;>simp
omit [LawfulBEq α] in
theorem ae6_ (k:α) (v:β): ∀ (m:List (α×β)),(JS_ k v m).length≤m.length+1
 | []=>Nat.le_refl _
 |p::m=>by
  have:=ae6_ k v m
  unfold JS_
  split
  ·simp
  ·simp only[List.length_cons];omega
end
def rdK (o:ObK):Bool:=xA_ o.k o.t
def idK (o:ObK):IdL:=idV o.k o.t
def addO (m:List (IdL×ObK)) (o:ObK):List (IdL×ObK):=if rdK o=true then JS_ (idK o) o m else m
def jm_ (l:List ObK):List (IdL×ObK):=l.foldl addO []
theorem Zg_ (l:List ObK) (o:ObK):jm_ (l++ [o])=addO (jm_ l) o:=by
 unfold jm_;rw[List.foldl_append];rfl
def srcD (l:List ObK):j7_:=fun i=>match(l.filter rdK).find? (fun o=>decide (idK o=i)) with|some o=>(o,true) |none=>(x7_,false)
def NoCl (l:List ObK):Prop:= ∀a,a∈l→ ∀b,b∈l→rdK a=true→rdK b=true→idK a=idK b→a=b
theorem NoCl.sub {l l':List ObK} (h:NoCl l) (hs: ∀a,a∈l'→a∈l):NoCl l':=fun a ha b hb=>h a (hs a ha) b (hs b hb)
theorem ajT_ (m:List (IdL×ObK)) (o:ObK): (addO m o).length≤m.length+1:=by
 unfold addO
 split
 ·exact ae6_ _ _ _
 ·omega
theorem xz_ (l:List ObK): (jm_ l).length≤l.length:=by
 have h: ∀ (l:List ObK) (m:List (IdL×ObK)),(l.foldl addO m).length≤m.length+l.length:=by
  intro l
  induction l with
  |nil=>intro m;exact Nat.le_refl _
  |cons o l ih=>
   intro m
   have h1:=ih (addO m o)
   have h2:=ajT_ m o
   rw[List.foldl_cons,List.length_cons];omega
 have:=h l []
 simpa [jm_] using this
theorem Jf_ {l:List ObK} {i:IdL} {o:ObK} (h: (l.filter rdK).find? (fun o=>decide (idK o=i))=some o):o∈l∧rdK o=true∧idK o=i:=by
 have h1:=List.find?_some h
 have h2:=List.mem_filter.1 (List.mem_of_find?_eq_some h)
 exact⟨h2.1,h2.2,by simpa using h1⟩
theorem ajN_ {l:List ObK} {i:IdL} (h: (srcD l i).2=true): ∃o,o∈l∧rdK o=true∧idK o=i∧(srcD l i).1=o:=by
 unfold srcD at h ⊢
 cases hf: (l.filter rdK).find? (fun o=>decide (idK o=i)) with
 |none=>rw[hf] at h;cases h
 |some o=>
  obtain⟨h1,h2,h3⟩:=Jf_ hf
  exact⟨o,h1,h2,h3,rfl⟩
theorem abX_ {l:List ObK} (hc:NoCl l) {o:ObK} (ho:o∈l) (hr:rdK o=true):srcD l (idK o)=(o,true):=by
 unfold srcD
 cases hf: (l.filter rdK).find? (fun p=>decide (idK p=idK o)) with
 |none=>
  have:=List.find?_eq_none.1 hf o (List.mem_filter.2 ⟨ho,hr⟩)
  simp at this
 |some p=>
  obtain⟨h1,h2,h3⟩:=Jf_ hf
  rw[hc p h1 o ho h2 hr h3]
theorem acA_ {l:List ObK} (hc:NoCl l): ∀n,n≤l.length→qe_ (jm_ (l.take n))=srcD (l.take n)
 |0,_=>rfl
 |n+1,hn=>by
  have ih:=acA_ hc n (by omega)
  have hs:=StP.take_snoc (z:=x7_) (show n<l.length by omega)
  have hol:l.getD n x7_∈l:=by
   rw[List.getD_eq_getElem?_getD,List.getElem?_eq_getElem (show n<l.length by omega)]
   exact List.getElem_mem _
  rw[hs]
  have hct:=hc.sub (l':=l.take n) fun a ha=>List.mem_of_mem_take ha
  generalize l.getD n x7_=o at*
  have htl: ∀a,a∈l.take n→a∈l:=fun a ha=>List.mem_of_mem_take ha
  generalize l.take n=t at*
  rw[Zg_]
  funext i
  have ihi:=congrFun ih i
  unfold addO srcD
  rw[List.filter_append,List.find?_append]
  by_cases hr:rdK o=true
  ·rw[if_pos hr,List.filter_cons,if_pos hr,List.filter_nil]
   have hl:qe_ (JS_ (idK o) o (jm_ t)) i=if i=idK o then(o,true) else qe_ (jm_ t) i:=by
    unfold qe_
    simp only[acH_,acU_]
    by_cases h:i=idK o
    ·rw[if_pos h];subst h;simp
    ·have: (i==idK o)=false:=by simpa using h
     rw[if_neg h,this];rfl
   rw[hl]
   by_cases h:i=idK o
   ·rw[if_pos h]
    cases hf: (t.filter rdK).find? (fun p=>decide (idK p=i)) with
    |none=>simp[h]
    |some p=>
     obtain⟨h1,h2,h3⟩:=Jf_ hf
     have:p=o:=hc p (htl p h1) o hol h2 hr (h3.trans h)
     simp[this]
   ·rw[if_neg h,ihi]
    have h': ¬idK o=i:=fun e=>h e.symm
    have: [o].find? (fun p=>decide (idK p=i))=none:=by simp[h']
    rw[this,Option.or_none]
    rfl
  ·rw[if_neg hr,List.filter_cons,if_neg hr,List.filter_nil,ihi,List.find?_nil,Option.or_none]
   rfl
theorem Jo_ {l:List ObK} (hc:NoCl l):qe_ (jm_ l)=srcD l:=by
 have:=acA_ hc l.length (Nat.le_refl _)
 rwa [List.take_length] at this
theorem ahR_ {m:List (IdL×ObK)} {i:IdL} (h: (qe_ m i).2=true):i∈m.map Prod.fst:=by
 unfold qe_ hasG at h
 simp only[List.any_eq_true,beq_iff_eq] at h
 obtain⟨p,hp,rfl⟩:=h
 exact List.mem_map_of_mem hp
theorem acO_ (s:j7_) (i:IdL): (jO_ s i).length≤40:=Zm_
theorem aeH_ (s:j7_) (ids r:List IdL): (acV_ s ids r).length≤r.length+40*ids.length:=by
 unfold acV_
 rw[List.length_append,List.length_map]
 have: (ids.map (jO_ s)).flatten.length≤40*ids.length:=by
  induction ids with
  |nil=>simp
  |cons x l ih=>
   have:=acO_ s x
   rw[List.map_cons,List.flatten_cons,List.length_append,List.length_cons];omega
 omega
structure WkB (n:Nat) (W:WkS):Prop where
 q:W.q.length≤n+40*W.ms.length
 lk:W.lk.length≤W.vis.length
theorem WkB.visit {n:Nat} {W:WkS} {s:j7_} {q:List ChildL} {c:ChildL} (h1:q.length≤n+40*W.ms.length) (h2:W.lk.length≤W.vis.length):WkB n (xw_ s {W with q:=q} c):=by
 have hk:=acO_ s c.id
 unfold xw_
 split
 ·split
  ·exact⟨h1,by simp only[List.length_append,List.length_singleton];omega⟩
  ·refine⟨?_,by simp only[List.length_append,List.length_singleton];omega⟩
   simp only[List.length_append,List.length_singleton];omega
 ·exact⟨h1,by simp only[List.length_append,List.length_singleton];omega⟩
theorem WkB.stepQ {n:Nat} {W:WkS} {s:j7_} (h2:W.lk.length≤W.vis.length): ∀ (q:List ChildL),q.length≤n+40*W.ms.length→WkB n (stepQ s W q).2
 | [],_=>⟨by show 0≤_;omega,h2⟩
 |c::q,h=>by
  rw[List.length_cons] at h
  unfold Go.Proofs.stepQ
  split
  ·exact WkB.stepQ h2 q (by omega)
  ·exact WkB.visit (by omega) h2
theorem WkB.step {n:Nat} {W:WkS} (s:j7_) (h:WkB n W):WkB n (kT_ s W).2:=WkB.stepQ h.lk W.q h.q
theorem WkB.run {n:Nat} (s:j7_): ∀ (k:Nat) {W:WkS},WkB n W→WkB n (runK s k W)
 |0,_,h=>h
 |k+1,W,h=>by
  unfold runK
  split
  ·exact h.step s
  ·exact WkB.run s k (h.step s)
theorem WkB.new (r:List IdL):WkB r.length (newK r):=⟨by simp[newK,J6_,XW_],Nat.le_refl _⟩
theorem WkB.add {n:Nat} {W:WkS} (h:WkB n W) (r:List IdL):WkB (n+r.length) (J6_ W r):=by
 have h1:=h.q
 refine⟨?_,h.lk⟩
 unfold J6_
 simp only[List.length_append,List.length_map];omega
theorem WkI.msLe {s:j7_} {ids r:List IdL} {W:WkS} (h:WkI s r W) (hi: ∀i,(s i).2=true→i∈ids):W.ms.length≤ids.length:=
 acg_ h.nm fun i hm=>by
  obtain⟨c,-,h2,rfl⟩:=h.ms i hm
  unfold jN_ at h2
  simp only[Bool.and_eq_true] at h2
  exact hi _ h2.1
def jo_ (a:List IdL) (c:ChildL):List IdL:=if c.id∈a then a else a++ [c.id]
def ZM_ (l:List ChildL):List IdL:=l.foldl jo_ []
def xK_ (l:List ChildL):List IdL:=xn_ (l.map ChildL.id)
theorem aek_ (l:List ChildL) (c:ChildL):ZM_ (l++ [c])=jo_ (ZM_ l) c:=by
 unfold ZM_;rw[List.foldl_append];rfl
theorem aiq_ (l:List IdL) (c:ChildL):JS_ c.id true (JF_ l)=JF_ (jo_ l c):=by
 unfold jo_
 split
 ·rename_i h;exact afO_ h
 ·rename_i h;exact ZW_ h
theorem agq_ (l:List ChildL) (i:IdL):i∈ZM_ l↔i∈l.map ChildL.id:=by
 have h: ∀ (l:List ChildL) (a:List IdL),i∈l.foldl jo_ a↔i∈a∨i∈l.map ChildL.id:=by
  intro l
  induction l with
  |nil=>intro a;simp
  |cons c l ih=>
   intro a
   rw[List.foldl_cons,ih,List.map_cons,List.mem_cons]
   unfold jo_
   split
   ·rename_i hc
    constructor
    ·rintro(h|h)
     ·exact .inl h
     ·exact .inr (.inr h)
    ·rintro(h|h|h)
     ·exact .inl h
     ·subst h;exact .inl hc
     ·exact .inr h
   ·rw[List.mem_append,List.mem_singleton]
    constructor
    ·rintro((h|h) |h)
     ·exact .inl h
     ·exact .inr (.inl h)
     ·exact .inr (.inr h)
    ·rintro(h|h|h)
     ·exact .inl (.inl h)
     ·exact .inl (.inr h)
     ·exact .inr h
 have:=h l []
 simpa [ZM_] using this
theorem aby_ (l:List ChildL): (ZM_ l).Nodup:=by
 have h: ∀ (l:List ChildL) (a:List IdL),a.Nodup→(l.foldl jo_ a).Nodup:=by
  intro l
  induction l with
  |nil=>intro a h;exact h
  |cons c l ih=>
   intro a h
   rw[List.foldl_cons]
   refine ih _ ?_
   unfold jo_
   split
   ·exact h
   ·rename_i hc
    rw[List.nodup_append]
    exact⟨h,by simp,fun x hx y hy=>by rw[List.mem_singleton] at hy;subst hy;intro e;subst e;exact hc hx⟩
 exact h l [] List.nodup_nil
theorem aex_ (l:List ChildL): (ZM_ l).length≤l.length:=by
 have h: ∀ (l:List ChildL) (a:List IdL),(l.foldl jo_ a).length≤a.length+l.length:=by
  intro l
  induction l with
  |nil=>intro a;exact Nat.le_refl _
  |cons c l ih=>
   intro a
   have h1:=ih (jo_ a c)
   have h2: (jo_ a c).length≤a.length+1:=by unfold jo_;split<;>simp
   rw[List.foldl_cons,List.length_cons];omega
 have:=h l []
 simpa [ZM_] using this
theorem af1_ (l:List ChildL):xn_ (ZM_ l)=xK_ l:=Qg_ (agq_ l)
theorem Qd_ {α:Type} (l:List α): (JF_ l).map Prod.fst=l:=by unfold JF_;rw[List.map_map];exact List.map_id _
theorem acY_ {α:Type} (l:List α): (JF_ l).length=l.length:=by unfold JF_;rw[List.length_map]
theorem Qe_ (l:List IdL): (xn_ l).length≤l.length:=by
 have h: ∀ (l a:List IdL),(l.foldl (fun a x=>putL x a) a).length≤a.length+l.length:=by
  intro l
  induction l with
  |nil=>intro a;exact Nat.le_refl _
  |cons x l ih=>
   intro a
   have h1:=ih (putL x a)
   have h2:=aci_ x a
   rw[List.foldl_cons,List.length_cons];omega
 have:=h l []
 simpa [xn_] using this
end Go.Proofs
end
namespace Go.Sx
open Go Go.Proofs Go.Shelf Go.Sort
section
variable {α:Type} [Inhabited α] {enc:α→List Value} {k:Nat}
theorem KQ_ (hk: ∀x,(enc x).length=k): ∀ (l:List α) (t:Nat),t<l.length*k→(l.map enc).flatten[t]? =some ((enc l[t / k]!)[t%k]!)
 | [],t,h=>by simp at h
 |x::r,t,h=>by
  have k0:0<k:=by
   rcases Nat.eq_zero_or_pos k with h0|h0
   ·subst h0;simp at h
   ·exact h0
  rw[List.map_cons,List.flatten_cons]
  by_cases ht:t<k
  ·rw[List.getElem?_append_left (by rw[hk];exact ht),Nat.div_eq_of_lt ht,Nat.mod_eq_of_lt ht]
   simp only[List.getElem!_cons_zero]
   rw[getElem!_pos (enc x) t (by rw[hk];exact ht),List.getElem?_eq_getElem]
  ·obtain⟨u,rfl⟩: ∃u,t=k+u:=⟨t - k,by omega⟩
   have hl: (x::r).length*k=r.length*k+k:=by rw[List.length_cons,Nat.add_mul,Nat.one_mul]
   rw[List.getElem?_append_right (by rw[hk];omega),hk,Nat.add_sub_cancel_left,KQ_ hk r u (by omega)]
   rw[Nat.add_div_left u k0,Nat.add_mod_left]
   simp
theorem acf_ (hk: ∀x,(enc x).length=k) (l:List α):flatK enc k l.toArray=(l.map enc).flatten.toArray:=by
 have hl: (l.map enc).flatten.length=l.length*k:=by
  induction l with
  |nil=>simp
  |cons x r ih=>rw[List.map_cons,List.flatten_cons,List.length_append,ih,hk,List.length_cons,Nat.add_mul,Nat.one_mul];omega
 apply Array.ext
 ·rw[size_flatK,List.size_toArray,List.size_toArray,hl]
 ·intro t h1 h2
  rw[size_flatK,List.size_toArray] at h1
  have h:=KQ_ hk l t h1
  have h3:=get_flatK enc k l.toArray t (by rw[List.size_toArray];exact h1)
  rw[getElem!_pos _ t (by rw[size_flatK,List.size_toArray];exact h1)] at h3
  rw[h3]
  have h4: (l.map enc).flatten.toArray[t]? =some ((enc l[t / k]!)[t%k]!):=by rw[List.getElem?_toArray];exact h
  rw[Array.getElem?_eq_getElem h2] at h4
  have:=Option.some.inj h4
  rw[this]
  simp
theorem WL_ {F F' rest:List Value} (h:F.length=F'.length):putCells id 0 F'.toArray (F++rest).toArray=(F'++rest).toArray:=by
 unfold putCells
 apply Array.ext
 ·simp[h]
 ·intro t h1 h2
  simp only[Array.getElem_mapIdx,List.getElem_toArray,List.size_toArray,Nat.zero_le,true_and,Nat.zero_add,Nat.sub_zero,id]
  split
  ·rename_i ht
   rw[getElem!_pos _ t (by simpa using ht),List.getElem_toArray,List.getElem_append_left ht]
  ·rename_i ht
   rw[List.getElem_append_right (by omega),List.getElem_append_right (by omega)]
   simp only[h]
theorem afy_ {P:Program} {ρ:Ren} (L:SlLaysF0.n6 P ρ) (aE: ∀w,(isAgg (ρ.t 24)).run P w= .ok true w) (zE: ∀w,(Go.sizeOf (ρ.t 24)).run P w= .ok k w) (hk: ∀x,(enc x).length=k) (h1: ∀x,∀v∈enc x,v.oneCell'=true) (cf:α→α→Int) (hO:SWO (ltOf cf)) (g:FuncId)
  (eg: ∀args w,(callFunc g args).run P w= .ok (.enter g args) w) (hcmp: ∀x y W,Calls P g #[.agg (enc x).toArray, .agg (enc y).toArray] W fun e w'=>e= .returned (.int .i64 (cf x y))∧ ∃q os',w'=grow (W.drewN q) os')
  {w:World} {b c:Nat} {E:TypeId} {l:List α} {rest:List Value} (hb:w.heap[b]? =some (.cells ((l.map enc).flatten++rest).toArray E (0,0))) (hsz:l.length<4611686018427387904):
  Rets P (ρ.f 6) #[vsl b 0 l.length c, .func (.func g) #[] #[]] w (fun v D=> ∃o,D= [(b,o)]∧v= .tuple #[]∧ ∃l':List α,l'.Perm l∧l'.Pairwise (fun x y=>ltOf cf y x=false)∧o= .cells ((l'.map enc).flatten++rest).toArray E (0,0)):=by
 have hbl:=(Array.getElem?_eq_some_iff.1 hb).1
 have hH:HoldsK enc k w b 0 l.toArray:=by
  unfold HoldsK Holds
  intro t ht
  rw[size_flatK,List.size_toArray] at ht
  rw[get_flatK _ _ _ _ (by rw[List.size_toArray];exact ht)]
  have h:=KQ_ hk l t ht
  have hlt:=(List.getElem?_eq_some_iff.1 h).1
  refine⟨?_, ?_⟩
  ·simp only[World.cell?,hb,Option.isSome_none,Bool.false_eq_true, ↓reduceIte,Nat.zero_add,List.getElem?_toArray,id]
   rw[List.getElem?_append_left hlt,h];simp
  ·simp only[World.frozen?,hb];simp
 have hcon:=AnyQ.slices_SortFunc L k aE zE enc hk h1 cf hO g #[] b 0 c l.toArray w eg (fun m os dk _ x y=>hcmp x y _) hH hbl (by rw[List.size_toArray];exact hsz)
 refine Calls.mono hcon ?_
 rintro e w' ⟨rfl,d',n,os,hp,hs,rfl⟩
 obtain⟨l',rfl⟩: ∃l':List α,d'=l'.toArray:=⟨d'.toList,by simp⟩
 obtain⟨hz,-,hp⟩:=hp
 rw[List.size_toArray,List.size_toArray] at hz
 have hfl: ∀m:List α,(m.map enc).flatten.length=m.length*k:=fun m=>by
  have:=congrArg Array.size (acf_ (enc:=enc) hk m)
  rw[size_flatK,List.size_toArray,List.size_toArray] at this
  exact this.symm
 have hob: (sortWorldK enc k w b 0 n l'.toArray os).heap[b]? =some (.cells ((l'.map enc).flatten++rest).toArray E (0,0)):=by
  show((w.heap.modify b (onCells (putCells id 0 (flatK enc k l'.toArray))))++os)[b]? =_
  rw[Array.getElem?_append_left (by rw[Array.size_modify];exact hbl),Array.getElem?_modify,if_pos rfl,hb,acf_ hk,Option.map_some]
  simp only[onCells]
  rw[WL_ (by rw[hfl,hfl,hz])]
 refine⟨.tuple #[],[(b,_)],rfl,⟨?_,by simp[keys], ?_, ?_,rfl,rfl,rfl⟩,_,rfl,rfl,l', ?_, ?_,rfl⟩
 ·intro b' o' hm
  simp only[List.mem_singleton,Prod.mk.injEq] at hm
  rw[hm.1,hm.2];exact hob
 ·intro b' hb' hn
  have hne:b≠b':=fun h=>hn (by simp[keys,h])
  show((w.heap.modify b (onCells (putCells id 0 (flatK enc k l'.toArray))))++os)[b']? =_
  rw[Array.getElem?_append_left (by rw[Array.size_modify];exact hb'),Array.getElem?_modify,if_neg hne]
 ·show w.heap.size≤ ((w.heap.modify b (onCells (putCells id 0 (flatK enc k l'.toArray))))++os).size
  rw[Array.size_append,Array.size_modify];omega
 ·have h2:List.take l.length l'=l':=List.take_of_length_le (by omega)
  rw[←h2]
  simpa using hp
 ·rw[List.pairwise_iff_getElem]
  intro i j hi hj hij
  have:=hs i j (Nat.zero_le _) hij (by rw[List.size_toArray];omega)
  simpa [hi,hj] using this
theorem agK_ {P:Program} {ρ:Ren} (L:SlLaysF0.n6 P ρ) (p:Option Addr) (c:Nat) (fv:Value) (w:World):Rets P (ρ.f 6) #[.slice p 0 c,fv] w (fun v D=>v= .tuple #[]∧D= []):=
 Calls.mono (AnyF.slices_SortFunc_none L p c fv w) fun _ _ ⟨he,hw⟩=>⟨_,[],he,by rw[hw];exact Hp.refl w,rfl,rfl⟩
end
end Go.Sx
section
namespace Go.Proofs
open Go Go.Shelf
set_option maxRecDepth 100000
def Tryz.sortId_ren:Go.Shelf.Ren:=⟨fun|6=>199|15=>212|14=>233|28=>249|29=>250|20=>263|21=>264|22=>265|23=>266|24=>267|25=>268|26=>269|27=>270|46=>302|47=>282|48=>283|49=>303|50=>304|57=>318|n=>n,fun|22=>30|24=>24|25=>260|3=>3|39=>253|0=>0|53=>250|55=>296|4=>4|46=>352|45=>351|50=>356|5=>5|9=>9|66=>382|70=>386|76=>403|77=>404|n=>n,fun|n=>n⟩
theorem Tryz.sortId:Go.Proofs.SlLaysF0.n6 Tryz.prog Tryz.sortId_ren:={
 mixed:=by kernel_rfl
 f6:=⟨Tryz.f199.name,by decide,Tryz.func199.trans (congrArg some (by kernel_rfl))⟩
 f14:=⟨Tryz.f233.name,by decide,Tryz.func233.trans (congrArg some (by kernel_rfl))⟩
 f15:=Tryz.func212.trans (congrArg some (by kernel_rfl))
 f20:=⟨Tryz.f263.name,by decide,Tryz.func263.trans (congrArg some (by kernel_rfl))⟩
 f21:=⟨Tryz.f264.name,by decide,Tryz.func264.trans (congrArg some (by kernel_rfl))⟩
 f22:=⟨Tryz.f265.name,by decide,Tryz.func265.trans (congrArg some (by kernel_rfl))⟩
 f23:=⟨Tryz.f266.name,by decide,Tryz.func266.trans (congrArg some (by kernel_rfl))⟩
 f24:=⟨Tryz.f267.name,by decide,Tryz.func267.trans (congrArg some (by kernel_rfl))⟩
 f25:=⟨Tryz.f268.name,by decide,Tryz.func268.trans (congrArg some (by kernel_rfl))⟩
 f26:=⟨Tryz.f269.name,by decide,Tryz.func269.trans (congrArg some (by kernel_rfl))⟩
 f27:=⟨Tryz.f270.name,by decide,Tryz.func270.trans (congrArg some (by kernel_rfl))⟩
 f28:=Tryz.func249.trans (congrArg some (by kernel_rfl))
 f29:=Tryz.func250.trans (congrArg some (by kernel_rfl))
 f46:=⟨Tryz.f302.name,by decide,Tryz.func302.trans (congrArg some (by kernel_rfl))⟩
 f47:=Tryz.func282.trans (congrArg some (by kernel_rfl))
 f48:=Tryz.func283.trans (congrArg some (by kernel_rfl))
 f49:=⟨Tryz.f303.name,by decide,Tryz.func303.trans (congrArg some (by kernel_rfl))⟩
 f50:=⟨Tryz.f304.name,by decide,Tryz.func304.trans (congrArg some (by kernel_rfl))⟩
 f57:=⟨Tryz.f318.name,by decide,Tryz.func318.trans (congrArg some (by kernel_rfl))⟩
 t0:=Tryz.underlying0
 a0:=Tryz.isAgg0
 z0:=Tryz.sizeOf0
 v0:=Tryz.zeroValue0
 t3:=Tryz.underlying3
 a3:=Tryz.isAgg3
 z3:=Tryz.sizeOf3
 v3:=Tryz.zeroValue3
 t4:=Tryz.underlying4
 a4:=Tryz.isAgg4
 z4:=Tryz.sizeOf4
 v4:=Tryz.zeroValue4
 t5:=Tryz.underlying5
 a5:=Tryz.isAgg5
 z5:=Tryz.sizeOf5
 v5:=Tryz.zeroValue5
 t9:=Tryz.underlying9
 a9:=Tryz.isAgg9
 z9:=Tryz.sizeOf9
 v9:=Tryz.zeroValue9
 t22:=Tryz.underlying30
 a22:=Tryz.isAgg30
 z22:=Tryz.sizeOf30
 v22:=Tryz.zeroValue30
 t25:=Tryz.underlying260
 a25:=Tryz.isAgg260
 z25:=Tryz.sizeOf260
 v25:=Tryz.zeroValue260
 t39:=Tryz.underlying253
 a39:=Tryz.isAgg253
 z39:=Tryz.sizeOf253
 v39:=Tryz.zeroValue253
 t45:=Tryz.underlying351
 a45:=Tryz.isAgg351
 z45:=Tryz.sizeOf351
 v45:=Tryz.zeroValue351
 t46:=Tryz.underlying352
 a46:=Tryz.isAgg352
 z46:=Tryz.sizeOf352
 v46:=Tryz.zeroValue352
 t50:=Tryz.underlying356
 a50:=Tryz.isAgg356
 z50:=Tryz.sizeOf356
 v50:=Tryz.zeroValue356
 t53:=Tryz.underlying250
 a53:=Tryz.isAgg250
 z53:=Tryz.sizeOf250
 v53:=Tryz.zeroValue250
 t55:=Tryz.underlying296
 a55:=Tryz.isAgg296
 z55:=Tryz.sizeOf296
 v55:=Tryz.zeroValue296
 t66:=Tryz.underlying382
 a66:=Tryz.isAgg382
 z66:=Tryz.sizeOf382
 v66:=Tryz.zeroValue382
 t70:=Tryz.underlying386
 a70:=Tryz.isAgg386
 z70:=Tryz.sizeOf386
 v70:=Tryz.zeroValue386
 t76:=Tryz.underlying403
 a76:=Tryz.isAgg403
 z76:=Tryz.sizeOf403
 v76:=Tryz.zeroValue403
 t77:=Tryz.underlying404
 a77:=Tryz.isAgg404
 z77:=Tryz.sizeOf404
 v77:=Tryz.zeroValue404}
end Go.Proofs
end
section
open Go Go.Proofs Go.Sx Go.StP Go.RefP Go.RooP Go.Shelf Go.Sort
namespace Go.Proofs
set_option maxRecDepth 100000
set_option maxHeartbeats 400000
set_option linter.unusedSimpArgs false
theorem adc_ (b:Nat) (w:World):
  Rets Tryz.prog 141 #[vm b] w (XS w [] (fun v' D=> ∃b1,v'= .func (.func 200) #[] #[vp b1 0]∧D= [(b1, .cells #[vm b] 131 (0,0))])):=by
 refine Rets.enter Tryz.func141 rfl (rs:= [.tmp 2]) Tryz.results141 Tryz.ntmps141 ?_
 refine kf ?_
 first|with_reducible refine ks [] @Nat.add_zero ?_|refine kp @Nat.add_zero ?_
 refine Ow.box rfl rfl fun b1 hb1 hw1=> ?_
 simp only[zV_,zT_,vm,List.nil_append]
 refine ko @Nat.add_zero ?_
 refine⟨_,(ke @Nat.add_zero), ?_⟩
 exact⟨⟨fun c hc=>(by simp only[keys,List.map_cons,List.map_nil,List.mem_singleton] at hc;exact .inr (hc▸hw1)),fun c hc=>(by cases hc)⟩,b1,by simp[xJ_,ev,kR_],rfl⟩
theorem acl_ {α β:Type} {encK:α→Value} {encV:β→Value} {o:Obj} {bm:Nat} {om:Obj} {m dn lf:List (α×β)} (h:ItG encK encV o bm om m dn lf): (dn++lf).Perm m:=by
 obtain⟨es,clock,ds,-,-,-,-,-,-,hp⟩:=h;exact hp
structure KeyG where
 dn:List (IdL×Bool)
 lf:List (IdL×Bool)
 it:Obj
 X:zd_
set_option linter.defProp false
def kU_:=And.intro (And.intro (And.intro (@jH_) (@afV_)) (And.intro (@Sx.tup2_0) (@Sx.tup2_1))) (And.intro (And.intro (@Sx.tup3_0) (@Sx.tup3_1)) (And.intro (@Sx.tup3_2) (@ajh_)))
theorem agC_ (b1 bm:Nat) (om:Obj) (m:List (IdL×Bool)) (w:World) (hb:w.heap[b1]? =some (.cells #[vm bm] 131 (0,0))) (hbm:w.heap[bm]? =some om) (hM:K7_ ZS_ blV om m):
  acS_ Tryz.prog 200 #[vp b1 0] ZS_ (m.map Prod.fst) w:=by
 intro l J w1 X hold hX hsz hp hJ0 hJm hY
 have hb1:=(Array.getElem?_eq_some_iff.1 hb).1
 have hbm1:=(Array.getElem?_eq_some_iff.1 hbm).1
 have rd: ∀X',Ext w1 X X'→ ∀c,c<w.heap.size→zr_ w1 X' c=w.heap[c]? :=fun X' hE c hc=>by
  rw[qX_ (hE.not (Nat.lt_of_lt_of_le hc hsz) (fun hm=>by have:=hX c hm;omega)),hold c hc]
 have r1:zr_ w1 X b1=some (.cells #[vm bm] 131 (0,0)):=by rw[rd X (Ext.refl _ _) b1 hb1,hb]
 have r2:zr_ w1 X bm=some om:=by rw[rd X (Ext.refl _ _) bm hbm1,hbm]
 show Rets Tryz.prog _ #[.func (.yield l) #[] #[],vp b1 0] w1 (XS w1 X (fun _ D=> ∃xs,xs.Perm (m.map Prod.fst)∧J xs D))
 refine Rets.enterX Tryz.func200 rfl (rs:= []) Tryz.results200 Tryz.ntmps200 (fun p hp'=>hp.has _ _ hp') hp.nodup ?_
 refine kf ?_
 first|with_reducible refine ks [] (And.intro @kU_ @r1) ?_|refine kp (And.intro @kU_ @r1) ?_
 refine Ow.rangeMapG (encK:=ZS_) (encV:=blV) rfl rfl Tryz.underlying131 rfl r2 hM fun bi oi hbi hwi hI=> ?_
 refine ko @kU_ ?_
 first|with_reducible refine ks [] @kU_ ?_|refine kp @kU_ ?_
 refine Cw.loopG (G:=KeyG) [6,7,8,9,3,10,11,12,13] (fun g=> []) (fun g=>g.X++ [(bi,g.it)]) (fun g=>J (g.dn.map Prod.fst) g.X∧Ext w1 X g.X∧bi∉keys g.X∧ItG ZS_ blV g.it bm om m g.dn g.lf) (fun g=>g.lf.length) ⟨[],m,oi,X⟩ rfl rfl ?_ ?_
 ·exact⟨hJ0,Ext.refl _ _,fun h=>Nat.lt_irrefl _ (zf_ hbi h),hI⟩
 intro g j hg
 refine kv ?_
 obtain⟨dn,lf,it,X'⟩:=g
 dsimp only at hg ⊢
 obtain⟨h2,h3,h4,hI⟩:=hg
 have rdm: ∀ (Y:zd_),(∀c,c∈keys Y→w.heap.size≤c)→zr_ w1 (X'++Y) bm=some om:=fun Y hY=>by
  rw[qX_ (fun hm=> ?_),hold bm hbm1,hbm]
  rw[zh_,List.mem_append] at hm
  rcases hm with hm|hm
  ·rcases h3.new _ hm with h|h
   ·have:=hX _ h;omega
   ·omega
  ·have:=hY _ hm;omega
 have rd1: ∀x,zr_ w1 (X'++ [(bi,x)]) bm=some om:=fun x=>rdm _ fun c hc=>by
  simp only[keys,List.map_cons,List.map_nil,List.mem_singleton] at hc
  omega
 first|with_reducible refine ks [3] @kU_ ?_|refine kp @kU_ ?_
 refine Ow.nextMapG rfl rfl rfl (by rw[zG_ h4];exact zy_ _ _ _) (rd1 it) hI (fun hlf=> ?_) (fun p it' lf' hl' hI'=> ?_)
 ·subst hlf
  have hp':=acl_ hI
  rw[List.append_nil] at hp'
  refine ko @kU_ ?_
  first|with_reducible refine ks [] @kU_ ?_|refine kp @kU_ ?_
  refine⟨_,(ke @kU_), ?_⟩
  exact⟨h3.app hwi,dn.map Prod.fst,hp'.map _,hJm _ _ _ h2⟩
 ·rw[jS_ h4]
  refine ko @kU_ ?_
  first|with_reducible refine ks [] @kU_ ?_|refine kp @kU_ ?_
  refine Ow.entryMapG (encK:=ZS_) (encV:=blV) rfl rfl rfl (zm_ (by rw[zG_ h4];exact zy_ _ _ _)) (rd1 it') hI' ?_
  obtain⟨x,bx⟩:=p
  have hx:=x.h
  unfold ZS_
  refine ko @kU_ ?_
  refine Ow.alloc rfl rfl adK_ fun b4 hb4 hw4=> ?_
  simp only[ze_,List.nil_append,List.cons_append]
  have k4:=fun o=>jV_ (o:=o) hb4
  have s4:=fun o x=>wB_ (o:=o) (x:=x) hb4
  have rd4:=fun o=>ws_ w1 (o:=o) hb4
  refine ko (And.intro @kU_ (And.intro @k4 (And.intro @s4 (@JB_)))) ?_
  refine Cw.regionI ?_
  show OwI _ _ _ _ ([_,_]++ [_,_]) _ _ _
  refine OwI.pre rfl ?_
  refine ko (And.intro @kU_ @rd4) ?_
  refine OwI.yieldX (S:=fun D=>J (dn.map Prod.fst++ [x]) D) (X:=X') (Y:= [(bi,it')]++ [(b4, .cells (a8 x.l) 24 (0,0))]) (List.append_assoc _ _ _) rfl rfl (fun w2 hw2=> ?_) (fun D hC hJ=> ?_)
  ·have hpm:=(acl_ hI').map Prod.fst
   refine hY (dn.map Prod.fst) x (lf'.map Prod.fst) X' w2 (by simpa using hpm) hw2 (fun c hc=>by
    rcases h3.new c hc with h|h
    ·exact hX c h
    ·omega) h2
  ·refine OwI.all rfl ?_
   refine Ow.permL (M:=(D++ [(b4, .cells (a8 x.l) 24 (0,0))])++ [(bi,it')]) (by classical exact List.perm_iff_count.2 fun a=>by simp only[List.count_append,List.count_cons,List.count_nil]<;>omega) ?_
   refine ko @kU_ ?_
   refine Again.mk ⟨dn++ [(x,bx)],lf',it',D++ [(b4, .cells (a8 x.l) 24 (0,0))]⟩ (by show lf'.length<lf.length;omega) ⟨?_, ?_, ?_,hI'⟩ rfl rfl
   ·show J ((dn++ [(x,bx)]).map Prod.fst) _
    rw[List.map_append]
    exact hJm _ _ _ hJ
   ·show Ext w1 X (D++_)
    exact(Ext.came0 h3 hC).app hw4
   ·show bi∉keys (D++_)
    intro hm
    rw[zh_,List.mem_append] at hm
    rcases hm with hm|hm
    ·rcases hC.new _ hm with h|h
     ·exact h4 h
     ·exact Nat.lt_irrefl _ (zf_ h.1 (by simp[keys]))
    ·simp only[keys,List.map_cons,List.map_nil,List.mem_singleton] at hm
     exact Nat.lt_irrefl _ (zf_ hb4 (by simp[keys,hm]))
end Go.Proofs
end
section
open Go Go.Proofs Go.Sx Go.StP Go.RefP Go.RooP Go.Shelf Go.Sort
namespace Go.Proofs
set_option maxRecDepth 100000
set_option maxHeartbeats 4000000
set_option linter.unusedSimpArgs false
set_option linter.defProp false
def qy_:= @vw_
theorem WQ_ (gf:Nat) (lb:Array Value) (xs:List IdL) (w:World) (eg: ∀args w,(callFunc gf args).run Tryz.prog w= .ok (.enter gf args) w) (hxs:xs.length<1000000)
  (hseq:acS_ Tryz.prog gf lb (ZS_) xs w):
  Rets Tryz.prog 232 #[.slice none 0 0, .func (.func gf) #[] lb] w (XS w [] (fun v D=> ∃xs2:List IdL,xs2.Perm xs∧Gr D 24 32 v xs2.length (xs2.map qd_).flatten)):=by
 refine Rets.enterR Tryz.func232 rfl (rs:= [.tmp 4]) Tryz.results232 Tryz.ntmps232 ?_
 simp only[List.size_toArray,List.length_cons,List.length_nil,Nat.reduceAdd,Nat.reduceSub,List.replicate_succ,List.replicate_zero,List.cons_append,List.nil_append]
 refine X6_ (Hp.refl w) ?_
 first|with_reducible refine ks [] @qy_ ?_|refine kp @qy_ ?_
 refine Ow.box rfl rfl fun bs hbs hws=> ?_
 simp only[zV_,zT_,List.nil_append]
 refine ko @qy_ ?_
 refine⟨rfl,fun w1 hp1=> ?_⟩
 refine wp_seq ?_
 refine X6_ hp1 ?_
 first|with_reducible refine ks [] @qy_ ?_|refine kp @qy_ ?_
 refine⟨rfl,fun w2 hp2=> ?_⟩
 refine wp_block ?_
 refine Wp_ (S:=fun dk D=>Sx.look D dk=some (.deferred (some []))∧ ∃v,Sx.look D bs=some (.cells #[v] 30 (0,0))∧ ∃xs2:List IdL,xs2.Perm xs∧Gr D 24 32 v xs2.length (xs2.map qd_).flatten) hp2 rfl eg (fun fn dk w3 rc hrc hab hdk hp3=> ?_) (fun dk fn D w3 rc hrc hab hdk hS hE hp3=> ?_)
 ·have hne:bs≠dk:=by
   have:=zf_ hab (show bs∈keys [(bs,_)] by simp[keys]);omega
  have hne1:bs≠dk+1:=by
   have:=zf_ hab (show bs∈keys [(bs,_)] by simp[keys]);omega
  refine Rets.mono (hseq (dk+1) (fun pre X=>Sx.look X (dk+1)=some (.loop rc)∧Sx.look X dk=some (.deferred (some []))∧ ∃v,Sx.look X bs=some (.cells #[v] 30 (0,0))∧Gr X 24 32 v pre.length (pre.map qd_).flatten) w3 _ (fun b hb=> ?_) (fun b hb=> ?_) ?_ (by have:=Hp.part (Y:= []) (by simpa using hp3);simpa using this) ?_ ?_ ?_) ?_
  ·refine hp3.old b hb (fun hm=> ?_)
   simp[keys] at hm;omega
  ·simp[keys] at hb;omega
  ·exact hp3.size
  ·refine⟨?_, ?_,_, ?_,Gr.nl⟩
   ·simp[Sx.look,hne1]
   ·simp[Sx.look,hne]
   ·simp[Sx.look];rfl
  ·rintro pre X Y ⟨q1,q2,v,q3,q4⟩
   exact⟨zq_ q1,zq_ q2,v,zq_ q3,q4.app⟩
  ·rintro pre x post X2 w4 hx hp4 hX2 ⟨q1,q2,v,q3,q4⟩
   refine YieldAt.of (S:=fun D=>Ext w4 X2 D∧_) hp4 q1 (by rw[hrc];rfl) (by rw[hrc];rfl) (by rw[hrc];rfl) ?_
   have hlen:=hx.length_eq
   rw[List.length_append,List.length_cons] at hlen
   have n1:slB v≠some bs:=q4.ne q3 (fun a e=>by cases e)
   have n2:slB v≠some dk:=q4.ne q2 (fun a e=>by cases e)
   have n3:slB v≠some (dk+1):=q4.ne q1 (fun a e=>by cases e)
   have hrc':=hrc
   unfold recR at hrc'
   rw[hrc'] at q1 ⊢
   dsimp only
   rw[alD_]
   show CwR _ _ _ (Code.region _ (List.toArray _) false) [.slice none 0 0, .func (.func gf) #[] lb,vp bs 0,undef, .slice none 0 0,undef, .func (.func gf) #[] lb, .agg (a8 x.l),undef,undef,undef,undef,undef] X2 _
   refine CwR.region rfl ?_
   refine Ow.alloc rfl rfl adK_ fun b5 hb5 hw5=> ?_
   simp only[ze_,List.nil_append,List.cons_append]
   have hxh:=x.h
   have k5:=fun o=>jV_ (o:=o) hb5
   have s5:=fun o x=>wB_ (o:=o) (x:=x) hb5
   refine ko (And.intro @qy_ (And.intro @k5 (@s5))) ?_
   refine⟨trivial,zq_ q1, ?_⟩
   refine CwR.block (CwR.region rfl ?_)
   generalize hBZ:Loop.mk .busy _ _ _ _ _ _ _=BZ
   have hk5:dk+1<b5:=zf_ hb5 (zj_ q1)
   have hk5':dk<b5:=zf_ hb5 (zj_ q2)
   have hs5:bs<b5:=zf_ hb5 (zj_ q3)
   have l1:Sx.look (setB (X2++ [(b5,Obj.cells (a8 x.l) 24 (0,0))]) (dk+1) (.loop BZ)) (dk+1)=some (.loop BZ):=qh_ (zq_ q1)
   have l2:Sx.look (setB (X2++ [(b5,Obj.cells (a8 x.l) 24 (0,0))]) (dk+1) (.loop BZ)) dk=some (.deferred (some [])):=by rw[zs_ (by omega)];exact zq_ q2
   have l3:Sx.look (setB (X2++ [(b5,Obj.cells (a8 x.l) 24 (0,0))]) (dk+1) (.loop BZ)) bs=some (.cells #[v] 30 (0,0)):=by rw[zs_ (by omega)];exact zq_ q3
   have l4:Sx.look (setB (X2++ [(b5,Obj.cells (a8 x.l) 24 (0,0))]) (dk+1) (.loop BZ)) b5=some (.cells (a8 x.l) 24 (0,0)):=by rw[zs_ (by omega)];exact jV_ hb5
   have lg:Gr (setB (X2++ [(b5,Obj.cells (a8 x.l) 24 (0,0))]) (dk+1) (.loop BZ)) 24 32 v pre.length (pre.map qd_).flatten:=(q4.app (M:= [(b5,Obj.cells (a8 x.l) 24 (0,0))])).setB n3 _
   have le:Ext w4 X2 (setB (X2++ [(b5,Obj.cells (a8 x.l) 24 (0,0))]) (dk+1) (.loop BZ)):=((Ext.refl w4 X2).app hw5).setB
   generalize setB (X2++ [(b5,Obj.cells (a8 x.l) 24 (0,0))]) (dk+1) (.loop BZ)=L1 at*
   have rbs:=zm_ (w0:=w4) l3
   have rb5:=zm_ (w0:=w4) l4
   have ld1:zv_ (some (false,1)) (some (.cells #[v] 30 (0,0))) 0=some v:=rfl
   refine ko (And.intro @qy_ (And.intro @rbs (And.intro @rb5 (@ld1)))) ?_
   refine Ow.buildSlice (e:=24) (qd_ x).toArray rfl rfl (kz_ x) fun b6 hb6 hw6=> ?_
   refine ko @qy_ ?_
   refine Ow.appendG (e:=24) (k:=1) (new:=qd_ x) v rfl rfl rfl Tryz.underlying30 Tryz.ag24 (by kernel_rfl) adK_ (by simp[ze_,a8]) Tryz.underlying30 (by intro k h;cases h) lg.app (fun w' hw'=>AppX.one1 (hw'.has _ _ (List.mem_append_right _ List.mem_cons_self)) (qB_ x) (Kq_ x)) (by show(qd_ x).length=1*32;rw[qB_]) (by omega) (fun v2 L2 hB hB2 hG hS=> ?_)
   have g1:=hG.look _ _ n3 (zq_ l1)
   have g2:=hG.look _ _ n2 (zq_ l2)
   have g3:=hG.look _ _ n1 (zq_ l3)
   have c2:=hB.cell
   have st:zt_ (some (false,1)) (some (.cells #[v] 30 (0,0))) 0 v2=some (.cells #[v2] 30 (0,0)):=by simp[zt_,c2,ky_]
   have m2:slB v2≠some bs:=hB.ne g3 (fun a e=>by cases e)
   refine ko (And.intro @qy_ (And.intro @g3 (And.intro @st (@JB_)))) ?_
   refine⟨rfl, ?_, ?_, ?_, ?_,v2, ?_, ?_⟩
   ·rw[zs_ (by omega)];exact g1
   ·exact((le.app (o:= .cells (a8 x.l) 24 (0,0)) hw6).grew hG).setB.setB
   ·exact qh_ (by rw[zs_ (by omega)];exact g1)
   ·rw[zs_ (by omega),zs_ (by omega)];exact g2
   ·rw[zs_ (by omega)];exact qh_ g3
   ·rw[List.length_append,List.map_append,List.flatten_append]
    have e1: ([x].map qd_).flatten=qd_ x:=by simp
    rw[e1]
    exact(hB.setB m2 _).setB (hB.ne g1 (fun a e=>by cases e)) _
  ·rintro v D ⟨hE,xs2,hp,q1,q2,v2,q3,q4⟩
   exact⟨hE,q1,q2,v2,q3,xs2,hp,q4⟩
 ·obtain⟨hS1,v,hS2,xs2,hpm,hS3⟩:=hS
  show Code.wp _ (Code.seq _ _) _ _ _
  have hne:dk+1≠bs:=by
   have:=zf_ hab (show bs∈keys [(bs,_)] by simp[keys]);omega
  have r1:=fun o=>(jZ_ (w0:=w) (L:=D) (x:=o) hne).trans (zm_ hS2)
  have ld1:zv_ (some (false,1)) (some (.cells #[v] 30 (0,0))) 0=some v:=rfl
  refine wp_mono (CwE.seq (ds:= [{target:= .collected dk,args:= #[]}]) (K:=fun e f' L'=>e= .ret∧L'=setB D (dk+1) _∧kR_ f' 4=v) (CwE.region (f':= [.slice none 0 0, .func (.func gf) #[] lb,vp bs 0,undef,v,undef, .func (.func gf) #[] lb,undef,undef,undef,undef,undef,v]) ?_ (CwE.ret ⟨rfl,rfl,rfl⟩)) w3 hp3) ?_
  ·simp(disch:=(first|assumption|omega| (simp only[je_,jc_,UInt64.reduceToNat];try omega))) only[↓Sx.S0,Sx.S1,Tryz.fx,qy_,Nat.reduceAdd,Nat.reducePow,Int.reducePow,Nat.reduceBEq, ↓reduceIte,UInt8.reduceToNat,UInt16.reduceToNat,UInt32.reduceToNat,UInt64.reduceToNat,Int.reduceToNat,evVs,xt_,r1,ld1]
  ·rintro e a w5 ⟨hd,L,hp5,rfl,rfl,hv⟩
   refine⟨.inr rfl,dk,hd,_,hp5, ?_,[v], ?_, ?_, ?_⟩
   ·rw[zs_ (by omega)];exact hS1
   ·rw[xk_,wl_,Z8_,hv];rfl
   ·refine⟨fun c hc=> ?_,fun c hc=>by cases hc⟩
    rw[qu_,qu_] at hc
    rcases hE.new c hc with h|h
    ·simp[keys] at h;exact .inr (by omega)
    ·exact .inr h
   ·exact⟨xs2,hpm,(hS3.setB (hS3.ne hrc (fun a e=>by cases e)) _).setB (hS3.ne hS1 (fun a e=>by cases e)) _⟩
theorem KN_ (gf:Nat) (lb:Array Value) (xs:List IdL) (w:World) (eg: ∀args w,(callFunc gf args).run Tryz.prog w= .ok (.enter gf args) w) (hxs:xs.length<1000000)
  (hseq: ∀w',Hp w [] w'→acS_ Tryz.prog gf lb ZS_ xs w'):
  Rets Tryz.prog 198 #[.func (.func gf) #[] lb] w (XS w [] (fun v D=> ∃xs2:List IdL,xs2.Perm xs∧Gr D 24 32 v xs2.length (xs2.map qd_).flatten)):=by
 refine Rets.enterX Tryz.func198 rfl (rs:= [.tmp 2]) Tryz.results198 Tryz.ntmps198 (fun p hp=>by cases hp) (by simp[keys]) ?_
 refine kf ?_
 first|with_reducible refine ks [] @qy_ ?_|refine kp @qy_ ?_
 refine Ow.callC rfl rfl Tryz.call232 (fun w' hw'=>WQ_ gf lb xs w' eg hxs (hseq w' hw')) (fun B v D hA hB hN hS=> ?_)
 refine ko @qy_ ?_
 refine⟨_,(ke @qy_), ?_⟩
 exact⟨Ext.of_new (New.mono hB hN),hS⟩
theorem ltId (x y:IdL):ltOf (fun x y:IdL=>Lib.compareBytes x.l y.l) x y=ltB x.l y.l:=by
 unfold ltOf
 simp only[ae2_]
 cases h:ltB x.l y.l
 ·cases h2:ltB y.l x.l<;>simp
 ·simp
theorem amJ_:SWO (ltOf fun x y:IdL=>Lib.compareBytes x.l y.l) where
 irrefl x:=by rw[ltId];exact xq_ x.l
 trans x y z h1 h2:=by rw[ltId] at*;exact x9_ h1 h2
 ntrans x y z h1 h2:=by
  rw[ltId] at*
  cases h:ltB x.l z.l
  ·rfl
  ·by_cases hxy:x.l=y.l
   ·rw[hxy,h2] at h;cases h
   ·rw[x9_ (xx_ h1 fun e=>hxy e) h] at h2
    cases h2
theorem aeb_ (x:IdL): ∀v∈qd_ x,v.oneCell'=true:=fun v hv=>List.all_eq_true.1 (Kq_ x) v hv
def alq_ (l Z:List IdL):Prop:=Z.Perm l∧Z.Pairwise (fun x y=>ltB y.l x.l=false)
theorem abq_ {b c:Nat} {l:List IdL} {rest:List Value} {E:TypeId} (w:World) (hb:w.heap[b]? =some (rowO qd_ E rest l)) (hsz:l.length<4611686018427387904):
  Rets Tryz.prog 199 #[vsl b 0 l.length c, .func (.func 142) #[] #[]] w
   (fun v D=> ∃o,D= [(b,o)]∧v= .tuple #[]∧ ∃Z:List IdL,alq_ l Z∧o=rowO qd_ E rest Z):=by
 have h:= @afy_ IdL ⟨Go.Proofs.id0⟩ qd_ 32 Tryz.prog Tryz.sortId_ren Tryz.sortId Tryz.isAgg24 Tryz.sizeOf24 qB_ aeb_ (fun x y=>Lib.compareBytes x.l y.l) amJ_ 142 Tryz.call142 (fun x y W=>by
  have:=adu_ x y W
  rw[←w1_,←w1_] at this
  exact this) w b c E l rest hb hsz
 refine Rets.mono h ?_
 rintro v D ⟨o,rfl,rfl,l',hp,hs,rfl⟩
 exact⟨_,rfl,rfl,l',⟨hp,hs.imp fun{x y} h=>(ltId y x).symm.trans h⟩,rfl⟩
theorem Q0_ (p:Option Addr) (c:Nat) (fv:Value) (w:World):Rets Tryz.prog 199 #[.slice p 0 c,fv] w (fun v D=>v= .tuple #[]∧D= []):=
 @agK_ Tryz.prog Tryz.sortId_ren Tryz.sortId p c fv w
theorem ajX_ (v:Value) (X:zd_) (l:List IdL) (w:World) (hG:Gr X 24 32 v l.length (l.map qd_).flatten) (hX: ∀p,p∈X→w.heap[p.1]? =some p.2) (hn: (keys X).Nodup) (hl:l.length<1000000):
  Rets Tryz.prog 199 #[v, .func (.func 142) #[] #[]] w (XS w X (fun v' D=>v'= .tuple #[]∧ ∃Z,alq_ l Z∧Gr D 24 32 v l.length (Z.map qd_).flatten)):=by
 rcases hG with hS| ⟨h0,h1,rb,rfl,hlk⟩
 ·rcases hS.inv with⟨rfl,h0,h1⟩ | ⟨rb,c,rest,rfl,hlk,-,hc,hc0,hr⟩
  ·obtain rfl:l= []:=List.eq_nil_of_length_eq_zero h0
   refine(Rets.chunkV hX hn (Q0_ none 0 _ w)).mono ?_
   rintro v' D ⟨hE,rfl,hv⟩
   exact⟨hE,hv,[],⟨List.Perm.nil,List.Pairwise.nil⟩,Gr.nl⟩
  ·refine(Rets.chunk hX hn (zj_ hlk) (abq_ (c:=c) w (hX _ (zA_ hlk)) (by omega))).mono ?_
   rintro v' D ⟨hE,o,rfl,hv,Z,hZ,rfl⟩
   refine⟨hE,hv,Z,hZ, .inl ?_⟩
   have z1:=hZ.1.length_eq
   rw[←z1]
   exact Buf.at_ (qh_ hlk) (by rw[Z3_ qB_]) (by rw[z1];exact hr) (by omega) hc0
 ·obtain rfl:l= []:=List.eq_nil_of_length_eq_zero h0
  refine(Rets.chunkV hX hn (Q0_ (some ⟨rb,0,none⟩) 0 _ w)).mono ?_
  rintro v' D ⟨hE,rfl,hv⟩
  exact⟨hE,hv,[],⟨List.Perm.nil,List.Pairwise.nil⟩, .inr ⟨rfl,rfl,rb,rfl,hlk⟩⟩
theorem WR_ (gf:Nat) (lb:Array Value) (xs:List IdL) (w:World) (eg: ∀args w,(callFunc gf args).run Tryz.prog w= .ok (.enter gf args) w) (hxs:xs.length<1000000) (hn:xs.Nodup)
  (hseq: ∀w',Hp w [] w'→acS_ Tryz.prog gf lb ZS_ xs w'):
  Rets Tryz.prog 140 #[.func (.func gf) #[] lb, .func (.func 142) #[] #[]] w (XS w [] (fun v D=>Gr D 24 32 v (xn_ xs).length ((xn_ xs).map qd_).flatten)):=by
 refine Rets.enterX Tryz.func140 rfl (rs:= [.tmp 4]) Tryz.results140 Tryz.ntmps140 (fun p hp=>by cases hp) (by simp[keys]) ?_
 refine kf ?_
 first|with_reducible refine ks [] @qy_ ?_|refine kp @qy_ ?_
 refine Ow.callC rfl rfl Tryz.call198 (fun w' hw'=>KN_ gf lb xs w' eg hxs (fun w2 h2=>hseq w2 (hw'.trans_nil h2))) (fun B v D hA hB hN hS=> ?_)
 obtain⟨l,hpl,hG⟩:=hS
 rw[List.nil_append]
 refine ko @qy_ ?_
 have hll:=hpl.length_eq
 refine Ow.callX (X:=D) (Y:= []) (List.append_nil _).symm rfl rfl Tryz.call199 (fun w' hw' hX' hn'=>ajX_ v D l w' hG hX' hn' (by omega)) (fun v1 D1 hC1 hS1=> ?_)
 obtain⟨rfl,Z,hZ,hG1⟩:=hS1
 rw[List.append_nil]
 have hE:Ext w [] D1:=(Ext.of_new (New.mono hB hN)).came0 hC1
 have hZe:Z=xn_ xs:=adJ_ (hZ.1.trans hpl) hn hZ.2
 have hZl:=hZ.1.length_eq
 subst hZe
 rw[←hZl] at hG1
 refine ko @qy_ ?_
 first|with_reducible refine ks [] @qy_ ?_|refine kp @qy_ ?_
 refine⟨_,(ke @qy_), ?_⟩
 exact⟨hE,hG1⟩
theorem JD_ (b:Nat) (o:Obj) (m:List (IdL×Bool)) (w:World) (hb:w.heap[b]? =some o) (hM:K7_ ZS_ blV o m) (hn: (m.map Prod.fst).Nodup) (hl:m.length<1000000):
  Rets Tryz.prog 75 #[vm b] w (XS w [] (fun v D=>GrI D 24 32 v (xn_ (m.map Prod.fst)).length ((xn_ (m.map Prod.fst)).map qd_).flatten)):=by
 have hbl:=(Array.getElem?_eq_some_iff.1 hb).1
 refine Rets.enterX Tryz.func75 rfl (rs:= [.tmp 2]) Tryz.results75 Tryz.ntmps75 (fun p hp=>by cases hp) (by simp[keys]) ?_
 refine kf ?_
 first|with_reducible refine ks [] @qy_ ?_|refine kp @qy_ ?_
 refine Ow.callC rfl rfl Tryz.call141 (fun w' hw'=>adc_ b w') (fun B2 v2 D2 hA2 hB2 hN2 hS2=> ?_)
 obtain⟨b1,rfl,rfl⟩:=hS2
 rw[List.nil_append]
 have hN2':=hN2.mono hB2
 refine ko @qy_ ?_
 refine Ow.callC rfl rfl Tryz.call140 (fun w' hw'=>WR_ 200 #[vp b1 0] (m.map Prod.fst) w' Tryz.call200 (by rw[List.length_map];exact hl) hn (fun w2 h2=>agC_ b1 b o m w2 ((h2.old _ (Array.getElem?_eq_some_iff.1 (hw'.has _ _ List.mem_cons_self)).1 (by simp[keys])).trans (hw'.has _ _ List.mem_cons_self)) ((h2.old _ (Nat.lt_of_lt_of_le hbl hw'.size) (by simp[keys])).trans ((hw'.old b hbl (hN2'.not hbl)).trans hb)) hM)) (fun B4 v4 D4 hA4 hB4 hN4 hS4=> ?_)
 refine ko @qy_ ?_
 refine⟨_,(ke @qy_), ?_⟩
 exact⟨Ext.of_new (hN2'.app (hN4.mono hB4)),hS4.i fun p hp=>List.mem_cons_of_mem _ hp⟩
end Go.Proofs
end
section
open Go Go.Proofs Go.Sx Go.StP Go.RooP
namespace Go.Proofs
set_option maxRecDepth 10000
set_option maxHeartbeats 400000
set_option linter.unusedSimpArgs false
def RowX {α:Type} (m:Nat) (enc:α→List Value) (z:α) (w:World) (v:Value) (l:List α) (X:zd_):Prop:= ∃b off arr E fz,RowS m enc z w v l b off arr E fz∧(0<l.length→b∉keys X)
theorem RowX.old {α:Type} {m:Nat} {enc:α→List Value} {z:α} {w w':World} {v:Value} {l:List α} {L X:zd_} (h:RowX m enc z w v l L) (hw:Hp w L w') (hX: ∀c,c∈keys X→c∈keys L):RowX m enc z w' v l X:=by
 obtain⟨b,off,arr,E,fz,hr,hb⟩:=h
 exact⟨b,off,arr,E,fz,hr.old hw hb,fun h0 hm=>hb h0 (hX _ hm)⟩
theorem RowX.ext {α:Type} {m:Nat} {enc:α→List Value} {z:α} {w:World} {v:Value} {l:List α} {L X:zd_} (h:RowX m enc z w v l X) (hL: ∀c,c∈keys L→c∈keys X∨w.heap.size≤c):RowX m enc z w v l L:=by
 obtain⟨b,off,arr,E,fz,hr,hb⟩:=h
 refine⟨b,off,arr,E,fz,hr,fun h0 hm=> ?_⟩
 rcases hL _ hm with h1|h1
 ·exact hb h0 h1
 ·have:=hr.lt h0;omega
theorem SlV.rowX {α:Type} {m:Nat} {enc:α→List Value} {z:α} {w:World} {v:Value} {l:List α} (h:SlV m enc z w v l):RowX m enc z w v l []:=by
 obtain⟨b,off,arr,E,fz,hr⟩:=h.row
 exact⟨b,off,arr,E,fz,hr,fun _ hm=>by cases hm⟩
theorem SrcW.mem {w:World} {L:zd_} {sv:Value} {m:List (IdL×ObK)} (h:SrcW w sv m []) {_bx:Nat} (_:True) (hL:New w.heap.size L):SrcW w sv m L:=h.ext fun c hc=> .inr (hL.le c hc)
theorem _root_.Go.Sx.Ext.trans2 {w:World} {X D E:zd_} (h:Ext w X D) (h2:Ext w D E):Ext w X E:=⟨fun c hc=>(h2.new c hc).elim (h.new c) .inr,fun c hc=>h2.all c (h.all c hc)⟩
theorem acw_ {w:World} {X D E:zd_} (h:Ext w X D) (hN:New w.heap.size E):Ext w X (D++E):=⟨fun c hc=>by
  rw[zh_] at hc
  exact(List.mem_append.1 hc).elim (h.new c) fun hc=> .inr (hN.le c hc),fun c hc=>by rw[zh_];exact List.mem_append_left _ (h.all c hc)⟩
theorem alm_ (b o:Nat):q6_ Tryz.prog .eql 41 (vp b o) (.pointer none)=some (.bool false):=by
 simp[q6_,eqX,q7_,jf_,Tryz.underlying41,vp]
theorem ajv_ (b o:Nat):q6_ Tryz.prog .neq 41 (vp b o) (.pointer none)=some (.bool true):=by
 simp[q6_,eqX,q7_,jf_,Tryz.underlying41,vp]
theorem WkA.more {bw:Nat} {sv:Value} {W:WkS} {vq:Value} {bv:Nat} {ov:Obj} {bm:Nat} {om:Obj} {vl:Value} {Q M X G D:zd_} (h:WkA bw sv W vq bv ov bm om vl Q M X) (hD:D.Perm (X++G)):WkA bw sv W vq bv ov bm om vl Q (M++G) D where
 perm:=hD.trans ((h.perm.append_right G).trans (by rw[List.cons_append,List.cons_append,List.cons_append,List.append_assoc]))
 q:=h.q
 l:=h.l.app
 v:=h.v
 m:=h.m
theorem WkP.more {bw:Nat} {sv:Value} {W:WkS} {X G D:zd_} (h:WkP bw sv W X) (hD:D.Perm (X++G)):WkP bw sv W D:=by
 obtain⟨vq,bv,ov,bm,om,vl,Q,M,h⟩:=h
 exact⟨vq,bv,ov,bm,om,vl,Q,M++G,h.more hD⟩
structure MkStG where
 q:List ChildL
 X:zd_
set_option linter.defProp false
def xV_:=And.intro (And.intro (And.intro (And.intro (@jt_) (@qH_)) (And.intro (@qC_) (And.intro (@qO_) (@Sx.tup2_0)))) (And.intro (And.intro (@Sx.tup2_1) (@zL_)) (And.intro (@zK_) (And.intro (@jH_) (@Z1_))))) (And.intro (And.intro (And.intro (@wF_) (@wm_)) (And.intro (@ji_) (And.intro (@vJ_) (@l5_0)))) (And.intro (And.intro (@l5_1) (And.intro (@l5_2) (@l5_3))) (And.intro (@l5_4) (And.intro (@alm_) (@ajv_)))))
theorem adb_ (bw:Nat) (sv:Value) (W:WkS) (m:List (IdL×ObK)) (X:zd_) (w:World) (hX: ∀p,p∈X→w.heap[p.1]? =some p.2) (hn: (keys X).Nodup) (hP:WkP bw sv W X) (hS:SrcW w sv m X)
  (hb1:W.q.length<10000000) (hb2:W.lk.length<10000000):
  Rets Tryz.prog 24 #[vp bw 0] w (XS w X (fun v D=>v= .bool (kT_ (qe_ m) W).1∧WkP bw sv (kT_ (qe_ m) W).2 D)):=by
 refine Rets.enterX Tryz.func24 rfl (rs:= [.tmp 2]) Tryz.results24 Tryz.ntmps24 hX hn ?_
 refine kf ?_
 first|with_reducible refine ks [] @xV_ ?_|refine kp @xV_ ?_
 refine Cw.loopG (G:=MkStG) [4,5,6,7,8,9,10,11,12,13,14,15,16,17,18,19,3,20,21,22,23,24,25,26,27,28,29,30,31,32,33,34,35,36,37,2] (fun g=> []) (fun g=>g.X) (fun g=>WkP bw sv {W with q:=g.q} g.X∧Ext w X g.X∧stepQ (qe_ m) W g.q=kT_ (qe_ m) W∧g.q.length≤W.q.length) (fun g=>g.q.length) ⟨W.q,X⟩ rfl rfl ?_ ?_
 ·exact⟨hP,Ext.refl _ _,rfl,Nat.le_refl _⟩
 intro g j hg
 refine kv ?_
 clear hP hX hn
 obtain⟨q,X'⟩:=g
 simp only at hg ⊢
 obtain⟨hP,hE,hst,hql⟩:=hg
 refine Cw.world fun wz hwz=> ?_
 have hnX:=hwz.nodup
 clear hwz wz
 obtain⟨vq,bv,ov,bm,om,vl,Q,M,hA⟩:=hP
 obtain⟨hn1,hn2,hn3,hn4⟩:=hA.ne hnX
 have hkX:=hA.keysX
 refine Cw.permL hA.perm.symm ?_
 have ln:=fun x=>hA.q.len x
 cases q with
 |nil=>
  have d0:decide ((0:Int)< (([]:List ChildL).length:Int))=false:=rfl
  simp only at ln
  first|with_reducible refine ks [] (And.intro @xV_ (And.intro @ln (@d0))) ?_|refine kp (And.intro @xV_ (And.intro @ln (@d0))) ?_
  refine⟨_,(ke @xV_), ?_⟩
  rw[←hst]
  exact⟨hE.perm hA.perm.symm,rfl,vq,bv,ov,bm,om,vl,Q,M,List.Perm.refl _,hA.q,hA.l,hA.v,hA.m⟩
 |cons c q=>
  have hq1:=hA.q
  simp only at ln hq1
  rw[List.length_cons] at hq1 ln hql
  obtain⟨bq,offq,arrq,hlq,hixq,hldq⟩:=Qu.head hq1 zM_
  obtain⟨vt,hvt,hq2⟩:=Qu.tail hq1 zM_
  have hbq:=hn4 bq (.inl (zj_ hlq))
  have rq:zr_ w ((bw, .cells #[sv,vq,vm bv,vm bm,vl] 133 (0,0)):: (bv,ov):: (bm,om):: (Q++M)) bq=some (.cells arrq 59 (0,0)):=by
   rw[zx_ _ _ _ _ _ (Ne.symm hbq.1),zx_ _ _ _ _ _ (Ne.symm hbq.2.1),zx_ _ _ _ _ _ (Ne.symm hbq.2.2)]
   exact zm_ (zq_ hlq)
  have d0:decide ((0:Int)< ((q.length+1:Nat):Int))=true:=decide_eq_true (by omega)
  first|with_reducible refine ks [] (And.intro @xV_ (And.intro @ln (And.intro @d0 (And.intro @hixq (And.intro @rq (@hldq)))))) ?_|refine kp (And.intro @xV_ (And.intro @ln (And.intro @d0 (And.intro @hixq (And.intro @rq (@hldq)))))) ?_
  refine Ow.alloc rfl rfl wY_ fun b3 hb3 hw3=> ?_
  simp only[ze_,List.nil_append,List.cons_append]
  refine Ow.permL (M:=(b3, .cells (zO_ chd0).toArray 59 (0,0)):: (bw, .cells #[sv,vq,vm bv,vm bm,vl] 133 (0,0)):: (bv,ov):: (bm,om):: (Q++M)) (by classical exact List.perm_iff_count.2 fun a=>by simp only[List.count_append,List.count_cons,List.count_nil]<;>omega) ?_
  have h3w:bw<b3:=zf_ hb3 (by simp[keys])
  have h3v:bv<b3:=zf_ hb3 (by simp[keys])
  have h3m:bm<b3:=zf_ hb3 (by simp[keys])
  have st1:=s5_1 sv vq (vm bv) (vm bm) vl vt 133 hq2.cell
  refine ko @xV_ ?_
  first|with_reducible refine ks [] (And.intro @xV_ (And.intro @hvt (@st1))) ?_|refine kp (And.intro @xV_ (And.intro @hvt (@st1))) ?_
  refine Cw.regionS [bw,b3] [0,1,2,3,4,5,6] [] (by kernel_rfl) (by kernel_rfl) (by kernel_rfl) ?_
  simp only[zg_, ↓zc_, ↓za_, ↓zl_, ↓zk_,zb_]
  refine kq @xV_ ?_
  refine Ow.soft rfl rfl rfl ?_
  refine Ow.mapGetG (encK:=chKV) (encV:=blV) (k:=c) (z:=false) rfl rfl Tryz.underlying130 ajn_ zrBl rfl rfl (by rw[zx_ _ _ _ _ _ (by omega),zx_ _ _ _ _ _ (by omega)];exact zR_ _ _ _ _) hA.v ?_
  with_reducible refine Ow.nil ?_
  refine⟨by intro b hb;simp only[List.mem_cons,List.not_mem_nil,or_false] at hb;(try subst hb);rfl, ?_⟩
  rw[getT]
  have hE3:Ext w X ((b3, .cells (zO_ c).toArray 59 (0,0)):: (bw, .cells #[sv,vt,vm bv,vm bm,vl] 133 (0,0)):: (bv,ov):: (bm,om):: (Q++M)):=by
   refine⟨fun x hx=> ?_,fun x hx=> ?_⟩
   ·simp only[keys,List.map_cons,List.mem_cons] at hx
    rcases hx with rfl|hx
    ·exact .inr hw3
    ·exact hE.new x ((hkX x).2 (by simpa [keys,List.mem_append] using hx))
   ·have:=(hkX x).1 (hE.all x hx)
    simp only[keys,List.map_cons,List.map_append,List.mem_cons,List.mem_append] at this ⊢
    exact .inr this
  have hA3:WkA bw sv {W with q:=q} vt bv ov bm om vl Q (M++ [(b3,Obj.cells (zO_ c).toArray 59 (0,0))]) ((b3, .cells (zO_ c).toArray 59 (0,0)):: (bw, .cells #[sv,vt,vm bv,vm bm,vl] 133 (0,0)):: (bv,ov):: (bm,om):: (Q++M)):=⟨(by classical exact List.perm_iff_count.2 fun a=>by simp only[List.count_append,List.count_cons,List.count_nil]<;>omega),hq2,hA.l.app,hA.v,hA.m⟩
  by_cases hc:c∈W.vis
  ·have ec:blV (decide (c∈W.vis))= .bool true:=by rw[decide_eq_true hc];rfl
   refine kq (And.intro @xV_ @ec) ?_
   try with_reducible refine Ow.nil ?_
   first|with_reducible refine ks [] @xV_ ?_|refine kp @xV_ ?_
   refine Again.mk ⟨q,_⟩ (by show q.length< (c::q).length;simp) ⟨⟨vt,bv,ov,bm,om,vl,Q,_,hA3⟩,hE3, ?_,by show q.length≤_;omega⟩ rfl rfl
   show stepQ (qe_ m) W q=_
   rw[←hst,stepQ,if_pos hc]
  ·have ec:blV (decide (c∈W.vis))= .bool false:=by rw[decide_eq_false hc];rfl
   refine kq (And.intro @xV_ @ec) ?_
   try with_reducible refine Ow.nil ?_
   first|with_reducible refine ks [] @xV_ ?_|refine kp @xV_ ?_
   rw[←hst]
   have hsr:stepQ (qe_ m) W (c::q)=(false,xw_ (qe_ m) {W with q:=q} c):=by rw[stepQ,if_neg hc]
   rw[hsr]
   generalize (b3,Obj.cells (zO_ c).toArray 59 (0,0)):: (bw, .cells #[sv,vt,vm bv,vm bm,vl] 133 (0,0)):: (bv,ov):: (bm,om):: (Q++M)=L3 at*
   refine Ow.callX (X:=L3) (Y:= []) (List.append_nil _).symm rfl rfl Tryz.call72 (fun w' hw' hX' hn'=>adx_ bw sv {W with q:=q} m c L3 w' hX' hn' ⟨vt,bv,ov,bm,om,vl,Q,_,hA3⟩ ((hS.ext hE3.new).old hw' fun _ h=>h) hc (by show q.length<_;omega) hb2) (fun v4 D4 hC4 hS4=> ?_)
   rw[List.append_nil]
   obtain⟨rfl,hP4⟩:=hS4
   refine ko @xV_ ?_
   first|with_reducible refine ks [] @xV_ ?_|refine kp @xV_ ?_
   refine⟨_,(ke @xV_), ?_⟩
   exact⟨hE3.came0 hC4,rfl,hP4⟩
theorem VV_ (r:ChildL):jl_ (wG_ Tryz.prog 59) (zZ_ Tryz.prog 59) [(0,Value.agg (a8 r.id.l))]=some (.agg (zO_ ⟨r.id,0⟩).toArray):=by
 have hp:wG_ Tryz.prog 59=some [(0,32),(32,1)]:=id (by kernel_rfl)
 rw[hp,wY_]
 have e0: (zO_ chd0).toArray=(([]:List Value)++ ((chd0.id.l.map v8)++ ([vi chd0.kind]))).toArray:=by congr 1<;>simp only[zO_,List.append_assoc,List.nil_append,List.append_nil]
 have q0:ky_ (([]:List Value)++ ((chd0.id.l.map v8)++ ([vi chd0.kind]))).toArray 0 (r.id.l.map v8)=(([]:List Value)++ ((r.id.l.map v8)++ ([vi chd0.kind]))).toArray:=Za_ _ _ _ _ (by simp) (by simp[chd0.id.h,r.id.h])
 have s0: (([]:List Value)++ ((chd0.id.l.map v8)++ ([vi chd0.kind]))).toArray.size=33:=by simp[r.id.h,chd0.id.h]
 have z0: (Value.cells (Value.agg (a8 r.id.l))).toList=r.id.l.map v8:=by rw[ze_];rfl
 have y0: (Value.cells (Value.agg (a8 r.id.l))).size=32:=by rw[←Array.length_toList,z0];simp[r.id.h]
 have eZ: (([]:List Value)++ ((r.id.l.map v8)++ ([vi chd0.kind]))).toArray=(zO_ ⟨r.id,0⟩).toArray:=by congr 1
 simp only[jl_]
 rw[e0]
 unfold Sx.fillV
 simp only[List.getElem?_cons_zero,List.getElem?_cons_succ,z0,y0]
 rw[if_pos ⟨trivial,by rw[s0];decide⟩,q0]
 rw[eZ];rfl
structure MkAdG where
 i:Nat
 X:zd_
set_option linter.defProp false
def qi_:=And.intro (And.intro (And.intro (And.intro (@jt_) (@qH_)) (And.intro (@qC_) (And.intro (@qO_) (@Sx.tup2_0)))) (And.intro (And.intro (@Sx.tup2_1) (@zL_)) (And.intro (@zK_) (And.intro (@vw_) (@Z1_))))) (And.intro (And.intro (And.intro (@wF_) (@wm_)) (And.intro (@ji_) (And.intro (@vJ_) (@l5_0)))) (And.intro (And.intro (@l5_1) (And.intro (@l5_2) (@l5_3))) (And.intro (@l5_4) (And.intro (@alm_) (@ajv_)))))
theorem ag0_ (bw:Nat) (sv:Value) (W:WkS) (v:Value) (l:List IdL) (X:zd_) (w:World) (hX: ∀p,p∈X→w.heap[p.1]? =some p.2) (hn: (keys X).Nodup) (hP:WkP bw sv W X) (hR:RowX 32 qd_ id0 w v l X)
  (hb1:W.q.length<10000000) (hl:l.length<1000000):
  Rets Tryz.prog 23 #[vp bw 0,v] w (XS w X (fun v D=>v= .tuple #[]∧WkP bw sv (J6_ W l) D)):=by
 obtain⟨rb,off,arr,E,fz,hr,hrb⟩:=hR
 have lnv:=fun x=>hr.len x
 refine Rets.enterX Tryz.func23 rfl (rs:= []) Tryz.results23 Tryz.ntmps23 hX hn ?_
 refine kf ?_
 first|with_reducible refine ks [] (And.intro @qi_ @lnv) ?_|refine kp (And.intro @qi_ @lnv) ?_
 refine Cw.loopG (G:=MkAdG) [11,12,13,5,14,15,16,17,18,19,20,21,22,23,24,25,10] (fun g=> [(10,vi g.i)]) (fun g=>g.X) (fun g=>g.i≤l.length∧WkP bw sv (J6_ W (l.take g.i)) g.X∧Ext w X g.X) (fun g=>l.length - g.i) ⟨0,X⟩ rfl rfl ?_ ?_
 ·refine⟨Nat.zero_le _, ?_,Ext.refl _ _⟩
  have:J6_ W (l.take 0)=W:=by unfold J6_;simp
  rw[this];exact hP
 intro g j hg
 refine kv ?_
 clear hP hX hn
 obtain⟨i,X'⟩:=g
 simp only at hg ⊢
 obtain⟨hi,hP,hE⟩:=hg
 by_cases hlt:i<l.length
 ·refine Cw.world fun wz hwz=> ?_
  have hnX:=hwz.nodup
  clear hwz wz
  obtain⟨vq,bv,ov,bm,om,vl,Q,M,hA⟩:=hP
  obtain⟨hn1,hn2,hn3,hn4⟩:=hA.ne hnX
  have hkX:=hA.keysX
  have hrl:=hr.lt (by omega)
  have hrn:rb∉keys X':=hE.not hrl (hrb (by omega))
  have rd: ∀L:zd_,(∀c,c∈keys L→c∈keys X'∨w.heap.size≤c)→zr_ w L rb=some (.cells arr E fz):=fun L hL=>by
   rw[qX_ (fun hm=>by rcases hL _ hm with h|h;exact hrn h;omega)];exact hr.has (by omega)
  have ix:=hr.idx true i hlt
  have ld:=Jb_ hr hlt
  have hts:J6_ W (l.take (i+1))={J6_ W (l.take i) with q:=(J6_ W (l.take i)).q++ [⟨l.getD i id0,0⟩]}:=by
   rw[StP.take_snoc (z:=id0) hlt]
   unfold J6_
   simp
  have hql: (J6_ W (l.take i)).q.length<20000000:=by
   unfold J6_
   simp only[List.length_append,List.length_map,List.length_take]
   omega
  have hd0:decide ((i:Int)< (l.length:Int))=true:=decide_eq_true (by omega)
  generalize hx:l.getD i id0=x at*
  have hxh:=x.h
  have rd0:=rd X' fun c hc=> .inl hc
  first|with_reducible refine ks [] (And.intro @qi_ (And.intro @hd0 (And.intro @ix (And.intro @rd0 (@ld))))) ?_|refine kp (And.intro @qi_ (And.intro @hd0 (And.intro @ix (And.intro @rd0 (@ld))))) ?_
  refine Ow.alloc rfl rfl ZL_ fun b5 hb5 hw5=> ?_
  simp only[ze_,List.nil_append,List.cons_append]
  have hi0:=id0.h
  have hwb5:bw<b5:=zf_ hb5 ((hkX bw).2 (.inl rfl))
  have hQ5: ∀c,c∈keys Q→c<b5:=fun c hc=>zf_ hb5 ((hkX c).2 (.inr (.inr (.inr (.inl hc)))))
  have h5Q:b5∉keys Q:=fun h=>Nat.lt_irrefl _ (hQ5 _ h)
  have hbQ:bw∉keys Q:=fun h=>(hn4 _ (.inl h)).1 rfl
  have h5X: ∀Y,X'.Perm Y→(X'++ [(b5,Obj.cells (a8 id0.l) 24 (0,0))]).Perm ((b5,Obj.cells (a8 id0.l) 24 (0,0))::Y):=fun Y h=>(h.append_right _).trans (by classical exact List.perm_iff_count.2 fun a=>by simp only[List.count_append,List.count_cons,List.count_nil]<;>omega)
  refine Ow.permL (h5X _ hA.perm).symm ?_
  refine ko @qi_ ?_
  refine Cw.permL (M:=Q++ ((bw, .cells #[sv,vq,vm bv,vm bm,vl] 133 (0,0)):: (b5, .cells (a8 x.l) 24 (0,0)):: (bv,ov):: (bm,om)::M)) (by classical exact List.perm_iff_count.2 fun a=>by simp only[List.count_append,List.count_cons,List.count_nil]<;>omega) ?_
  have rbw:=fun Y=>zm_ (w0:=w) (jp_ (D:=Q) (Y:=Y) (o:= .cells #[sv,vq,vm bv,vm bm,vl] 133 (0,0)) hbQ)
  have rb5:=fun Y=>zm_ (w0:=w) (jA_ (D:=Q) (Y:=Y) (o:= .cells #[sv,vq,vm bv,vm bm,vl] 133 (0,0)) (x:= .cells (a8 x.l) 24 (0,0)) h5Q (show bw≠b5 by omega))
  have bd:=VV_ ⟨x,0⟩
  refine Cw.regionG [bw,b5] [11] 12 (by kernel_rfl) rfl ?_
  simp only[List.replicate_succ,List.replicate_zero]
  refine OwG.run [0,1,2,3,4,5] [true,true,true,true,true,true,false,false,false,false,false,false] 6 rfl (by kernel_rfl) (by kernel_rfl) fun k hk=> ?_
  simp only[zg_, ↓zc_, ↓za_, ↓zl_, ↓zk_,zb_]
  simp(disch:=(first|assumption|omega| (simp only[je_,jc_,UInt64.reduceToNat];try omega))) only[↓Sx.S0,Sx.S1,Tryz.fx,qi_,Nat.reduceAdd,Nat.reducePow,Int.reducePow,Nat.reduceBEq, ↓reduceIte,UInt8.reduceToNat,UInt16.reduceToNat,UInt32.reduceToNat,UInt64.reduceToNat,Int.reduceToNat,Md.next_sofnil,rbw,rb5]
  (with_reducible refine hk _ _ _ ?_);clear hk k
  refine OwG.one 6 _ (by kernel_rfl) rfl ?_
  refine Ow.build (.agg (zO_ ⟨x,0⟩).toArray) rfl bd ?_
  with_reducible refine Ow.nil ?_
  refine⟨(fun r hr=>rfl), ?_⟩
  simp only[List.set_cons_zero,List.set_cons_succ,zo_,zE_,zF_]
  refine OwG.one 7 _ (by kernel_rfl) rfl ?_
  refine Ow.buildSlice (e:=59) (zO_ ⟨x,0⟩).toArray rfl rfl (Wh_ ⟨x,0⟩) fun ba hba hwa=> ?_
  with_reducible refine Ow.nil ?_
  refine⟨(zu_ (fun r hr=>by simp only[List.mem_cons,List.not_mem_nil,or_false] at hr;rcases hr with rfl|rfl<;>simp[keys])), ?_⟩
  simp only[List.set_cons_zero,List.set_cons_succ,zo_,zE_,zF_]
  refine OwG.one 8 _ (by kernel_rfl) rfl ?_
  refine Ow.appendQ (e:=59) (k:=1) (new:=zO_ ⟨x,0⟩) (X:=Q) vq (List.append_assoc _ _ _) rfl rfl rfl Tryz.underlying44 vU_ (by kernel_rfl) wY_ (by rw[ji_,List.size_toArray,zM_]) Tryz.underlying44 (by intro k h;cases h) hA.q (fun w' hw'=>AppX.one1 (hw'.has ba (.cells (zO_ ⟨x,0⟩).toArray 59 (0,0)) (by simp)) (zM_ _) (kp_ _)) (by omega) (fun B7 v7 D7 hA7 hB7 hG7 hk17 hk27 hlk7=> ?_)
  have hbD:bw∉keys D7:=Ze_ hA7 (by simp[keys]) hbQ hk27
  have h5D:b5∉keys D7:=Ze_ hA7 (by simp[keys]) h5Q hk27
  have c7:=hG7.cell
  have lD7:=fun Y=>jp_ (D:=D7) (Y:=Y) (o:= .cells #[sv,vq,vm bv,vm bm,vl] 133 (0,0)) hbD
  have st7:=s5_1 sv vq (vm bv) (vm bm) vl v7 133 c7
  with_reducible refine Ow.nil ?_
  refine⟨(fun r hr=>by simp only[List.mem_cons,List.not_mem_nil,or_false] at hr;rcases hr with rfl|rfl;exact(zm_ (jp_ hbD)).trans (zm_ (zq_ (jp_ hbQ))).symm;exact(zm_ (jA_ h5D (by omega))).trans (zm_ (zq_ (jA_ h5Q (by omega)))).symm), ?_⟩
  simp only[List.set_cons_zero,List.set_cons_succ,zo_,zE_,zF_]
  refine OwG.rest [9,10,11] rfl (by kernel_rfl) (by kernel_rfl) ?_
  simp only[zg_, ↓zc_, ↓za_, ↓zl_, ↓zk_,zb_]
  refine kq @qi_ ?_
  refine Ow.store rfl rfl rfl (ke (And.intro @qi_ (And.intro @lD7 (@st7)))) ?_
  have es:=fun Y x=>KF_ (D:=D7) (Y:=Y) (o:= .cells #[sv,vq,vm bv,vm bm,vl] 133 (0,0)) (x:=x) hbD
  simp only[List.cons_append] at*
  rw[es]
  refine ko @qi_ ?_
  first|with_reducible refine ks [] @qi_ ?_|refine kp @qi_ ?_
  refine Again.mk ⟨i+1,_⟩ (by show l.length - (i+1)<l.length - i;omega) ⟨hlt, ?_, ?_⟩ rfl rfl
  ·show WkP bw sv (J6_ W (l.take (i+1))) _
   rw[hts]
   refine⟨v7,bv,ov,bm,om,vl,D7,M++ [(b5, .cells (a8 x.l) 24 (0,0)),(ba, .cells (zO_ ⟨x,0⟩).toArray 59 (0,0))],⟨(by classical exact List.perm_iff_count.2 fun a=>by simp only[List.count_append,List.count_cons,List.count_nil]<;>omega), ?_,hA.l.app,hA.v,hA.m⟩⟩
   simpa [List.map_append] using hG7
  ·have hNM: ∀y,y∈keys (M++ [(b5, .cells (a8 x.l) 24 (0,0)),(ba,Obj.cells (zO_ ⟨x,0⟩).toArray 59 (0,0))])→y∈keys M∨w.heap.size≤y:=fun y hy=>by
    rw[zh_,List.mem_append] at hy
    refine hy.imp id fun h=> ?_
    simp only[keys,List.map_cons,List.map_nil,List.mem_cons,List.not_mem_nil,or_false] at h
    omega
   have h1:=(hA.ext2 (w:=w) (a:= .cells #[sv,v7,vm bv,vm bm,vl] 133 (0,0)) (b:=ov) (c:=om) (fun x h=>hk17 x h) (fun x h=>(hk27 x h).imp id fun h=>by omega) (fun x h=>by rw[zh_];exact List.mem_append_left _ h) hNM).perm (D':=D7++ ((bw, .cells #[sv,v7,vm bv,vm bm,vl] 133 (0,0)):: (b5, .cells (a8 x.l) 24 (0,0)):: (bv,ov):: (bm,om):: (M++ [(ba, .cells (zO_ ⟨x,0⟩).toArray 59 (0,0))]))) (by classical exact List.perm_iff_count.2 fun a=>by simp only[List.count_append,List.count_cons,List.count_nil]<;>omega)
   exact hE.trans2 h1
 ·obtain rfl:i=l.length:=by omega
  rw[List.take_length] at hP
  have hd0:decide ((l.length:Int)< (l.length:Int))=false:=by simp
  first|with_reducible refine ks [] (And.intro @qi_ @hd0) ?_|refine kp (And.intro @qi_ @hd0) ?_
  refine⟨_,(ke @qi_), ?_⟩
  exact⟨hE,rfl,hP⟩
theorem aim_ (sv:Value) (b c:Nat) (t:TypeId) (u:Value) (h:sv= .iface t u):jl_ (wG_ Tryz.prog 133) (zZ_ Tryz.prog 133) [(0,sv),(2,vm b),(3,vm c)]=some (.agg #[sv, .slice none 0 0,vm b,vm c, .slice none 0 0]):=by
 subst h
 rw[show wG_ Tryz.prog 133=some [(0,1),(1,1),(2,1),(3,1),(4,1)] from id (by kernel_rfl),show zZ_ Tryz.prog 133=some (.agg #[.nilIface, .slice none 0 0, .map none, .map none, .slice none 0 0]) from id (by kernel_rfl)];rfl
theorem aew_ (sv:Value) (m:List (IdL×ObK)) (v:Value) (l:List IdL) (w:World) (hS:SrcW w sv m []) (hR:RowX 32 qd_ id0 w v l []) (hl:l.length<1000000):
  Rets Tryz.prog 21 #[sv,v] w (XS w [] (fun v' D=> ∃bw,v'=vp bw 0∧WkP bw sv (newK l) D)):=by
 obtain⟨bx,bm',om',hSA,-,-⟩:=hS
 refine Rets.enterX Tryz.func21 rfl (rs:= [.tmp 4]) Tryz.results21 Tryz.ntmps21 (fun p hp=>by cases hp) (by simp[keys]) ?_
 refine kf ?_
 first|with_reducible refine ks [] @qi_ ?_|refine kp @qi_ ?_
 refine Ow.makeMapG (encK:=chKV) (encV:=blV) rfl rfl fun b1 o1 hb1 hw1 hM1=> ?_
 rw[List.nil_append]
 refine ko @qi_ ?_
 refine Ow.makeMapG (encK:=ZS_) (encV:=blV) rfl rfl fun b2 o2 hb2 hw2 hM2=> ?_
 refine ko @qi_ ?_
 refine Ow.build (.agg #[sv, .slice none 0 0,vm b1,vm b2, .slice none 0 0]) rfl (aim_ sv b1 b2 _ _ hSA.sv) ?_
 refine ko @qi_ ?_
 refine Ow.box rfl rfl fun b3 hb3 hw3=> ?_
 simp only[zV_,zT_,z6_,ze_,List.cons_append,List.nil_append]
 refine ko @qi_ ?_
 first|with_reducible refine ks [] @qi_ ?_|refine kp @qi_ ?_
 have h12:b1<b2:=zf_ hb2 (by simp[keys])
 have h13:b1<b3:=zf_ hb3 (by simp[keys])
 have h23:b2<b3:=zf_ hb3 (by simp[keys])
 have hNL:New w.heap.size [(b1,o1),(b2,o2),(b3,Obj.cells #[sv, .slice none 0 0,vm b1,vm b2, .slice none 0 0] 133 (0,0))]:=⟨hw1,hw2,hw3,trivial⟩
 have hP0:WkP b3 sv XW_ [(b1,o1),(b2,o2),(b3,Obj.cells #[sv, .slice none 0 0,vm b1,vm b2, .slice none 0 0] 133 (0,0))]:=⟨.slice none 0 0,b1,o1,b2,o2, .slice none 0 0,[],[],⟨(by classical exact List.perm_iff_count.2 fun a=>by simp only[List.count_append,List.count_cons,List.count_nil]<;>omega), .nl,Gr.nl,hM1,hM2⟩⟩
 refine Ow.callX (X:= [(b1,o1),(b2,o2),(b3,Obj.cells #[sv, .slice none 0 0,vm b1,vm b2, .slice none 0 0] 133 (0,0))]) (Y:= []) (List.append_nil _).symm rfl rfl Tryz.call23 (fun w' hw' hX' hn'=>ag0_ b3 sv XW_ v l _ w' hX' hn' hP0 ((hR.ext (L:= [(b1,o1),(b2,o2),(b3,Obj.cells #[sv, .slice none 0 0,vm b1,vm b2, .slice none 0 0] 133 (0,0))]) (fun c hc=> .inr (hNL.le c hc))).old hw' fun _ h=>h) (by decide) hl) (fun v4 D4 hC4 hS4=> ?_)
 obtain⟨rfl,hP4⟩:=hS4
 rw[List.append_nil]
 refine ko @qi_ ?_
 first|with_reducible refine ks [] @qi_ ?_|refine kp @qi_ ?_
 refine⟨_,(ke @qi_), ?_⟩
 exact⟨(Ext.of_new hNL).came0 hC4,b3,rfl,hP4⟩
def WkW (w:World) (bw:Nat) (sv:Value) (W:WkS):Prop:= ∃X,(∀p,p∈X→w.heap[p.1]? =some p.2)∧WkP bw sv W X
theorem WkA.has {w:World} {bw:Nat} {sv:Value} {W:WkS} {vq:Value} {bv:Nat} {ov:Obj} {bm:Nat} {om:Obj} {vl:Value} {Q M X:zd_} (h:WkA bw sv W vq bv ov bm om vl Q M X) (hX: ∀p,p∈X→w.heap[p.1]? =some p.2):
  w.heap[bw]? =some (.cells #[sv,vq,vm bv,vm bm,vl] 133 (0,0))∧w.heap[bm]? =some om∧(∀b o,(b,o)∈M→w.heap[b]? =some o):=by
 have hp: ∀p,p∈ ((bw,Obj.cells #[sv,vq,vm bv,vm bm,vl] 133 (0,0)):: (bv,ov):: (bm,om):: (Q++M))→w.heap[p.1]? =some p.2:=fun p hp=>hX p (h.perm.mem_iff.2 hp)
 exact⟨hp (bw,_) (List.mem_cons_self),hp (bm,om) (by simp),fun b o hm=>hp (b,o) (by simp[hm])⟩
theorem VP_ (bw:Nat) (sv:Value) (W:WkS) (w:World) (hW:WkW w bw sv W) (hn:W.ms.Nodup) (hl:W.ms.length<1000000):
  Rets Tryz.prog 27 #[vp bw 0] w (XS w [] (fun v D=>GrI D 24 32 v (xn_ W.ms).length ((xn_ W.ms).map qd_).flatten)):=by
 obtain⟨X,hX,vq,bv,ov,bm,om,vl,Q,M,hA⟩:=hW
 obtain⟨h1,h2,-⟩:=hA.has hX
 refine Rets.enterX Tryz.func27 rfl (rs:= [.tmp 2]) Tryz.results27 Tryz.ntmps27 (fun p hp=>by cases hp) (by simp[keys]) ?_
 refine kf ?_
 first|with_reducible refine ks [] (And.intro @qi_ @h1) ?_|refine kp (And.intro @qi_ @h1) ?_
 refine Ow.callC rfl rfl Tryz.call75 (fun w' hw'=>JD_ bm om (JF_ W.ms) w' ((hw'.old bm (Array.getElem?_eq_some_iff.1 h2).1 (by simp[keys])).trans h2) hA.m (by rw[Qd_];exact hn) (by rw[acY_];exact hl)) (fun B v2 D2 hA2 hB2 hN2 hS2=> ?_)
 rw[Qd_] at hS2
 rw[List.nil_append]
 refine ko @qi_ ?_
 refine⟨_,(ke @qi_), ?_⟩
 exact⟨Ext.of_new (hN2.mono hB2),hS2⟩
structure MkMiG where
 k:Nat
 o:Obj
 DG:zd_
theorem Ka_ (bw:Nat) (sv:Value) (W:WkS) (w:World) (hW:WkW w bw sv W) (hl:W.lk.length<1000000):
  Rets Tryz.prog 28 #[vp bw 0] w (XS w [] (fun v D=>GrI D 24 32 v (xK_ W.lk).length ((xK_ W.lk).map qd_).flatten)):=by
 obtain⟨X,hX,vq,bv,ov,bm,om,vl,Q,M,hA⟩:=hW
 obtain⟨h1,-,h3⟩:=hA.has hX
 have hsl:SlV 33 zO_ chd0 w vl W.lk:=hA.l.slM h3 rfl rfl zM_
 obtain⟨rb,off,arr,E,fz,hr⟩:=hsl.row
 have ln:=fun x=>hr.len x
 have hlw:=(Array.getElem?_eq_some_iff.1 h1).1
 refine Rets.enterX Tryz.func28 rfl (rs:= [.tmp 2]) Tryz.results28 Tryz.ntmps28 (fun p hp=>by cases hp) (by simp[keys]) ?_
 refine kf ?_
 first|with_reducible refine ks [] @qi_ ?_|refine kp @qi_ ?_
 refine Ow.makeMapG (encK:=ZS_) (encV:=blV) rfl rfl fun b1 o1 hb1 hw1 hM1=> ?_
 rw[List.nil_append]
 have r1:zr_ w [(b1,o1)] bw=some (.cells #[sv,vq,vm bv,vm bm,vl] 133 (0,0)):=by rw[zx_ _ _ _ _ _ (by omega),acx_];exact h1
 refine ko (And.intro @qi_ (And.intro @h1 (@ln))) ?_
 first|with_reducible refine ks [] (And.intro @qi_ (And.intro @h1 (@ln))) ?_|refine kp (And.intro @qi_ (And.intro @h1 (@ln))) ?_
 refine Cw.loopG (G:=MkMiG) [15,16,17,5,18,19,20,21,14] (fun g=> [(14,vi g.k)]) (fun g=>(b1,g.o)::g.DG) (fun g=>g.k≤W.lk.length∧K7_ ZS_ blV g.o (JF_ (ZM_ (W.lk.take g.k)))∧New w.heap.size g.DG) (fun g=>W.lk.length - g.k) ⟨0,o1,[]⟩ rfl rfl ?_ ?_
 ·exact⟨Nat.zero_le _,hM1,trivial⟩
 intro g j hg
 refine kv ?_
 obtain⟨k,o,DG⟩:=g
 simp only at hg ⊢
 obtain⟨hk,hM,hN⟩:=hg
 by_cases hlt:k<W.lk.length
 ·have hrl:=hr.lt (by omega)
  have ix:=hr.idx true k hlt
  have ld:=ak5_ hr hlt
  have hNN:New w.heap.size ((b1,o)::DG):=⟨hw1,hN⟩
  have rd:zr_ w ((b1,o)::DG) rb=some (.cells arr E fz):=by rw[qX_ (hNN.not hrl)];exact hr.has (by omega)
  have hts:=StP.take_snoc (z:=chd0) hlt
  have hd0:decide ((k:Int)< (W.lk.length:Int))=true:=decide_eq_true (by omega)
  generalize W.lk.getD k chd0=c at*
  have hci:=c.id.h
  first|with_reducible refine ks [] (And.intro @qi_ (And.intro @hd0 (And.intro @ix (And.intro @rd (@ld))))) ?_|refine kp (And.intro @qi_ (And.intro @hd0 (And.intro @ix (And.intro @rd (@ld))))) ?_
  refine Ow.alloc rfl rfl wY_ fun b5 hb5 hw5=> ?_
  simp only[ze_,List.nil_append,List.cons_append]
  have h15:b1<b5:=zf_ hb5 (by simp[keys])
  refine Ow.permL (M:=(b5, .cells (zO_ chd0).toArray 59 (0,0)):: (b1,o)::DG) (by classical exact List.perm_iff_count.2 fun a=>by simp only[List.count_append,List.count_cons,List.count_nil]<;>omega) ?_
  refine ko @qi_ ?_
  first|with_reducible refine ks [] @qi_ ?_|refine kp @qi_ ?_
  refine Ow.mapUpdateG (encK:=ZS_) (encV:=blV) (k:=c.id) (v:=true) rfl rfl Tryz.underlying131 WD_ rfl rfl rfl (by rw[z2_ _ _ _ _ (by omega)];exact zy_ _ _ _) hM (fun o2 ho2=> ?_)
  rw[aiq_] at ho2
  rw[qg_ _ _ _ _ _ (by omega),ql_]
  refine Ow.permL (M:=(b1,o2):: (b5, .cells (zO_ c).toArray 59 (0,0))::DG) (by classical exact List.perm_iff_count.2 fun a=>by simp only[List.count_append,List.count_cons,List.count_nil]<;>omega) ?_
  refine ko @qi_ ?_
  first|with_reducible refine ks [] @qi_ ?_|refine kp @qi_ ?_
  refine Again.mk ⟨k+1,o2,(b5, .cells (zO_ c).toArray 59 (0,0))::DG⟩ (by show W.lk.length - (k+1)<W.lk.length - k;omega) ⟨hlt, ?_,⟨hw5,hN⟩⟩ rfl rfl
  show K7_ ZS_ blV o2 (JF_ (ZM_ (W.lk.take (k+1))))
  rw[hts,aek_]
  exact ho2
 ·obtain rfl:k=W.lk.length:=by omega
  rw[List.take_length] at hM
  have hd0:decide ((W.lk.length:Int)< (W.lk.length:Int))=false:=by simp
  have hml:=aex_ W.lk
  first|with_reducible refine ks [] (And.intro @qi_ @hd0) ?_|refine kp (And.intro @qi_ @hd0) ?_
  refine Ow.callC rfl rfl Tryz.call75 (fun w' hw'=>JD_ b1 o (JF_ (ZM_ W.lk)) w' (hw'.has _ _ List.mem_cons_self) hM (by rw[Qd_];exact aby_ _) (by rw[acY_];omega)) (fun B v2 D2 hA2 hB2 hN2 hS2=> ?_)
  rw[Qd_,af1_] at hS2
  refine ko @qi_ ?_
  refine⟨_,(ke @qi_), ?_⟩
  exact⟨Ext.of_new ⟨hw1,hN.app (hN2.mono hB2)⟩,hS2.mono fun p hp=>List.mem_cons_of_mem _ (List.mem_append_right _ hp)⟩
end Go.Proofs
end
section
open Go Go.Proofs Go.Sx Go.StP Go.RooP
namespace Go.Proofs
set_option maxRecDepth 10000
set_option maxHeartbeats 400000
set_option linter.unusedSimpArgs false
set_option linter.defProp false
def vK_:=And.intro (And.intro (@zL_) (@zK_)) (And.intro (@akn_) (And.intro (@amY_) (@vw_)))
theorem vG_ (v:Value) (l:List IdL) (x:IdL) (w:World) (hv:RowX 32 qd_ id0 w v l []) (hl:l.length<1000000):
  Rets Tryz.prog 31 #[v, .agg (a8 x.l)] w (fun v' D=>v'= .bool (decide (x∈l))∧D= []):=by
 obtain⟨b,off,arr,E,fz,hr,-⟩:=hv
 have ln:=fun x=>hr.len x
 have hx:=x.h
 refine Rets.enterV Tryz.func31 rfl (rs:= [.tmp 4]) Tryz.results31 Tryz.ntmps31 ?_
 refine kf ?_
 first|with_reducible refine ks [] @vK_ ?_|refine kp @vK_ ?_
 refine Ow.box rfl rfl fun b1 hb1 hw1=> ?_
 simp only[zV_,zT_,z6_,ze_,List.nil_append,List.cons_append]
 refine Ow.go rfl ?_
 simp(disch:=(first|assumption|omega| (simp only[je_,jc_,UInt64.reduceToNat];try omega))) only[↓Sx.S0,Sx.S1,Tryz.fx,vK_,Nat.reduceAdd,Nat.reducePow,Int.reducePow,Nat.reduceBEq, ↓reduceIte,UInt8.reduceToNat,UInt16.reduceToNat,UInt32.reduceToNat,UInt64.reduceToNat,Int.reduceToNat]
 first|with_reducible refine ks [] @vK_ ?_|refine kp @vK_ ?_
 refine Cw.loopG (G:=Nat) [6,7,8,9,12,13,14,15,16,17,4,10,11,5] (fun g=> [(5,vi g)]) (fun g=> [(b1, .cells (a8 x.l) 24 (0,0))]) (fun g=>g≤l.length∧x∉l.take g) (fun g=>l.length - g) 0 rfl rfl ?_ ?_
 ·exact⟨Nat.zero_le _,by simp⟩
 intro k jk hk
 refine kv ?_
 obtain⟨h1,h2⟩:=hk
 by_cases hk:k<l.length
 ·have hbl:=hr.lt (by omega)
  have hn1:b1≠b:=by omega
  have r2:=hr.has (by omega)
  have i2:=hr.idx true k hk
  have l2:=Jb_ hr hk
  have hgm:l.getD k id0∈l:=by
   rw[List.getD_eq_getElem?_getD,List.getElem?_eq_getElem hk];exact List.getElem_mem _
  have hts:=StP.take_snoc (z:=id0) hk
  have d1:decide ((k:Int)< (l.length:Int))=true:=decide_eq_true (by omega)
  generalize l.getD k id0=y at*
  first|with_reducible refine ks [] (And.intro @vK_ (And.intro @ln (@d1))) ?_|refine kp (And.intro @vK_ (And.intro @ln (@d1))) ?_
  refine Cw.regionS [b1,b] [0,1,2,3,4,5] [] (by kernel_rfl) (by kernel_rfl) (by kernel_rfl) ?_
  simp only[zg_, ↓zc_, ↓za_, ↓zl_, ↓zk_,zb_]
  refine kq (And.intro @vK_ (And.intro @i2 (And.intro @r2 (@l2)))) ?_
  cases hq: (y.l==x.l)
  ·first|with_reducible refine ks [] @vK_ ?_|refine kp @vK_ ?_
   refine Again.mk (k+1) (by omega) ⟨hk, ?_⟩ rfl rfl
   rw[hts,List.mem_append,List.mem_singleton]
   rintro(h|h)
   ·exact h2 h
   ·subst h;simp at hq
  ·have e:x∈l:=by rw[←IdL.ext2 (eq_of_beq hq)];exact hgm
   rw[decide_eq_true e]
   first|with_reducible refine ks [] @vK_ ?_|refine kp @vK_ ?_
   refine⟨_,(ke @vK_),⟨hw1,trivial⟩, ?_⟩
   rfl
 ·obtain rfl:k=l.length:=by omega
  rw[List.take_length] at h2
  rw[decide_eq_false h2]
  have d1:decide ((l.length:Int)< (l.length:Int))=false:=by simp
  first|with_reducible refine ks [] (And.intro @vK_ (And.intro @ln (@d1))) ?_|refine kp (And.intro @vK_ (And.intro @ln (@d1))) ?_
  refine⟨_,(ke @vK_),⟨hw1,trivial⟩, ?_⟩
  rfl
def obKC (o:ObK):List Value:= [vi o.k,vs o.t]
theorem Kf_ (o:ObK): (obKC o).length=2:=rfl
theorem aa8_ {w:World} {v:Value} {l:List ObK} {b off:Nat} {arr:Array Value} {E:TypeId} {fz:Nat×Nat} (h:RowS 2 obKC x7_ w v l b off arr E fz) {k:Nat} (hk:k<l.length):
  zv_ (some (true,2)) (some (.cells arr E fz)) (off+k*2)=some (obV (l.getD k x7_).k (l.getD k x7_).t):=RowS.load h Kf_ (by omega) hk
theorem Q9_ (x y:Int) (s t:List UInt8) (E:TypeId):zt_ (some (true,2)) (some (Obj.cells #[vi x,vs s] E (0,0))) 0 (obV y t)=some (.cells #[vi y,vs t] E (0,0)):=(rfl)
set_option linter.defProp false
theorem alP_ {o:ObK} (h:rdK o=true):Dig.shaR (wE_ o.k o.t)=(idK o).l:=by
 have h':xA_ o.k o.t=true:=h
 have e:idK o=⟨Dig.shaR (j2_ o.k o.t),Z6_ _⟩:=if_pos h'
 rw[e]
 exact congrArg Dig.shaR (afL_ h')
theorem agm_ (o:ObK):kb_ Tryz.prog 22 1 [(0,obV o.k o.t)]=some (35,(obKC o).toArray):=
 qs_ Tryz.underlying22 Tryz.ag35 WC_ (by decide) (Kf_ o)
def fl (l:List ObK) (i:Nat):List ObK:=(l.take i).filter rdK
set_option linter.defProp false
end Go.Proofs
end
section
open Go Go.Proofs Go.Sx Go.StP Go.RooP
namespace Go.Proofs
set_option maxRecDepth 10000
set_option maxHeartbeats 400000
set_option linter.unusedSimpArgs false
structure MkClG where
 W:WkS
 X:zd_
structure WkN (s:j7_) (ids r:List IdL) (n:Nat) (W:WkS):Prop where
 I:WkI s r W
 B:WkB n W
 ids: ∀i,(s i).2=true→i∈ids
theorem WkN.ms {s:j7_} {ids r:List IdL} {n:Nat} {W:WkS} (h:WkN s ids r n W):W.ms.length≤ids.length:=h.I.msLe h.ids
theorem WkN.vis {s:j7_} {ids r:List IdL} {n:Nat} {W:WkS} (h:WkN s ids r n W):W.vis.length≤r.length+40*ids.length:=Nat.le_trans (h.I.le h.ids) (aeH_ s ids r)
theorem WkN.q {s:j7_} {ids r:List IdL} {n:Nat} {W:WkS} (h:WkN s ids r n W):W.q.length≤n+40*ids.length:=Nat.le_trans h.B.q (by have:=h.ms;omega)
theorem WkN.lk {s:j7_} {ids r:List IdL} {n:Nat} {W:WkS} (h:WkN s ids r n W):W.lk.length≤r.length+40*ids.length:=Nat.le_trans h.B.lk h.vis
theorem WkN.step {s:j7_} {ids r:List IdL} {n:Nat} {W:WkS} (h:WkN s ids r n W):WkN s ids r n (kT_ s W).2:=⟨h.I.step,h.B.step s,h.ids⟩
theorem WkN.new {s:j7_} {ids:List IdL} (r:List IdL) (h: ∀i,(s i).2=true→i∈ids):WkN s ids r r.length (newK r):=⟨WkI.new s r,WkB.new r,h⟩
theorem WkN.add {s:j7_} {ids r:List IdL} {n:Nat} {W:WkS} (h:WkN s ids r n W) (r':List IdL):WkN s ids (r++r') (n+r'.length) (J6_ W r'):=⟨h.I.add r',h.B.add r',h.ids⟩
theorem ahS_ {s:j7_} {W:WkS} (h: (kT_ s W).1=true): (kT_ s W).2.q= []:=by
 have:=XA_ s W W.q h
 unfold kT_;rw[this]
theorem qS_ (sv:Value) (m:List (IdL×ObK)) (v:Value) (l:List IdL) (w:World) (hS:SrcW w sv m []) (hR:RowX 32 qd_ id0 w v l []) (hl:l.length≤1000) (hm:m.length≤1000):
  Rets Tryz.prog 29 #[sv,v] w (XS w [] (fun v' D=> ∃W v1 v2,WkI (qe_ m) l W∧W.q= []∧W.ms.length≤m.length∧W.lk.length≤41000∧v'= .tuple #[v1,v2]∧GrI D 24 32 v1 (xn_ W.ms).length ((xn_ W.ms).map qd_).flatten∧GrI D 24 32 v2 (xK_ W.lk).length ((xK_ W.lk).map qd_).flatten)):=by
 have hids: ∀i,(qe_ m i).2=true→i∈m.map Prod.fst:=fun i h=>ahR_ h
 have hidl: (m.map Prod.fst).length=m.length:=List.length_map _
 refine Rets.enterX Tryz.func29 rfl (rs:= [.tmp 4, .tmp 5]) Tryz.results29 Tryz.ntmps29 (fun p hp=>by cases hp) (by simp[keys]) ?_
 refine kf ?_
 first|with_reducible refine ks [] @Nat.add_zero ?_|refine kp @Nat.add_zero ?_
 refine Ow.callC rfl rfl Tryz.call21 (fun w' hw'=>aew_ sv m v l w' (hS.old hw' (fun _ h=>h)) (hR.old hw' (fun _ h=>h)) (by omega)) (fun B1 v1 D1 hA1 hB1 hN1 hS1=> ?_)
 obtain⟨bw,rfl,hP1⟩:=hS1
 rw[List.nil_append]
 refine ko @Nat.add_zero ?_
 refine Cw.loopG (G:=MkClG) [10,11,12] (fun g=> []) (fun g=>g.X) (fun g=>WkP bw sv g.W g.X∧Ext w [] g.X∧WkN (qe_ m) (m.map Prod.fst) l l.length g.W) (fun g=>50000 - g.W.vis.length) ⟨newK l,D1⟩ rfl rfl ?_ ?_
 ·exact⟨hP1,Ext.of_new (hN1.mono hB1),WkN.new l hids⟩
 intro g j hg
 refine kv ?_
 clear hP1 hN1 hA1
 obtain⟨W,X⟩:=g
 simp only at hg ⊢
 obtain⟨hP,hE,hN⟩:=hg
 have b1:=hN.q
 have b2:=hN.lk
 have b3:=hN.vis
 have hN':=hN.step
 have b4:=hN'.vis
 have b5:=hN'.ms
 have b6:=hN'.lk
 first|with_reducible refine ks [] @Nat.add_zero ?_|refine kp @Nat.add_zero ?_
 refine Ow.callX (X:=X) (Y:= []) (List.append_nil _).symm rfl rfl Tryz.call24 (fun w' hw' hX' hn'=>adb_ bw sv W m X w' hX' hn' hP ((hS.ext hE.new).old hw' fun _ h=>h) (by omega) (by omega)) (fun v2 D2 hC2 hS2=> ?_)
 rw[List.append_nil]
 obtain⟨rfl,hP2⟩:=hS2
 have hE2:=hE.came0 hC2
 cases hst: (kT_ (qe_ m) W).1 with
 |false=>
  have hv:=ah2_ hst
  generalize (kT_ (qe_ m) W).2=W2 at*
  refine ko @Nat.add_zero ?_
  first|with_reducible refine ks [] @Nat.add_zero ?_|refine kp @Nat.add_zero ?_
  exact Again.mk ⟨W2,D2⟩ (by show 50000 - W2.vis.length<50000 - W.vis.length;omega) ⟨hP2,hE2,hN'⟩ rfl rfl
 |true=>
  have hq:=ahS_ hst
  generalize (kT_ (qe_ m) W).2=W2 at*
  refine ko @Nat.add_zero ?_
  first|with_reducible refine ks [] @Nat.add_zero ?_|refine kp @Nat.add_zero ?_
  refine Ow.callC rfl rfl Tryz.call27 (fun w' hw'=>VP_ bw sv W2 w' ⟨D2,fun p hp=>hw'.has _ _ hp,hP2⟩ hN'.I.nm (by omega)) (fun B3 v3 D3 hA3 hB3 hN3 hS3=> ?_)
  refine ko @Nat.add_zero ?_
  refine Ow.callC rfl rfl Tryz.call28 (fun w' hw'=>Ka_ bw sv W2 w' ⟨D2,fun p hp=>hw'.has _ _ (List.mem_append_left _ hp),hP2⟩ (by omega)) (fun B4 v4 D4 hA4 hB4 hN4 hS4=> ?_)
  refine ko @Nat.add_zero ?_
  refine⟨_,(ke @Nat.add_zero), ?_⟩
  exact⟨acw_ (acw_ hE2 (hN3.mono hB3)) (hN4.mono hB4),W2,v3,v4,hN'.I,hq,by omega,by omega,rfl,hS3.mono fun p hp=>List.mem_append_left _ (List.mem_append_right _ hp),hS4.mono fun p hp=>List.mem_append_right _ hp⟩
def SrcK (D:zd_) (v:Value) (m:List (IdL×ObK)):Prop:= ∃bx bm om,v= .iface 118 (vp bx 0)∧(bx,Obj.cells #[vm bm] 121 (0,0))∈D∧(bm,om)∈D∧K7_ ZS_ obKV om m
theorem SrcK.mono {D D':zd_} {v:Value} {m:List (IdL×ObK)} (h:SrcK D v m) (hD: ∀p,p∈D→p∈D'):SrcK D' v m:=by
 obtain⟨bx,bm,om,h1,h2,h3,h4⟩:=h
 exact⟨bx,bm,om,h1,hD _ h2,hD _ h3,h4⟩
theorem SrcK.W {w0 w:World} {D:zd_} {v:Value} {m:List (IdL×ObK)} (h:SrcK D v m) (hw:Hp w0 D w):SrcW w v m []:=by
 obtain⟨bx,bm,om,h1,h2,h3,h4⟩:=h
 exact⟨bx,bm,om,⟨h1,hw.has _ _ h2,hw.has _ _ h3,h4⟩,(fun h=>by cases h),(fun h=>by cases h)⟩
section
variable {P:Program} {w0:World} {f:Fr} {L:zd_} {N:Fr→zd_→Prop} {ops:Array Oper} {rest:List Oper} {md:Md}
 {d:Option Tmp} {ty:TypeId} {ps:String} {af:Array Edge} {g:Option (Nat×Bool)}
theorem _root_.Go.Sx.Ow.ifacePtr {t e:TypeId} {x:Operand} {v:Value} (hs:zn_ ops f ⟨d, .makeInterface t x,ty,ps,af,g⟩=false) (hu:P.underlying t=some (.pointer e)) (hx:ev f x=v)
  (hn:Ow P w0 ops md.next rest (qk_ f d (.iface t v)) L N):Ow P w0 ops md (⟨d, .makeInterface t x,ty,ps,af,g⟩::rest) f L N:=by
 refine Ow.calm rfl rfl hs (fun w hw=> .inl ⟨.iface t v,w,L, ?_,hw,rfl,rfl⟩) hn
 simp only[execOp,Instr.makeInterface,Sem.run_bind,run_underlying hu w,Result.andThen_ok,hx]
 rfl
end
structure MkOfG where
 k:Nat
 o:Obj
 DG:zd_
theorem aeV_ (b:Nat):jl_ (wG_ Tryz.prog 121) (zZ_ Tryz.prog 121) [(0,vm b)]=some (.agg #[vm b]):=by
 rw[show wG_ Tryz.prog 121=some [(0,1)] from id (by kernel_rfl),show zZ_ Tryz.prog 121=some (.agg #[.map none]) from id (by kernel_rfl)];rfl
set_option linter.defProp false
def jU_:=And.intro (And.intro (And.intro (@jt_) (@qH_)) (And.intro (@qC_) (And.intro (@qO_) (@Q9_)))) (And.intro (And.intro (@Sx.tup2_0) (And.intro (@Sx.tup2_1) (@zL_))) (And.intro (@zK_) (And.intro (@vw_) (@afV_))))
theorem kJ_ (v:Value) (l:List ObK) (w:World) (hG:GlobE w) (hv:RowX 2 obKC x7_ w v l []) (hl:l.length<100000):
  Rets Tryz.prog 16 #[v] w (XS w [] (fun v' D=>SrcK D v' (jm_ l))):=by
 obtain⟨rb,off,arr,E,fz,hr,-⟩:=hv
 have ln:=fun x=>hr.len x
 refine Rets.enterX Tryz.func16 rfl (rs:= [.tmp 2]) Tryz.results16 Tryz.ntmps16 (fun p hp=>by cases hp) (by simp[keys]) ?_
 refine kf ?_
 first|with_reducible refine ks [] @jU_ ?_|refine kp @jU_ ?_
 refine Ow.makeMapG (encK:=ZS_) (encV:=obKV) rfl rfl fun b1 o1 hb1 hw1 hM1=> ?_
 rw[List.nil_append]
 refine ko @jU_ ?_
 refine Ow.build (.agg #[vm b1]) rfl (aeV_ b1) ?_
 refine ko @jU_ ?_
 refine Ow.box rfl rfl fun b2 hb2 hw2=> ?_
 simp only[zV_,zT_,z6_,ze_,List.cons_append,List.nil_append]
 have h12:b1<b2:=zf_ hb2 (by simp[keys])
 refine ko @jU_ ?_
 first|with_reducible refine ks [] (And.intro @jU_ @ln) ?_|refine kp (And.intro @jU_ @ln) ?_
 refine Cw.loopG (G:=MkOfG) [14,15,16,5,18,19,17,20,21,6,7,22,23,24,25,26,27,28,29,13] (fun g=> [(13,vi g.k)]) (fun g=>(b1,g.o):: (b2, .cells #[vm b1] 121 (0,0))::g.DG) (fun g=>g.k≤l.length∧K7_ ZS_ obKV g.o (jm_ (l.take g.k))∧New w.heap.size g.DG) (fun g=>l.length - g.k) ⟨0,o1,[]⟩ rfl rfl ?_ ?_
 ·exact⟨Nat.zero_le _,hM1,trivial⟩
 intro g j hg
 refine kv ?_
 obtain⟨k,o,DG⟩:=g
 simp only at hg ⊢
 obtain⟨hk,hM,hN⟩:=hg
 have hNN:New w.heap.size ((b1,o):: (b2, .cells #[vm b1] 121 (0,0))::DG):=⟨hw1,hw2,hN⟩
 by_cases hlt:k<l.length
 ·have hrl:=hr.lt (by omega)
  have ix:=hr.idx true k hlt
  have ld:=aa8_ hr hlt
  have rd:zr_ w ((b1,o):: (b2, .cells #[vm b1] 121 (0,0))::DG) rb=some (.cells arr E fz):=by rw[qX_ (hNN.not hrl)];exact hr.has (by omega)
  have hts:=StP.take_snoc (z:=x7_) hlt
  have hd0:decide ((k:Int)< (l.length:Int))=true:=decide_eq_true (by omega)
  generalize l.getD k x7_=x at*
  have hxi:=(idK x).h
  have hi0:=id0.h
  first|with_reducible refine ks [8] (And.intro @jU_ (And.intro @hd0 (And.intro @ix (And.intro @rd (@ld))))) ?_|refine kp (And.intro @jU_ (And.intro @hd0 (And.intro @ix (And.intro @rd (@ld))))) ?_
  refine Ow.alloc rfl rfl WC_ fun b5 hb5 hw5=> ?_
  simp only[ze_,List.nil_append,List.cons_append]
  have h15:b1<b5:=zf_ hb5 (by simp[keys])
  have h25:b2<b5:=zf_ hb5 (by simp[keys])
  refine Ow.permL (M:=(b5, .cells #[vi 0,vs []] 35 (0,0)):: (b1,o):: (b2, .cells #[vm b1] 121 (0,0))::DG) (by classical exact List.perm_iff_count.2 fun a=>by simp only[List.count_append,List.count_cons,List.count_nil]<;>omega) ?_
  refine ko @jU_ ?_
  first|with_reducible refine ks [] @jU_ ?_|refine kp @jU_ ?_
  refine Ow.callFV rfl Tryz.call66 (fun w' hw'=>KL_ x.k x.t w' (hG.new hw' ⟨hw5,hNN⟩)) ?_
  have e1: (idV x.k x.t).l=(idK x).l:=rfl
  have e2:xA_ x.k x.t=rdK x:=rfl
  rw[e1,e2]
  refine ko @jU_ ?_
  refine Ow.alloc rfl rfl ZL_ fun b6 hb6 hw6=> ?_
  simp only[ze_,List.nil_append,List.cons_append]
  have h16:b1<b6:=zf_ hb6 (by simp[keys])
  have h26:b2<b6:=zf_ hb6 (by simp[keys])
  have h56:b5<b6:=zf_ hb6 (by simp[keys])
  refine Ow.permL (M:=(b6, .cells (a8 id0.l) 24 (0,0)):: (b5, .cells #[vi x.k,vs x.t] 35 (0,0)):: (b1,o):: (b2, .cells #[vm b1] 121 (0,0))::DG) (by classical exact List.perm_iff_count.2 fun a=>by simp only[List.count_append,List.count_cons,List.count_nil]<;>omega) ?_
  cases hrd:rdK x with
  |false=>
   have hob:jm_ (l.take (k+1))=jm_ (l.take k):=by rw[hts,Zg_];unfold addO;rw[hrd];rfl
   refine ko @jU_ ?_
   refine Cw.permL (M:=(b1,o):: (b2, .cells #[vm b1] 121 (0,0)):: ((b6, .cells (a8 (idK x).l) 24 (0,0)):: (b5, .cells #[vi x.k,vs x.t] 35 (0,0))::DG)) (by classical exact List.perm_iff_count.2 fun a=>by simp only[List.count_append,List.count_cons,List.count_nil]<;>omega) ?_
   first|with_reducible refine ks [] @jU_ ?_|refine kp @jU_ ?_
   exact Again.mk ⟨k+1,o,(b6, .cells (a8 (idK x).l) 24 (0,0)):: (b5, .cells #[vi x.k,vs x.t] 35 (0,0))::DG⟩ (by show l.length - (k+1)<l.length - k;omega) ⟨hlt,by show K7_ _ _ o (jm_ (l.take (k+1)));rw[hob];exact hM,⟨hw6,hw5,hN⟩⟩ rfl rfl
  |true=>
   have hob:jm_ (l.take (k+1))=JS_ (idK x) x (jm_ (l.take k)):=by rw[hts,Zg_];unfold addO;rw[hrd];rfl
   refine ko @jU_ ?_
   first|with_reducible refine ks [] @jU_ ?_|refine kp @jU_ ?_
   refine Cw.regionS [b2,b5,b6] [0,1,2,3,4,5,6] [6] (by kernel_rfl) (by kernel_rfl) (by kernel_rfl) ?_
   simp only[zg_, ↓zc_, ↓za_, ↓zl_, ↓zk_,zb_]
   refine kq @jU_ ?_
   refine Ow.mapUpdateG (encK:=ZS_) (encV:=obKV) (k:=idK x) (v:=x) rfl rfl Tryz.underlying119 WD_ rfl rfl rfl (by rw[z2_ _ _ _ _ (by omega),z2_ _ _ _ _ (by omega)];exact zy_ _ _ _) hM (fun o2 ho2=> ?_)
   rw[qg_ _ _ _ _ _ (by omega),qg_ _ _ _ _ _ (by omega),ql_]
   refine ko @jU_ ?_
   refine Cw.permL (M:=(b1,o2):: (b2, .cells #[vm b1] 121 (0,0)):: ((b6, .cells (a8 (idK x).l) 24 (0,0)):: (b5, .cells #[vi x.k,vs x.t] 35 (0,0))::DG)) (by classical exact List.perm_iff_count.2 fun a=>by simp only[List.count_append,List.count_cons,List.count_nil]<;>omega) ?_
   first|with_reducible refine ks [] @jU_ ?_|refine kp @jU_ ?_
   exact Again.mk ⟨k+1,o2,(b6, .cells (a8 (idK x).l) 24 (0,0)):: (b5, .cells #[vi x.k,vs x.t] 35 (0,0))::DG⟩ (by show l.length - (k+1)<l.length - k;omega) ⟨hlt,by show K7_ _ _ o2 (jm_ (l.take (k+1)));rw[hob];exact ho2,⟨hw6,hw5,hN⟩⟩ rfl rfl
 ·obtain rfl:k=l.length:=by omega
  rw[List.take_length] at hM
  have hd0:decide ((l.length:Int)< (l.length:Int))=false:=by simp
  first|with_reducible refine ks [] (And.intro @jU_ @hd0) ?_|refine kp (And.intro @jU_ @hd0) ?_
  refine Ow.ifacePtr rfl Tryz.underlying118 rfl ?_
  refine ko @jU_ ?_
  refine⟨_,(ke @jU_), ?_⟩
  exact⟨Ext.of_new hNN,b2,b1,o,rfl,by simp,by simp,hM⟩
end Go.Proofs
end
section
open Go Go.Proofs Go.Sx Go.StP Go.RooP
namespace Go.Proofs
set_option maxRecDepth 10000
set_option maxHeartbeats 400000
set_option linter.unusedSimpArgs false
structure DwA (bd:Nat) (vL vI:Value) (W:WkS) (vq vv vl vm vn:Value) (Q V M K X:zd_):Prop where
 perm:X.Perm ((bd, .cells #[vL,vI,vq,vv,vl,vm,vn] 46 (0,0)):: (Q++ (V++ (M++K))))
 q:Qu Q 59 33 vq W.q.length (W.q.map zO_).flatten
 v:Gr V 59 33 vv W.vis.length (W.vis.map zO_).flatten
 l:Gr M 59 33 vl W.lk.length (W.lk.map zO_).flatten
 m:GrI K 24 32 vm (xn_ W.ms).length ((xn_ W.ms).map qd_).flatten
 n:GrI K 24 32 vn (xK_ W.lk).length ((xK_ W.lk).map qd_).flatten
theorem DwA.ne {bd:Nat} {vL vI:Value} {W:WkS} {vq vv vl vm vn:Value} {Q V M K X:zd_} (h:DwA bd vL vI W vq vv vl vm vn Q V M K X) (hn: (keys X).Nodup):bd∉keys Q∧bd∉keys V∧bd∉keys M∧bd∉keys K:=by
 have:=(h.perm.map Prod.fst).nodup_iff.1 hn
 simp only[List.map_cons,List.map_append,List.nodup_cons,List.mem_append,not_or] at this
 exact⟨this.1.1,this.1.2.1,this.1.2.2.1,this.1.2.2.2⟩
theorem DwA.keysX {bd:Nat} {vL vI:Value} {W:WkS} {vq vv vl vm vn:Value} {Q V M K X:zd_} (h:DwA bd vL vI W vq vv vl vm vn Q V M K X) (x:Nat):x∈keys X↔x=bd∨x∈keys Q∨x∈keys V∨x∈keys M∨x∈keys K:=by
 have:=(h.perm.map Prod.fst).mem_iff (a:=x)
 simp only[List.map_cons,List.map_append,List.mem_cons,List.mem_append] at this
 exact this
theorem DwA.ext2 {bd:Nat} {vL vI:Value} {W:WkS} {vq vv vl vm vn:Value} {Q V M K X Q' V' M' K':zd_} {a:Obj} {w:World} (h:DwA bd vL vI W vq vv vl vm vn Q V M K X)
  (h1: ∀x,x∈keys Q→x∈keys Q') (h2: ∀x,x∈keys Q'→x∈keys Q∨w.heap.size≤x) (h3: ∀x,x∈keys V→x∈keys V') (h4: ∀x,x∈keys V'→x∈keys V∨w.heap.size≤x)
  (h5: ∀x,x∈keys M→x∈keys M') (h6: ∀x,x∈keys M'→x∈keys M∨w.heap.size≤x) (h7: ∀x,x∈keys K→x∈keys K') (h8: ∀x,x∈keys K'→x∈keys K∨w.heap.size≤x):
  Ext w X ((bd,a):: (Q'++ (V'++ (M'++K')))):=by
 have hk:=h.keysX
 refine⟨fun x hx=> ?_,fun x hx=> ?_⟩
 ·simp only[keys,List.map_cons,List.map_append,List.mem_cons,List.mem_append] at hx
  rcases hx with hx|hx|hx|hx|hx
  ·exact .inl ((hk x).2 (.inl hx))
  ·exact(h2 x hx).imp (fun h=>(hk x).2 (.inr (.inl h))) id
  ·exact(h4 x hx).imp (fun h=>(hk x).2 (.inr (.inr (.inl h)))) id
  ·exact(h6 x hx).imp (fun h=>(hk x).2 (.inr (.inr (.inr (.inl h))))) id
  ·exact(h8 x hx).imp (fun h=>(hk x).2 (.inr (.inr (.inr (.inr h))))) id
 ·simp only[keys,List.map_cons,List.map_append,List.mem_cons,List.mem_append]
  rcases(hk x).1 hx with hx|hx|hx|hx|hx
  ·exact .inl hx
  ·exact .inr (.inl (h1 x hx))
  ·exact .inr (.inr (.inl (h3 x hx)))
  ·exact .inr (.inr (.inr (.inl (h5 x hx))))
  ·exact .inr (.inr (.inr (.inr (h7 x hx))))
theorem VZ_ {L:zd_} {b:Nat} {o:Obj} (hn: (keys L).Nodup) (h: (b,o)∈L) {w:World}:zr_ w L b=some o:=zm_ (wb_ hn h)
set_option linter.defProp false
end Go.Proofs
end
section
open Go Go.Proofs Go.Sx Go.StP Go.RooP
namespace Go.Proofs
set_option maxRecDepth 10000
set_option maxHeartbeats 400000
set_option linter.unusedSimpArgs false
set_option linter.defProp false
end Go.Proofs
end
section
open Go Go.Proofs Go.Sx Go.StP Go.RooP
namespace Go.Proofs
set_option maxRecDepth 10000
set_option maxHeartbeats 400000
set_option linter.unusedSimpArgs false
theorem alo_ (a b:ObK):eqD Tryz.prog 8 35 (obV a.k a.t) (obV b.k b.t)=some (decide (a=b)):=by
 have p0: ∀o:ObK,Sx.partV (false,1) #[vi o.k,vs o.t] 0=some (vi o.k):=fun _=>rfl
 have p1: ∀o:ObK,Sx.partV (false,1) #[vi o.k,vs o.t] 1=some (vs o.t):=fun _=>rfl
 have e1: ∀a b:Int,eqD Tryz.prog 7 3 (vi a) (vi b)=some (a==b):=fun a b=>by unfold eqD;rw[Tryz.underlying3];rfl
 have e2: ∀a b:List UInt8,eqD Tryz.prog 7 9 (vs a) (vs b)=some (a==b):=fun a b=>by
  unfold eqD;rw[Tryz.underlying9];simp only[vs,Wq_]
 have a1:zH_ Tryz.prog 3=some (false,1):=id (by kernel_rfl)
 have a2:zH_ Tryz.prog 9=some (false,1):=id (by kernel_rfl)
 unfold eqD obV
 rw[Tryz.underlying35]
 simp only
 rw[show Tryz.prog.stoodInHeld 35=false by kernel_rfl]
 simp only[Bool.false_eq_true, ↓reduceIte,kd_,kx_,a1,a2,p0,p1,e1,e2]
 obtain⟨k,t⟩:=a
 obtain⟨k',t'⟩:=b
 have e:decide ((⟨k,t⟩:ObK)=⟨k',t'⟩)=((k==k')&& (t==t')):=by rw[Bool.eq_iff_iff];simp
 rw[e]
 cases(k==k')<;>cases(t==t')<;>rfl
theorem amt_ (a b:ObK):q6_ Tryz.prog .neq 35 (obV a.k a.t) (obV b.k b.t)=some (.bool (!decide (a=b))):=by
 have h:=alo_ a b
 unfold q6_ eqX obV at*;rw[show Tryz.prog.eqGuardType Tryz.prog.depth 35=false by kernel_rfl];simp[q7_,h]
def Va_ (l:List ObK):Bool:=decide (40<l.length) ||l.any fun o=>decide (2500<o.t.length)
theorem af2_ {l:List ObK} (h:Va_ l=false):l.length≤40∧ ∀o,o∈l→o.t.length≤2500:=by
 unfold Va_ at h
 rw[Bool.or_eq_false_iff,decide_eq_false_iff_not,List.any_eq_false] at h
 exact⟨by omega,fun o ho=>by have:=h.2 o ho;simpa using this⟩
theorem aiG_ {w:World} {v:Value} {l:List ObK} {b off:Nat} {arr:Array Value} {E:TypeId} {fz:Nat×Nat} (h:RowS 2 obKC x7_ w v l b off arr E fz) {k n:Nat} (hk:k<l.length):
  zv_ (some (false,n)) (some (.cells arr E fz)) (off+k*2+1)=some (vs (l.getD k x7_).t):=h.cell hk (by omega)
set_option linter.defProp false
def Zn_:=And.intro (@zL_) (@zK_)
theorem WM_ (v:Value) (l:List ObK) (w:World) (hv:RowX 2 obKC x7_ w v l []):
  Rets Tryz.prog 14 #[v] w (fun v' D=>v'= .bool (Va_ l)∧D= []):=by
 obtain⟨rb,off,arr,E,fz,hr,-⟩:=hv
 have ln:=fun x=>hr.len x
 refine Rets.enterV Tryz.func14 rfl (rs:= [.tmp 2]) Tryz.results14 Tryz.ntmps14 ?_
 refine kf ?_
 unfold Va_
 by_cases h40:40<l.length
 ·have d1:decide ((40:Int)< (l.length:Int))=true:=decide_eq_true (by omega)
  rw[decide_eq_true h40]
  first|with_reducible refine ks [] (And.intro @Zn_ (And.intro @ln (@d1))) ?_|refine kp (And.intro @Zn_ (And.intro @ln (@d1))) ?_
  refine⟨_,(ke @Zn_),trivial, ?_⟩
  rfl
 ·have d1:decide ((40:Int)< (l.length:Int))=false:=decide_eq_false (by omega)
  rw[decide_eq_false h40,Bool.false_or]
  first|with_reducible refine ks [] (And.intro @Zn_ (And.intro @ln (@d1))) ?_|refine kp (And.intro @Zn_ (And.intro @ln (@d1))) ?_
  refine Cw.loopG (G:=Nat) [7,8,9,10,13,14,15,16,17,18,19,2,11,12,3] (fun g=> [(3,vi g)]) (fun g=> []) (fun g=>g≤l.length∧(l.take g).any (fun o=>decide (2500<o.t.length))=false) (fun g=>l.length - g) 0 rfl rfl ?_ ?_
  ·exact⟨Nat.zero_le _,rfl⟩
  intro k jk hk
  refine kv ?_
  obtain⟨h1,h2⟩:=hk
  by_cases hk:k<l.length
  ·have hd0:decide ((k:Int)< (l.length:Int))=true:=decide_eq_true (by omega)
   have ix:=hr.idx true k hk
   have ld:=fun n=>aiG_ (n:=n) hr hk
   have rd:=hr.has (by omega)
   have hts:=StP.take_snoc (z:=x7_) hk
   have hm:l.getD k x7_∈l:=by rw[List.getD_eq_getElem?_getD,List.getElem?_eq_getElem hk];exact List.getElem_mem _
   generalize l.getD k x7_=o at*
   by_cases h25:2500<o.t.length
   ·have d2:decide ((2500:Int)< (o.t.length:Int))=true:=decide_eq_true (by omega)
    have e:l.any (fun o=>decide (2500<o.t.length))=true:=List.any_eq_true.2 ⟨o,hm,decide_eq_true h25⟩
    rw[e]
    first|with_reducible refine ks [] (And.intro @Zn_ (And.intro @ln (And.intro @hd0 (And.intro @ix (And.intro @rd (And.intro @ld (@d2))))))) ?_|refine kp (And.intro @Zn_ (And.intro @ln (And.intro @hd0 (And.intro @ix (And.intro @rd (And.intro @ld (@d2))))))) ?_
    refine⟨_,(ke @Zn_),trivial, ?_⟩
    rfl
   ·have d2:decide ((2500:Int)< (o.t.length:Int))=false:=decide_eq_false (by omega)
    first|with_reducible refine ks [] (And.intro @Zn_ (And.intro @ln (And.intro @hd0 (And.intro @ix (And.intro @rd (And.intro @ld (@d2))))))) ?_|refine kp (And.intro @Zn_ (And.intro @ln (And.intro @hd0 (And.intro @ix (And.intro @rd (And.intro @ld (@d2))))))) ?_
    refine Again.mk (k+1) (by omega) ⟨hk, ?_⟩ rfl rfl
    rw[hts,List.any_append,h2]
    simp[h25]
  ·obtain rfl:k=l.length:=by omega
   rw[List.take_length] at h2
   have hd0:decide ((l.length:Int)< (l.length:Int))=false:=by simp
   rw[h2]
   first|with_reducible refine ks [] (And.intro @Zn_ (And.intro @ln (@hd0))) ?_|refine kp (And.intro @Zn_ (And.intro @ln (@hd0))) ?_
   refine⟨_,(ke @Zn_),trivial, ?_⟩
   rfl
def ClK (a b:ObK):Prop:=a≠b∧rdK a=true∧rdK b=true∧idK a=idK b
theorem ak1_ {l:List ObK} (h: ∀p,p<l.length→ ∀q,q<p→ ¬ClK (l.getD p x7_) (l.getD q x7_)):NoCl l:=by
 intro a ha b hb hra hrb he
 obtain⟨i,hi,rfl⟩:=List.getElem_of_mem ha
 obtain⟨j,hj,rfl⟩:=List.getElem_of_mem hb
 have gd: ∀k (hk:k<l.length),l.getD k x7_=l[k]:=fun k hk=>by rw[List.getD_eq_getElem?_getD,List.getElem?_eq_getElem hk];rfl
 refine Classical.byContradiction fun hne=> ?_
 rcases Nat.lt_trichotomy i j with hij|hij|hij
 ·exact h j hj i hij ⟨by rw[gd _ hj,gd _ hi];exact Ne.symm hne,by rw[gd _ hj];exact hrb,by rw[gd _ hi];exact hra,by rw[gd _ hj,gd _ hi];exact he.symm⟩
 ·subst hij;exact hne rfl
 ·exact h i hi j hij ⟨by rw[gd _ hj,gd _ hi];exact hne,by rw[gd _ hi];exact hra,by rw[gd _ hj];exact hrb,by rw[gd _ hj,gd _ hi];exact he⟩
set_option linter.defProp false
def jP_:=And.intro (And.intro (@zL_) (@zK_)) (And.intro (@amt_) (@akn_))
theorem Vp_ (v:Value) (l:List ObK) (w:World) (hv:RowX 2 obKC x7_ w v l []) (hl:l.length<1000000) (ht: ∀o,o∈l→o.t.length<100000):
  Rets Tryz.prog 15 #[v] w (fun v' D=>(∃b,v'= .bool b∧(b=false→NoCl l))∧D= []):=by
 obtain⟨rb,off,arr,E,fz,hr,-⟩:=hv
 have ln:=fun x=>hr.len x
 have gm: ∀k,k<l.length→l.getD k x7_∈l:=fun k hk=>by rw[List.getD_eq_getElem?_getD,List.getElem?_eq_getElem hk];exact List.getElem_mem _
 refine Rets.enterV Tryz.func15 rfl (rs:= [.tmp 2]) Tryz.results15 Tryz.ntmps15 ?_
 refine kf ?_
 first|with_reducible refine ks [] @jP_ ?_|refine kp @jP_ ?_
 refine Cw.loopG (G:=Nat) [5,6,7,8,4,11,12,13,16,17,18,19,20,21,22,23,24,25,26,27,28,29,30,31,32,33,34,35,36,37,38,39,40,41,42,43,44,45,46,47,48,49,50,51,2,14,15,9,10,3] (fun g=> [(3,vi g)]) (fun g=> []) (fun g=>g≤l.length∧(∀p,p<g→ ∀q,q<p→ ¬ClK (l.getD p x7_) (l.getD q x7_))) (fun g=>l.length - g) 0 rfl rfl ?_ ?_
 ·exact⟨Nat.zero_le _,fun p hp=>absurd hp (Nat.not_lt_zero _)⟩
 intro i ji hi
 refine kv ?_
 obtain⟨hi,hpi⟩:=hi
 by_cases hlt:i<l.length
 ·have hd0:decide ((i:Int)< (l.length:Int))=true:=decide_eq_true (by omega)
  have ixi:=hr.idx true i hlt
  have ldi:=aa8_ hr hlt
  have rd:=hr.has (by omega)
  have hti:=ht _ (gm i hlt)
  first|with_reducible refine ks [] (And.intro @jP_ (And.intro @ln (@hd0))) ?_|refine kp (And.intro @jP_ (And.intro @ln (@hd0))) ?_
  refine Cw.loopG (G:=Nat) [11,12,13,16,17,18,19,20,21,22,23,24,25,26,27,28,29,30,31,32,33,34,35,36,37,38,39,40,41,42,43,44,45,46,47,48,49,50,51,2,14,15,4] (fun g=> [(4,vi g)]) (fun g=> []) (fun g=>g≤i∧(∀q,q<g→ ¬ClK (l.getD i x7_) (l.getD q x7_))) (fun g=>i - g) 0 rfl rfl ?_ ?_
  ·exact⟨Nat.zero_le _,fun p hp=>absurd hp (Nat.not_lt_zero _)⟩
  intro k jk hk
  refine kv ?_
  obtain⟨hk,hpk⟩:=hk
  by_cases hkt:k<i
  ·have hd1:decide ((k:Int)< (i:Int))=true:=decide_eq_true (by omega)
   have ixk:=hr.idx true k (show k<l.length by omega)
   have ldk:=aa8_ hr (show k<l.length by omega)
   have htk:=ht _ (gm k (by omega))
   have next: ¬ClK (l.getD i x7_) (l.getD k x7_)→ ∀q,q<k+1→ ¬ClK (l.getD i x7_) (l.getD q x7_):=fun h q hq=>by
    by_cases e:q=k
    ·subst e;exact h
    ·exact hpk q (by omega)
   generalize l.getD i x7_=a at*
   generalize hb:l.getD k x7_=b at*
   first|with_reducible refine ks [] (And.intro @jP_ @hd1) ?_|refine kp (And.intro @jP_ @hd1) ?_
   by_cases hab:a=b
   ·have eab:decide (a=b)=true:=decide_eq_true hab
    refine Cw.regionS [rb] [0,1,2,4,5,6,3,7,8,9,10,11,12,13,14,15,16,17,18,19,20,21,22,23,24,25,26,29,30,31,27,32,28,33,34,35] [] (by kernel_rfl) (by kernel_rfl) (by kernel_rfl) ?_
    simp only[zg_, ↓zc_, ↓za_, ↓zl_, ↓zk_,zb_]
    refine Ow.goQ ?_
    simp(disch:=(first|assumption|omega| (simp only[je_,jc_,UInt64.reduceToNat];try omega))) only[↓Sx.S0,Sx.S1,Tryz.fx,jP_,Nat.reduceAdd,Nat.reducePow,Int.reducePow,Nat.reduceBEq, ↓reduceIte,UInt8.reduceToNat,UInt16.reduceToNat,UInt32.reduceToNat,UInt64.reduceToNat,Int.reduceToNat,ixi,rd,ldi,ixk,ldk,eab,Bool.not_true]
    exact Again.mk (k+1) (by omega) ⟨hkt,next fun h=>h.1 hab⟩ rfl rfl
   ·have eab:decide (a=b)=false:=decide_eq_false hab
    refine Cw.regionS [rb] [0,1,2,4,5,6,3,7,8,9,10,11,12,13,14,15,16,17,18,19,20,21,22,23,24,25,26,29,30,31,27,32,28,33,34,35] [] (by kernel_rfl) (by kernel_rfl) (by kernel_rfl) ?_
    simp only[zg_, ↓zc_, ↓za_, ↓zl_, ↓zk_,zb_]
    refine Ow.goQ ?_
    simp(disch:=(first|assumption|omega| (simp only[je_,jc_,UInt64.reduceToNat];try omega))) only[↓Sx.S0,Sx.S1,Tryz.fx,jP_,Nat.reduceAdd,Nat.reducePow,Int.reducePow,Nat.reduceBEq, ↓reduceIte,UInt8.reduceToNat,UInt16.reduceToNat,UInt32.reduceToNat,UInt64.reduceToNat,Int.reduceToNat,ixi,rd,ldi,ixk,ldk,eab,Bool.not_false]
    refine Ow.soft rfl rfl rfl ?_
    refine Ow.callFV rfl Tryz.call19 (fun w' hw'=>QA_ a.k a.t w') ?_
    rw[←XF_,show xA_ a.k a.t=rdK a from rfl]
    with_reducible refine Ow.nil ?_
    refine⟨by intro b hb;simp only[List.mem_cons,List.not_mem_nil,or_false] at hb;(try subst hb);rfl, ?_⟩
    cases hra:rdK a with
    |false=>
     refine kq @jP_ ?_
     try with_reducible refine Ow.nil ?_
     first|with_reducible refine ks [] @jP_ ?_|refine kp @jP_ ?_
     exact Again.mk (k+1) (by omega) ⟨hkt,next fun h=>by have:=h.2.1;rw[hra] at this;cases this⟩ rfl rfl
    |true=>
     refine kq (And.intro @jP_ (And.intro @ixi (And.intro @rd (And.intro @ldi (And.intro @ixk (@ldk)))))) ?_
     refine Ow.soft rfl rfl rfl ?_
     refine Ow.callFV rfl Tryz.call19 (fun w' hw'=>QA_ b.k b.t w') ?_
     rw[←XF_,show xA_ b.k b.t=rdK b from rfl]
     with_reducible refine Ow.nil ?_
     refine⟨by intro b hb;simp only[List.mem_cons,List.not_mem_nil,or_false] at hb;(try subst hb);rfl, ?_⟩
     cases hrb:rdK b with
     |false=>
      refine kq @jP_ ?_
      try with_reducible refine Ow.nil ?_
      first|with_reducible refine ks [] @jP_ ?_|refine kp @jP_ ?_
      exact Again.mk (k+1) (by omega) ⟨hkt,next fun h=>by have:=h.2.2.1;rw[hrb] at this;cases this⟩ rfl rfl
     |true=>
      refine kq (And.intro @jP_ (And.intro @ixi (And.intro @rd (And.intro @ldi (And.intro @ixk (@ldk)))))) ?_
      refine Ow.soft rfl rfl rfl ?_
      refine Ow.callFV rfl Tryz.call20 (fun w' hw'=>acQ_ a.k a.t w' (by omega)) ?_
      rw[alP_ hra]
      with_reducible refine Ow.nil ?_
      refine⟨by intro b hb;simp only[List.mem_cons,List.not_mem_nil,or_false] at hb;(try subst hb);rfl, ?_⟩
      refine kq (And.intro @jP_ (And.intro @ixi (And.intro @rd (And.intro @ldi (And.intro @ixk (@ldk)))))) ?_
      refine Ow.soft rfl rfl rfl ?_
      refine Ow.callFV rfl Tryz.call20 (fun w' hw'=>acQ_ b.k b.t w' (by omega)) ?_
      rw[alP_ hrb]
      with_reducible refine Ow.nil ?_
      refine⟨by intro b hb;simp only[List.mem_cons,List.not_mem_nil,or_false] at hb;(try subst hb);rfl, ?_⟩
      refine kq @jP_ ?_
      cases hq: ((idK a).l==(idK b).l) with
      |false=>
       try with_reducible refine Ow.nil ?_
       first|with_reducible refine ks [] @jP_ ?_|refine kp @jP_ ?_
       exact Again.mk (k+1) (by omega) ⟨hkt,next fun h=>by rw[h.2.2.2] at hq;simp at hq⟩ rfl rfl
      |true=>
       try with_reducible refine Ow.nil ?_
       first|with_reducible refine ks [] @jP_ ?_|refine kp @jP_ ?_
       refine⟨_,(ke @jP_),trivial, ?_⟩
       exact⟨true,rfl,fun h=>by cases h⟩
  ·obtain rfl:k=i:=by omega
   have hd1:decide ((k:Int)< (k:Int))=false:=by simp
   first|with_reducible refine ks [] (And.intro @jP_ @hd1) ?_|refine kp (And.intro @jP_ @hd1) ?_
   refine Again.mk (k+1) (by omega) ⟨hlt,fun p hp q hq=> ?_⟩ rfl rfl
   by_cases e:p=k
   ·subst e;exact hpk q hq
   ·exact hpi p (by omega) q hq
 ·obtain rfl:i=l.length:=by omega
  have hd0:decide ((l.length:Int)< (l.length:Int))=false:=by simp
  first|with_reducible refine ks [] (And.intro @jP_ (And.intro @ln (@hd0))) ?_|refine kp (And.intro @jP_ (And.intro @ln (@hd0))) ?_
  refine⟨_,(ke @jP_),trivial, ?_⟩
  exact⟨false,rfl,fun _=>ak1_ hpi⟩
end Go.Proofs
end
