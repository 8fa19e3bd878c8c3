/-
  Part 3 of the walk: contracts of the functions that the law reaches, and the calculus they stand on.
  No conditions.
-/
import Derived.Test.YtooklcgflocbcaaGreatDoorI2
namespace Go.Dig
open Go.Sx
def hexL:List UInt8:= [48,49,50,51,52,53,54,55,56,57,97,98,99,100,101,102]
def Kg_ (b:UInt8):Int:=if 48≤b.toNat∧b.toNat≤57 then(b.toNat:Int) - 48 else if 97≤b.toNat∧b.toNat≤102 then(b.toNat:Int) - 97+10 else -1
def hexD (n:Nat):UInt8:=hexL.getD n 0
def hexB (b:UInt8):List UInt8:= [hexD (b.toNat / 16),hexD (b.toNat%16)]
def hexV (id:List UInt8):List UInt8:=id.flatMap hexB
def Qh_ (id:List UInt8) (g:Nat):List UInt8:=hexV (id.take g)++List.replicate (64 - 2*g) 0
theorem wC_ (id:List UInt8): (hexV id).length=2*id.length:=by
 induction id with
 |nil=>rfl
 |cons b r ih=>simp only[hexV,List.flatMap_cons,List.length_append] at ih ⊢;rw[ih];simp[hexB];omega
theorem Za_ (id:List UInt8) (g:Nat) (h:id.length=32) (hg:g≤32): (Qh_ id g).length=64:=by
 simp[Qh_,wC_,h];omega
theorem ab9_ (id:List UInt8) (g:Nat) (h:id.length=32) (hg:g<32) (x y:UInt8) (hx:x=hexD ((id.getD g 0).toNat / 16)) (hy:y=hexD ((id.getD g 0).toNat%16)):
  ((Qh_ id g).set (2*g) x).set (2*g+1) y=Qh_ id (g+1):=by
 have hl: (hexV (id.take g)).length=2*g:=by rw[wC_];simp;omega
 have hr:List.replicate (64 - 2*g) (0:UInt8)=0::0::List.replicate (64 - 2* (g+1)) 0:=by
  have:64 - 2*g=(64 - 2* (g+1))+1+1:=by omega
  rw[this];rfl
 have ht:id.take (g+1)=id.take g++ [id.getD g 0]:=by
  rw[List.take_add_one]
  simp[List.getD_eq_getElem?_getD,h,hg]
 have key: ∀ (p q:List UInt8) (a b:UInt8),((p++a::b::q).set p.length x).set (p.length+1) y=p++x::y::q:=by
  intro p q a b
  induction p with
  |nil=>rfl
  |cons c r ih=>simp only[List.cons_append,List.length_cons,List.set_cons_succ,ih]
 unfold Qh_
 rw[ht,hr,←hl,key]
 simp[hexV,hexB,hx,hy]
theorem aeu_ (id:List UInt8) (h:id.length=32):Qh_ id 32=hexV id:=by
 simp[Qh_,List.take_of_length_le (show id.length≤32 by omega)]
theorem amR_ (b:UInt8): (xV_ b 4).toNat<16:=by
 have:=b.toNat_lt
 rw[xV_,UInt8.toNat_ofNat'];omega
theorem ajn_ (b:UInt8): (b&&&15).toNat<16:=by
 rw[UInt8.toNat_and]
 exact Nat.lt_of_le_of_lt Nat.and_le_right (by decide)
theorem alW_ (b:UInt8):hexL.getD (xV_ b 4).toNat 0=hexD (b.toNat / 16):=by
 have:=b.toNat_lt
 rw[xV_,UInt8.toNat_ofNat',Nat.mod_eq_of_lt (by omega)];rfl
theorem akj_ (b:UInt8):hexL.getD (b&&&15).toNat 0=hexD (b.toNat%16):=by
 rw[UInt8.toNat_and]
 have:b.toNat&&& (15:UInt8).toNat=b.toNat%16:=Nat.and_two_pow_sub_one_eq_mod b.toNat 4
 rw[this];rfl
def ak6_ (l:List UInt8) (n:Nat):List UInt8:=(List.range n).map fun i=>UInt8.ofInt (Kg_ (l.getD (2*i) 0)*16+Kg_ (l.getD (2*i+1) 0))
def apn_ (l:List UInt8):Bool:=l.length==64&&l.all fun c=>decide (0≤Kg_ c)
def apG_ (l:List UInt8):List UInt8:=if apn_ l then ak6_ l 32 else List.replicate 32 0
def aot_ (l:List UInt8) (g:Nat):List UInt8:=ak6_ l g++List.replicate (32 - g) 0
def refB (l:List UInt8) (i k:Nat):UInt8:=
 if 2*k+1<i then UInt8.ofInt (Kg_ (l.getD (2*k) 0)*16+Kg_ (l.getD (2*k+1) 0)) else if 2*k<i then UInt8.ofInt (Kg_ (l.getD (2*k) 0)) else 0
def apX_ (l:List UInt8) (i:Nat):List UInt8:=(List.range 32).map (refB l i)
def rgt (x:UInt32) (n:UInt64):UInt32:=qe_ x n.toNat|||jR_ x (32 - n).toNat
def rol (x:UInt32) (k:Int):UInt32:=jR_ x (UInt64.ofInt k&&&31).toNat|||qe_ x (32 - (UInt64.ofInt k&&&31)).toNat
def ag7_ (x:UInt32) (a b c:Int):UInt32:=rol x (-a)^^^rol x (-b)^^^qe_ x c.toNat
def afU_ (x:UInt32) (a b c:Int):UInt32:=rol x (-a)^^^rol x (-b)^^^rol x (-c)
def S1 (e:UInt32):UInt32:=rgt e 6^^^rgt e 11^^^rgt e 25
def S0 (a:UInt32):UInt32:=rgt a 2^^^rgt a 13^^^rgt a 22
def s1 (y:UInt32):UInt32:=rgt y 17^^^rgt y 19^^^qe_ y 10
def s0 (x:UInt32):UInt32:=rgt x 7^^^rgt x 18^^^qe_ x 3
theorem rol6 (x:UInt32):rol x (-6)=rgt x 6:=by unfold rol rgt;rw[UInt32.or_comm];rfl
theorem apf_ (x:UInt32):rol x (-11)=rgt x 11:=by unfold rol rgt;rw[UInt32.or_comm];rfl
theorem aoQ_ (x:UInt32):rol x (-25)=rgt x 25:=by unfold rol rgt;rw[UInt32.or_comm];rfl
theorem rol2 (x:UInt32):rol x (-2)=rgt x 2:=by unfold rol rgt;rw[UInt32.or_comm];rfl
theorem aph_ (x:UInt32):rol x (-13)=rgt x 13:=by unfold rol rgt;rw[UInt32.or_comm];rfl
theorem apa_ (x:UInt32):rol x (-22)=rgt x 22:=by unfold rol rgt;rw[UInt32.or_comm];rfl
theorem app_ (x:UInt32):rol x (-17)=rgt x 17:=by unfold rol rgt;rw[UInt32.or_comm];rfl
theorem aoR_ (x:UInt32):rol x (-19)=rgt x 19:=by unfold rol rgt;rw[UInt32.or_comm];rfl
theorem rol7 (x:UInt32):rol x (-7)=rgt x 7:=by unfold rol rgt;rw[UInt32.or_comm];rfl
theorem apl_ (x:UInt32):rol x (-18)=rgt x 18:=by unfold rol rgt;rw[UInt32.or_comm];rfl
theorem apd_ (x:UInt32):afU_ x 6 11 25=S1 x:=by unfold afU_ S1;rw[rol6,apf_,aoQ_]
theorem aoY_ (x:UInt32):afU_ x 2 13 22=S0 x:=by unfold afU_ S0;rw[rol2,aph_,apa_]
theorem ao6_ (x:UInt32):ag7_ x 17 19 10=s1 x:=by unfold ag7_ s1;rw[app_,aoR_];rfl
theorem aoZ_ (x:UInt32):ag7_ x 7 18 3=s0 x:=by unfold ag7_ s0;rw[rol7,apl_];rfl
def kL:List UInt32:= [1116352408,1899447441,3049323471,3921009573,961987163,1508970993,2453635748,2870763221,3624381080,310598401,607225278,1426881987,1925078388,2162078206,2614888103,3248222580,3835390401,4022224774,264347078,604807628,770255983,1249150122,1555081692,1996064986,2554220882,2821834349,2952996808,3210313671,3336571891,3584528711,113926993,338241895,666307205,773529912,1294757372,1396182291,1695183700,1986661051,2177026350,2456956037,2730485921,2820302411,3259730800,3345764771,3516065817,3600352804,4094571909,275423344,430227734,506948616,659060556,883997877,958139571,1322822218,1537002063,1747873779,1955562222,2024104815,2227730452,2361852424,2428436474,2756734187,3204031479,3329325298]
def initL:List UInt32:= [1779033703,3144134277,1013904242,2773480762,1359893119,2600822924,528734635,1541459225]
def ajB_ (b:List UInt8) (i:Nat):UInt32:=
 UInt32.ofNat (b.getD (4*i) 0).toNat*16777216+UInt32.ofNat (b.getD (4*i+1) 0).toNat*65536+UInt32.ofNat (b.getD (4*i+2) 0).toNat*256+UInt32.ofNat (b.getD (4*i+3) 0).toNat
def Ks_ (b:List UInt8) (i:Nat):List UInt32:=(List.range 64).map fun j=>if j<i then ajB_ b j else 0
theorem wN_ (b:List UInt8) (i:Nat): (Ks_ b i).length=64:=by simp[Ks_]
theorem agC_ (b:List UInt8) (i:Nat): (Ks_ b i).set i (ajB_ b i)=Ks_ b (i+1):=by
 apply List.ext_getElem
 ·simp[Ks_]
 intro k hk1 hk2
 have hk:k<64:=by simpa [Ks_] using hk2
 rw[List.getElem_set]
 by_cases h:i=k
 ·subst h;simp[Ks_]
 ·rw[if_neg h]
  simp only[Ks_,List.getElem_map,List.getElem_range]
  by_cases h1:k<i
  ·rw[if_pos h1,if_pos (by omega)]
  ·rw[if_neg h1,if_neg (by omega)]
theorem afV_ (b:List UInt8):Ks_ b 0=List.replicate 64 0:=by
 apply List.ext_getElem
 ·simp[Ks_]
 intro k hk1 hk2
 simp only[Ks_,List.getElem_map,List.getElem_range,List.getElem_replicate]
 rw[if_neg (by omega)]
def akF_ (w:List UInt32) (g:Nat):List UInt32:=w.set g (s1 (w.getD (g - 2) 0)+w.getD (g - 7) 0+s0 (w.getD (g - 15) 0)+w.getD (g - 16) 0)
def wGo (w:List UInt32):Nat→List UInt32
 |0=>w
 |n+1=>akF_ (wGo w n) (16+n)
theorem X8_ (w:List UInt32) (n:Nat): (wGo w n).length=w.length:=by
 induction n with
 |zero=>rfl
 |succ n ih=>simp[wGo,akF_,ih]
def wAll (b:List UInt8):List UInt32:=wGo (Ks_ b 16) 48
theorem aaH_ (b:List UInt8): (wAll b).length=64:=by rw[wAll,X8_,wN_]
def alu_ (s:List UInt32) (k w:UInt32):List UInt32:=
 let t:=s.getD 7 0+S1 (s.getD 4 0)+ (s.getD 4 0&&&s.getD 5 0||| ~~~ s.getD 4 0&&&s.getD 6 0)+k+w
 let u:=S0 (s.getD 0 0)+ (s.getD 0 0&&&s.getD 1 0|||s.getD 0 0&&&s.getD 2 0|||s.getD 1 0&&&s.getD 2 0)
 [t+u,s.getD 0 0,s.getD 1 0,s.getD 2 0,s.getD 3 0+t,s.getD 4 0,s.getD 5 0,s.getD 6 0]
def rGo (st w:List UInt32):Nat→List UInt32
 |0=>st
 |n+1=>alu_ (rGo st w n) (kL.getD n 0) (w.getD n 0)
theorem aeg_ (st w:List UInt32) (n:Nat) (h:st.length=8): (rGo st w n).length=8:=by
 cases n with
 |zero=>exact h
 |succ n=>rfl
def kj_ (st s:List UInt32) (i:Nat):List UInt32:=(List.range 8).map fun j=>if j<i then st.getD j 0+s.getD j 0 else st.getD j 0
theorem Zs_ (st s:List UInt32) (i:Nat): (kj_ st s i).length=8:=by simp[kj_]
theorem afe_ (st s:List UInt32) (i j:Nat) (hj:j<8): (kj_ st s i).getD j 0=if j<i then st.getD j 0+s.getD j 0 else st.getD j 0:=by
 simp[kj_,List.getD_eq_getElem?_getD,hj]
theorem acA_ (st s:List UInt32) (i:Nat): (kj_ st s i).set i (st.getD i 0+s.getD i 0)=kj_ st s (i+1):=by
 apply List.ext_getElem
 ·simp[kj_]
 intro k hk1 hk2
 rw[List.getElem_set]
 by_cases h:i=k
 ·subst h;simp[kj_]
 ·rw[if_neg h]
  simp only[kj_,List.getElem_map,List.getElem_range]
  by_cases h1:k<i
  ·rw[if_pos h1,if_pos (by omega)]
  ·rw[if_neg h1,if_neg (by omega)]
theorem abJ_ (st s:List UInt32) (h:st.length=8):kj_ st s 0=st:=by
 apply List.ext_getElem
 ·simp[kj_,h]
 intro k hk1 hk2
 simp[kj_,List.getD_eq_getElem?_getD,hk2]
def comp (st:List UInt32) (b:List UInt8):List UInt32:=kj_ st (rGo st (wAll b) 64) 8
theorem aaR_ (st:List UInt32) (b:List UInt8): (comp st b).length=8:=Zs_ _ _ _
def XG_ (st:List UInt32) (m:List UInt8):Nat→List UInt32
 |0=>st
 |n+1=>comp (XG_ st m n) ((m.drop (64*n)).take 64)
theorem WQ_ (st:List UInt32) (m x:List UInt8) (n:Nat) (h:64*n≤m.length):XG_ st (m++x) n=XG_ st m n:=by
 induction n with
 |zero=>rfl
 |succ n ih=>
  simp only[XG_]
  rw[ih (by omega),List.drop_append_of_le_length (by omega),List.take_append_of_le_length (by simp;omega)]
def vm_ (bg:Bool) (st:List UInt32) (rest:List UInt8) (many:Int) (taken:UInt64):List Value:=
 .bool bg:: (st.map (fun x=>Value.int .u32 (x.toNat:Int))++ (rest.map (fun x=>Value.int .u8 (x.toNat:Int))++ [vi many,v64 taken]))
def zI_ (bg:Bool) (st:List UInt32) (rest:List UInt8) (many:Int) (taken:UInt64):Array Value:=(vm_ bg st rest many taken).toArray
section
variable {bg:Bool} {st:List UInt32} {rest:List UInt8} {many:Int} {taken:UInt64} {E:TypeId}
theorem jv_ (h:st.length=8∧rest.length=64): (zI_ bg st rest many taken).size=75:=by simp[zI_,vm_,h]
theorem ahs_: (zI_ bg st rest many taken)[0]? =some (.bool bg):=rfl
theorem agI_ (k:Nat) (hk:k<8) (h:st.length=8): (zI_ bg st rest many taken)[1+k]? =some (v32 (st.getD k 0)):=by
 have:1+k=k+1:=by omega
 rw[this,zI_,List.getElem?_toArray,vm_,List.getElem?_cons_succ,List.getElem?_append_left (by simp;omega)]
 simp[v32,List.getD_eq_getElem?_getD,h,hk]
theorem aag_ (k:Nat) (hk:k<64) (h:st.length=8∧rest.length=64): (zI_ bg st rest many taken)[9+k]? =some (v8 (rest.getD k 0)):=by
 have:9+k=(8+k)+1:=by omega
 rw[this,zI_,List.getElem?_toArray,vm_,List.getElem?_cons_succ,List.getElem?_append_right (by simp;omega),List.getElem?_append_left (by simp;omega)]
 have e:8+k - (List.map (fun x:UInt32=>Value.int .u32 (x.toNat:Int)) st).length=k:=by simp;omega
 rw[e]
 simp[v8,List.getD_eq_getElem?_getD,h,hk]
theorem aha_ (h:st.length=8∧rest.length=64): (zI_ bg st rest many taken)[73]? =some (vi many):=by
 rw[zI_,List.getElem?_toArray,vm_,List.getElem?_cons_succ,List.getElem?_append_right (by simp;omega),List.getElem?_append_right (by simp;omega)]
 simp[h]
theorem ahz_ (h:st.length=8∧rest.length=64): (zI_ bg st rest many taken)[74]? =some (v64 taken):=by
 rw[zI_,List.getElem?_toArray,vm_,List.getElem?_cons_succ,List.getElem?_append_right (by simp;omega),List.getElem?_append_right (by simp;omega)]
 simp[h]
theorem v9_ (n:Nat):zo_ (some (false,n)) (some (.cells (zI_ bg st rest many taken) E (0,0))) 0=some (.bool bg):=ahs_
theorem v1_ (n k:Nat) (h:k<8∧st.length=8):zo_ (some (false,n)) (some (.cells (zI_ bg st rest many taken) E (0,0))) (1+k)=some (v32 (st.getD k 0)):=agI_ k h.1 h.2
theorem wi_ (n k:Nat) (h:k<64∧st.length=8∧rest.length=64):zo_ (some (false,n)) (some (.cells (zI_ bg st rest many taken) E (0,0))) (9+k)=some (v8 (rest.getD k 0)):=aag_ k h.1 h.2
theorem vc_ (n j k:Nat) (h:j+k<64∧st.length=8∧rest.length=64):zo_ (some (false,n)) (some (.cells (zI_ bg st rest many taken) E (0,0))) (9+j+k)=some (v8 (rest.getD (j+k) 0)):=by
 rw[Nat.add_assoc];exact aag_ (j+k) h.1 h.2
theorem wg_ (n:Nat) (h:st.length=8∧rest.length=64):zo_ (some (false,n)) (some (.cells (zI_ bg st rest many taken) E (0,0))) 73=some (vi many):=aha_ h
theorem v6_ (n:Nat) (h:st.length=8∧rest.length=64):zo_ (some (false,n)) (some (.cells (zI_ bg st rest many taken) E (0,0))) 74=some (v64 taken):=ahz_ h
theorem k6_ (h:st.length=8∧rest.length=64):zo_ (some (true,8)) (some (.cells (zI_ bg st rest many taken) E (0,0))) 1=some (.agg (a32 st)):=by
 have hs:1+8≤ (zI_ bg st rest many taken).size:=by rw[jv_ h];omega
 simp only[zo_,hs, ↓reduceIte]
 congr 2
 rw[zI_,a32,vm_]
 simp only[List.extract_toArray,List.extract_eq_take_drop]
 congr 1
 simp[h]
theorem ki_ (h:st.length=8∧rest.length=64):zo_ (some (true,75)) (some (.cells (zI_ bg st rest many taken) E (0,0))) 0=some (.agg (zI_ bg st rest many taken)):=kY_ _ _ _ _ (jv_ h)
theorem ajg_: (zI_ bg st rest many taken).toList.all Value.oneCell'=true:=by
 simp[zI_,vm_,Value.oneCell',vi,v64]
theorem jK_ (old:Array Value) (h:st.length=8∧rest.length=64∧old.size=75):zl_ (some (true,75)) (some (.cells old E (0,0))) 0 (.agg (zI_ bg st rest many taken))=some (.cells (zI_ bg st rest many taken) E (0,0)):=
 Zy_ _ _ _ _ _ ⟨jv_ ⟨h.1,h.2.1⟩,h.2.2⟩ ajg_
theorem vO_ (i:Nat) (v:Value): (zI_ bg st rest many taken).setIfInBounds i v=((vm_ bg st rest many taken).set i v).toArray:=by simp[zI_]
theorem kZ_ (b:Bool) (h:st.length=8∧rest.length=64):zl_ (some (false,1)) (some (.cells (zI_ bg st rest many taken) E (0,0))) 0 (.bool b)=some (.cells (zI_ b st rest many taken) E (0,0)):=by
 rw[xT_ _ _ _ _ _ (by rw[jv_ h];omega) rfl rfl,vO_];rfl
theorem vb_ (k:Nat) (x:UInt32) (h:k<8∧st.length=8∧rest.length=64):zl_ (some (false,1)) (some (.cells (zI_ bg st rest many taken) E (0,0))) (1+k) (v32 x)=some (.cells (zI_ bg (st.set k x) rest many taken) E (0,0)):=by
 have e:1+k=k+1:=by omega
 rw[xT_ _ _ _ _ _ (by rw[jv_ h.2];omega) rfl rfl,vO_,e,vm_,List.set_cons_succ,List.set_append_left _ _ (by simp;omega)]
 simp only[zI_,vm_,List.map_set];rfl
theorem k1_ (k:Nat) (x:UInt8) (h:k<64∧st.length=8∧rest.length=64):zl_ (some (false,1)) (some (.cells (zI_ bg st rest many taken) E (0,0))) (9+k) (v8 x)=some (.cells (zI_ bg st (rest.set k x) many taken) E (0,0)):=by
 have e:9+k=(8+k)+1:=by omega
 rw[xT_ _ _ _ _ _ (by rw[jv_ h.2];omega) rfl rfl,vO_,e,vm_,List.set_cons_succ,List.set_append_right _ _ (by simp;omega),List.set_append_left _ _ (by simp;omega)]
 have e2:8+k - (List.map (fun x:UInt32=>Value.int .u32 (x.toNat:Int)) st).length=k:=by simp;omega
 rw[e2]
 simp only[zI_,vm_,List.map_set];rfl
theorem vd_ (m:Int) (h:st.length=8∧rest.length=64):zl_ (some (false,1)) (some (.cells (zI_ bg st rest many taken) E (0,0))) 73 (vi m)=some (.cells (zI_ bg st rest m taken) E (0,0)):=by
 rw[xT_ _ _ _ _ _ (by rw[jv_ h];omega) rfl rfl,vO_,vm_,List.set_cons_succ,List.set_append_right _ _ (by simp;omega),List.set_append_right _ _ (by simp;omega)]
 simp[zI_,vm_,h]
theorem k5_ (t:UInt64) (h:st.length=8∧rest.length=64):zl_ (some (false,1)) (some (.cells (zI_ bg st rest many taken) E (0,0))) 74 (v64 t)=some (.cells (zI_ bg st rest many t) E (0,0)):=by
 rw[xT_ _ _ _ _ _ (by rw[jv_ h];omega) rfl rfl,vO_,vm_,List.set_cons_succ,List.set_append_right _ _ (by simp;omega),List.set_append_right _ _ (by simp;omega)]
 simp[zI_,vm_,h]
theorem kk_ (st':List UInt32) (h:st.length=8∧rest.length=64∧st'.length=8):zl_ (some (true,8)) (some (.cells (zI_ bg st rest many taken) E (0,0))) 1 (.agg (a32 st'))=some (.cells (zI_ bg st' rest many taken) E (0,0)):=by
 have hs:1+8≤ (zI_ bg st rest many taken).size:=by rw[jv_ ⟨h.1,h.2.1⟩];omega
 have hp:wf_ (zI_ bg st rest many taken) 1 (a32 st').toList=zI_ bg st' rest many taken:=by
  have:=KM_ (a32 st').toList [.bool bg] (st.map fun x=>Value.int .u32 (x.toNat:Int)) (rest.map (fun x=>Value.int .u8 (x.toNat:Int))++ [vi many,v64 taken]) (by simp[a32,h])
  simpa [zI_,vm_,a32] using this
 have h1: (a32 st').size=8:=by rw[Zv_];exact h.2.2
 simp only[zl_,zd_,h1,hs,Nat.le_refl,true_or,afZ_,and_self, ↓reduceIte,hp]
end
def acc (b:List UInt8) (i:Nat):Nat→UInt32
 |0=>0
 |k+1=>jR_ (acc b i k) 8|||UInt32.ofNat (b.getD (4*i+k) 0).toNat
theorem Qz_ (x:UInt32) (c:UInt8) (h:x.toNat<16777216): (jR_ x 8|||UInt32.ofNat c.toNat).toNat=x.toNat*256+c.toNat:=by
 have hc:=c.toNat_lt
 rw[UInt32.toNat_or,jR_,UInt32.toNat_ofNat',UInt32.toNat_ofNat',Nat.mod_eq_of_lt (by omega),Nat.mod_eq_of_lt (by omega),←Nat.shiftLeft_eq,←Nat.shiftLeft_add_eq_or_of_lt (by omega:c.toNat<2^8),Nat.shiftLeft_eq]
theorem aji_ (b:List UInt8) (i:Nat):acc b i 4=ajB_ b i:=by
 have h0:=(b.getD (4*i) 0).toNat_lt
 have h1:=(b.getD (4*i+1) 0).toNat_lt
 have h2:=(b.getD (4*i+2) 0).toNat_lt
 have h3:=(b.getD (4*i+3) 0).toNat_lt
 have e1: (acc b i 1).toNat=(b.getD (4*i) 0).toNat:=by
  have:=Qz_ 0 (b.getD (4*i+0) 0) (by decide)
  simpa [acc] using this
 have l1: (acc b i 1).toNat<16777216:=by omega
 have e2: (acc b i 2).toNat=(acc b i 1).toNat*256+ (b.getD (4*i+1) 0).toNat:=Qz_ _ _ l1
 have l2: (acc b i 2).toNat<16777216:=by omega
 have e3: (acc b i 3).toNat=(acc b i 2).toNat*256+ (b.getD (4*i+2) 0).toNat:=Qz_ _ _ l2
 have l3: (acc b i 3).toNat<16777216:=by omega
 have e4: (acc b i 4).toNat=(acc b i 3).toNat*256+ (b.getD (4*i+3) 0).toNat:=Qz_ _ _ l3
 apply UInt32.toNat.inj
 rw[e4,e3,e2,e1]
 unfold ajB_
 simp only[UInt32.toNat_add,UInt32.toNat_mul,UInt32.toNat_ofNat']
 have k1: (16777216:UInt32).toNat=16777216:=rfl
 have k2: (65536:UInt32).toNat=65536:=rfl
 have k3: (256:UInt32).toNat=256:=rfl
 rw[k1,k2,k3]
 omega
theorem ahu_ (b:List UInt8) (g:Nat):Ks_ b g=(Ks_ b g).set g (acc b g 0):=by
 apply List.ext_getElem
 ·simp
 intro k hk1 hk2
 rw[List.getElem_set]
 by_cases h:g=k
 ·subst h;simp[Ks_,acc]
 ·rw[if_neg h]
theorem jf_ {α:Type} (l:List α) (i:Nat) (x d:α) (h:i<l.length): (l.set i x).getD i d=x:=by
 simp[List.getD_eq_getElem?_getD,h]
def wG (b:List UInt8) (g:Nat):List UInt32:=wGo (Ks_ b 16) (g - 16)
theorem afJ_ (b:List UInt8) (g:Nat): (wG b g).length=64:=by rw[wG,X8_,wN_]
theorem al6_ (b:List UInt8) (g:Nat) (h:16≤g):wG b (g+1)=akF_ (wG b g) g:=by
 unfold wG
 have:g+1 - 16=(g - 16)+1:=by omega
 rw[this]
 show akF_ _ (16+ (g - 16))=_
 rw[show 16+ (g - 16)=g from by omega]
theorem anO_ (b:List UInt8):wG b 64=wAll b:=rfl
theorem akC_ (b:List UInt8):Ks_ b 16=wG b 16:=rfl
theorem anE_ (a b c:UInt32): (a&&&b^^^ ~~~a&&&c)=(a&&&b||| ~~~a&&&c):=by
 apply UInt32.toBitVec_inj.1
 simp only[UInt32.toBitVec_xor,UInt32.toBitVec_or,UInt32.toBitVec_and,UInt32.toBitVec_not]
 ext i hi
 simp only[BitVec.getElem_xor,BitVec.getElem_or,BitVec.getElem_and,BitVec.getElem_not]
 cases a.toBitVec[i]<;>simp
theorem alH_ (a b c:UInt32): (a&&&b^^^a&&&c^^^b&&&c)=(a&&&b|||a&&&c|||b&&&c):=by
 apply UInt32.toBitVec_inj.1
 simp only[UInt32.toBitVec_xor,UInt32.toBitVec_or,UInt32.toBitVec_and]
 ext i hi
 simp only[BitVec.getElem_xor,BitVec.getElem_or,BitVec.getElem_and]
 cases a.toBitVec[i]<;>cases b.toBitVec[i]<;>simp
def Glob (w:World):Prop:= ∃e0 e1 f0 f1,w.heap[0]? =some (.cells (a32 initL) e0 f0)∧w.heap[1]? =some (.cells (a32 kL) e1 f1)
theorem Glob.of {w0 w:World} {L:za_} (hg:Glob w0) (h:Hp w0 L w) (hk: ∀b,b∈keys L→1<b):Glob w:=by
 obtain⟨e0,e1,f0,f1,h0,h1⟩:=hg
 refine⟨e0,e1,f0,f1, ?_, ?_⟩
 ·rw[h.old 0 (Array.getElem?_eq_some_iff.1 h0).1 (fun hm=>by have:=hk 0 hm;omega)];exact h0
 ·rw[h.old 1 (Array.getElem?_eq_some_iff.1 h1).1 (fun hm=>by have:=hk 1 hm;omega)];exact h1
structure Hs where
 st:List UInt32
 rest:List UInt8
 many:Nat
structure Hs.Ok (s:Hs):Prop where
 st:s.st.length=8
 rest:s.rest.length=64
 many:s.many<64
def JZ_ (s:Hs) (x:UInt8):Hs:=
 if s.many+1=64 then⟨comp s.st (s.rest.set s.many x),s.rest.set s.many x,0⟩ else⟨s.st,s.rest.set s.many x,s.many+1⟩
theorem Vw_ {s:Hs} (x:UInt8) (h:s.Ok): (JZ_ s x).Ok:=by
 unfold JZ_
 split
 ·exact⟨aaR_ _ _,by simp[h.rest],by show(0:Nat)<64;omega⟩
 ·exact⟨h.st,by simp[h.rest],by show s.many+1<64;have:=h.many;omega⟩
def qP_ (s:Hs) (l:List UInt8):Hs:=l.foldl JZ_ s
theorem k3_ {s:Hs} (l:List UInt8) (h:s.Ok): (qP_ s l).Ok:=by
 induction l generalizing s with
 |nil=>exact h
 |cons x r ih=>exact ih (Vw_ x h)
theorem jE_ (s:Hs) (a b:List UInt8):qP_ s (a++b)=qP_ (qP_ s a) b:=List.foldl_append
theorem kx_ {α:Type} (l:List α) (g:Nat) (d:α) (h:g<l.length):l.take (g+1)=l.take g++ [l.getD g d]:=by
 rw[List.take_add_one]
 simp[List.getD_eq_getElem?_getD,h]
theorem X5_ (s:Hs) (l:List UInt8) (g:Nat) (h:g<l.length):qP_ s (l.take (g+1))=JZ_ (qP_ s (l.take g)) (l.getD g 0):=by
 rw[kx_ l g 0 h,jE_];rfl
def wn_ (bg:Bool) (s:Hs):Hs:=if bg then s else{s with st:=initL}
theorem VW_ {s:Hs} (bg:Bool) (h:s.Ok): (wn_ bg s).Ok:=by
 unfold wn_;split
 ·exact h
 ·exact⟨rfl,h.rest,h.many⟩
def ky_ (s:Hs) (taken:UInt64):Array Value:=zI_ true s.st s.rest s.many taken
def kF_ (t:UInt64) (l:List (List UInt8)):UInt64:=l.foldl (fun t a=>t+UInt64.ofNat a.length) t
theorem abq_ (t:UInt64) (l:List (List UInt8)) (g:Nat) (h:g<l.length):kF_ t (l.take (g+1))=kF_ t (l.take g)+UInt64.ofNat (l.getD g []).length:=by
 rw[kx_ l g [] h,kF_,List.foldl_append];rfl
theorem W5_ (l:List (List UInt8)) (g:Nat) (h:g<l.length): (l.take (g+1)).flatten=(l.take g).flatten++l.getD g []:=by
 rw[kx_ l g [] h,List.flatten_append];simp
theorem loadV_one (cs:Array Value) (E:TypeId) (fz:Nat×Nat) (n i:Nat):zo_ (some (false,n)) (some (.cells cs E fz)) i=cs[i]? :=(rfl)
structure Strs (w:World) (v:Value) (l:List (List UInt8)):Prop where
 nil_or: (l= []∧v= .slice none 0 0)∨ ∃b off c arr E fz,v=vsl b off l.length c∧w.heap[b]? =some (.cells arr E fz)∧ ∀i,i<l.length→arr[off+i]? =some (vs (l.getD i []))
end Go.Dig
section
open Go Go.Proofs Go.Sx Go.Dig
namespace Go.Proofs
set_option maxRecDepth 10000
set_option maxHeartbeats 4000000
set_option linter.unusedSimpArgs false
def GlobE (w:World):Prop:= ∃e0 e1 f0 f1,w.heap[2]? =some (.cells (a32 initL) e0 f0)∧w.heap[3]? =some (.cells (a32 kL) e1 f1)
theorem GlobE.of {w0 w:World} {L:za_} (hg:GlobE w0) (h:Hp w0 L w) (hk: ∀b,b∈keys L→3<b):GlobE w:=by
 obtain⟨e0,e1,f0,f1,h0,h1⟩:=hg
 refine⟨e0,e1,f0,f1, ?_, ?_⟩
 ·rw[h.old _ (Array.getElem?_eq_some_iff.1 h0).1 (fun hm=>by have:=hk _ hm;omega)];exact h0
 ·rw[h.old _ (Array.getElem?_eq_some_iff.1 h1).1 (fun hm=>by have:=hk _ hm;omega)];exact h1
theorem vr_ (x:UInt32) (k:Int) (w:World):Rets Tryz.prog 243 #[v32 x,vi k] w (fun v D=>v=v32 (rol x k)∧D= []):=by
 refine Rets.enterV Tryz.func243 rfl (rs:= [.tmp 4]) Tryz.results243 Tryz.ntmps243 ?_
 refine kf ?_
 first|with_reducible refine ks [] @Nat.add_zero ?_|refine kp @Nat.add_zero ?_
 refine⟨_,(ke @Nat.add_zero),trivial, ?_⟩
 rfl
theorem VU_ (x:UInt32) (a b c:Int) (ha:0≤a∧a≤64) (hb:0≤b∧b≤64) (hc:0≤c∧c≤64) (w:World):Rets Tryz.prog 239 #[v32 x,vi a,vi b,vi c] w (fun v D=>v=v32 (ag7_ x a b c)∧D= []):=by
 refine Rets.enterV Tryz.func239 rfl (rs:= [.tmp 8]) Tryz.results239 Tryz.ntmps239 ?_
 refine kf ?_
 first|with_reducible refine ks [] @Nat.add_zero ?_|refine kp @Nat.add_zero ?_
 refine Cw.regionO [0,1,2,4,5,6,9,10,11,3,7,8,12,13] [] rfl (by kernel_rfl) (by kernel_rfl) ?_
 simp only[zk_, ↓ze_, ↓zc_, ↓zt_, ↓zs_,zb_]
 refine kq @Nat.add_zero ?_
 refine Ow.callFV rfl Tryz.call243 (fun w' hw'=>vr_ _ _ w') ?_
 refine kq @Nat.add_zero ?_
 refine Ow.callFV rfl Tryz.call243 (fun w' hw'=>vr_ _ _ w') ?_
 refine kq @Nat.add_zero ?_
 first|with_reducible refine ks [] @Nat.add_zero ?_|refine kp @Nat.add_zero ?_
 refine⟨_,(ke @Nat.add_zero),trivial, ?_⟩
 rfl
theorem WC_ (x:UInt32) (a b c:Int) (ha:0≤a∧a≤64) (hb:0≤b∧b≤64) (hc:0≤c∧c≤64) (w:World):Rets Tryz.prog 240 #[v32 x,vi a,vi b,vi c] w (fun v D=>v=v32 (afU_ x a b c)∧D= []):=by
 refine Rets.enterV Tryz.func240 rfl (rs:= [.tmp 8]) Tryz.results240 Tryz.ntmps240 ?_
 refine kf ?_
 first|with_reducible refine ks [] @Nat.add_zero ?_|refine kp @Nat.add_zero ?_
 refine Ow.callFV rfl Tryz.call243 (fun w' hw'=>vr_ _ _ w') ?_
 refine ko @Nat.add_zero ?_
 refine Ow.callFV rfl Tryz.call243 (fun w' hw'=>vr_ _ _ w') ?_
 refine ko @Nat.add_zero ?_
 refine Ow.callFV rfl Tryz.call243 (fun w' hw'=>vr_ _ _ w') ?_
 refine ko @Nat.add_zero ?_
 first|with_reducible refine ks [] @Nat.add_zero ?_|refine kp @Nat.add_zero ?_
 refine⟨_,(ke @Nat.add_zero),trivial, ?_⟩
 rfl
end Go.Proofs
end
section
open Go Go.Proofs Go.Sx Go.Dig
namespace Go.Proofs
set_option maxRecDepth 10000
set_option maxHeartbeats 4000000
set_option linter.unusedSimpArgs false
set_option linter.defProp false
def z7_:=And.intro (And.intro (And.intro (And.intro (@v9_) (@v1_)) (And.intro (@wi_) (@vc_))) (And.intro (And.intro (@wg_) (@v6_)) (And.intro (@k6_) (@ki_)))) (And.intro (And.intro (And.intro (@jK_) (@kZ_)) (And.intro (@vb_) (@k1_))) (And.intro (And.intro (@vd_) (@k5_)) (And.intro (@kk_) (@jf_))))
theorem ah7_ (b:Nat) (bg:Bool) (st:List UInt32) (rest:List UInt8) (many:Int) (taken:UInt64) (w:World) (hG:GlobE w) (hb:3<b) (hs:st.length=8) (hr:rest.length=64)
  (ho:w.heap[b]? =some (.cells (zI_ bg st rest many taken) 260 (0,0))):
  Rets Tryz.prog 232 #[vp b 0] w (fun v D=> ∃o,D= [(b,o)]∧v= .tuple #[]∧o= .cells (zI_ bg (comp st rest) rest 0 taken) 260 (0,0)):=by
 obtain⟨e0,e1,f0,f1,h0,h1⟩:=hG
 have hbl:=(Array.getElem?_eq_some_iff.1 ho).1
 have hkl:kL.length=64:=rfl
 refine Rets.enterM Tryz.func232 rfl (rs:= []) Tryz.results232 Tryz.ntmps232 ho ?_
 refine kf ?_
 first|with_reducible refine ks [] @z7_ ?_|refine kp @z7_ ?_
 refine Ow.alloc rfl rfl Tryz.zr274 fun b1 hb1 hw1=> ?_
 obtain⟨h01,-⟩:=hb1
 refine ko @z7_ ?_
 first|with_reducible refine ks [] @z7_ ?_|refine kp @z7_ ?_
 rw[←afV_ rest]
 refine Cw.loopG (G:=Nat) [14,15,3,16,17,18,19,20,21,22,23,24,25,26,27,28,29,5,30,31,32,33,34,35,36,37,38,39,40,13] (fun g=> [(13,vi g)]) (fun g=> [(b, .cells (zI_ bg st rest many taken) 260),(b1, .cells (a32 (Ks_ rest g)) 274)]) (fun g=>g≤16) (fun g=>16 - g) 0 rfl rfl ?_ ?_
 ·omega
 intro g j hg
 refine kv ?_
 have hlen:=wN_ rest g
 by_cases hlt:g<16
 ·first|with_reducible refine ks [] @z7_ ?_|refine kp @z7_ ?_
  rw[ahu_ rest g]
  refine Cw.loopG (G:=Nat) [27,28,29,5,30,31,32,33,34,35,36,37,38,39,26] (fun k=> [(26,vi k)]) (fun k=> [(b, .cells (zI_ bg st rest many taken) 260 (0,0)),(b1, .cells (a32 ((Ks_ rest g).set g (acc rest g k))) 274 (0,0))]) (fun k=>k≤4) (fun k=>4 - k) 0 rfl rfl ?_ ?_
  ·omega
  intro k jk hk
  refine kv ?_
  by_cases hk4:k<4
  ·first|with_reducible refine ks [] @z7_ ?_|refine kp @z7_ ?_
   exact Again.mk (k+1) (by omega) (by omega) rfl rfl
  ·have hk:k=4:=by omega
   subst hk
   first|with_reducible refine ks [] @z7_ ?_|refine kp @z7_ ?_
   refine Again.mk (g+1) (by omega) (by omega) ?_ rfl
   rw[aji_,agC_]
 ·have hg16:g=16:=by omega
  subst hg16
  first|with_reducible refine ks [] @z7_ ?_|refine kp @z7_ ?_
  rw[akC_]
  refine Cw.loopG (G:=Nat) [41,42,45,46,47,48,49,50,51,52,53,54,55,56,57,58,59,60,61,62,63,64,65,66,67,43,44,6] (fun g=> [(6,vi g)]) (fun g=> [(b, .cells (zI_ bg st rest many taken) 260 (0,0)),(b1, .cells (a32 (wG rest g)) 274)]) (fun g=>16≤g∧g≤64) (fun g=>64 - g) 16 rfl rfl ?_ ?_
  ·omega
  intro g j hg
  refine kv ?_
  obtain⟨hg1,hg2⟩:=hg
  have hlen:=afJ_ rest g
  by_cases hlt:g<64
  ·first|with_reducible refine ks [] @z7_ ?_|refine kp @z7_ ?_
   refine Cw.regionO [0,1,2,3,6,7,8,11,12,13,17,18,19,4,9,14,20,5,10,15,16,21,22,23] [23] rfl (by kernel_rfl) (by kernel_rfl) ?_
   simp only[zk_, ↓ze_, ↓zc_, ↓zt_, ↓zs_,zb_]
   refine kq @z7_ ?_
   refine Ow.callFV rfl Tryz.call239 (fun w' hw'=>VU_ _ _ _ _ (by omega) (by omega) (by omega) w') ?_
   refine kq @z7_ ?_
   refine Ow.callFV rfl Tryz.call239 (fun w' hw'=>VU_ _ _ _ _ (by omega) (by omega) (by omega) w') ?_
   refine kq @z7_ ?_
   refine Ow.store rfl rfl rfl (ke @z7_) ?_
   refine ko @z7_ ?_
   first|with_reducible refine ks [] @z7_ ?_|refine kp @z7_ ?_
   refine Again.mk (g+1) (by omega) (by omega) ?_ rfl
   rw[al6_ rest g hg1,ao6_,aoZ_];rfl
  ·have hg64:g=64:=by omega
   subst hg64
   rw[anO_]
   have hwl:=aaH_ rest
   first|with_reducible refine ks [] (And.intro @z7_ @h1) ?_|refine kp (And.intro @z7_ @h1) ?_
   refine Ow.alloc rfl rfl Tryz.zr244 fun b2 hb2 hw2=> ?_
   obtain⟨h02,h12,-⟩:=hb2
   refine ko (And.intro @z7_ @h1) ?_
   first|with_reducible refine ks [] (And.intro @z7_ @h1) ?_|refine kp (And.intro @z7_ @h1) ?_
   refine Cw.loopG (G:=Nat) [74,75,76,8,9,77,78,79,80,81,82,83,84,85,86,87,88,89,90,91,92,93,94,95,96,97,98,99,100,101,10,102,103,104,105,106,107,108,109,110,111,112,113,114,115,116,117,118,119,120,121,122,11,123,124,125,126,127,128,129,130,131,132,133,134,135,136,137,138,139,140,141,142,143,73] (fun g=> [(73,vi g)]) (fun g=> [(b, .cells (zI_ bg st rest many taken) 260 (0,0)),(b1, .cells (a32 (wAll rest)) 274),(b2, .cells (a32 (rGo st (wAll rest) g)) 244)]) (fun g=>g≤64) (fun g=>64 - g) 0 rfl rfl ?_ ?_
   ·omega
   ·intro g j hg
    refine kv ?_
    have hrl:=aeg_ st (wAll rest) g hs
    by_cases hlt:g<64
    ·first|with_reducible refine ks [] @z7_ ?_|refine kp @z7_ ?_
     refine Cw.regionO [0,2,6,8,11,14,19,21,22,1,3,7,9,10,12,13,15,16,17,23,4,5,18,20,24,25] [] rfl (by kernel_rfl) (by kernel_rfl) ?_
     simp only[zk_, ↓ze_, ↓zc_, ↓zt_, ↓zs_,zb_]
     refine kq @z7_ ?_
     refine Ow.callFV rfl Tryz.call240 (fun w' hw'=>WC_ _ _ _ _ (by omega) (by omega) (by omega) w') ?_
     refine kq @z7_ ?_
     first|with_reducible refine ks [] @z7_ ?_|refine kp @z7_ ?_
     refine Cw.regionO [0,3,5,8,10,14,16,1,4,6,7,9,11,12,13,15,17,18,19,2,20,21] [] rfl (by kernel_rfl) (by kernel_rfl) ?_
     simp only[zk_, ↓ze_, ↓zc_, ↓zt_, ↓zs_,zb_]
     refine kq @z7_ ?_
     refine Ow.callFV rfl Tryz.call240 (fun w' hw'=>WC_ _ _ _ _ (by omega) (by omega) (by omega) w') ?_
     refine kq @z7_ ?_
     first|with_reducible refine ks [] @z7_ ?_|refine kp @z7_ ?_
     rw[apd_,aoY_,anE_,alH_]
     refine Ow.build (.agg (a32 (alu_ (rGo st (wAll rest) g) (kL.getD g 0) ((wAll rest).getD g 0)))) rfl (by kernel_rfl) ?_
     have hrl2: (alu_ (rGo st (wAll rest) g) (kL.getD g 0) ((wAll rest).getD g 0)).length=8:=rfl
     refine ko @z7_ ?_
     first|with_reducible refine ks [] @z7_ ?_|refine kp @z7_ ?_
     exact Again.mk (g+1) (by omega) (by omega) rfl rfl
    ·have hg64:g=64:=by omega
     subst hg64
     first|with_reducible refine ks [] @z7_ ?_|refine kp @z7_ ?_
     rw[←abJ_ st (rGo st (wAll rest) 64) hs]
     refine Cw.loopG (G:=Nat) [145,146,12,147,148,149,150,151,152,153,154,155,156,157,158,159,160,144] (fun k=> [(144,vi k)]) (fun k=> [(b, .cells (zI_ bg (kj_ st (rGo st (wAll rest) 64) k) rest many taken) 260 (0,0)),(b1, .cells (a32 (wAll rest)) 274),(b2, .cells (a32 (rGo st (wAll rest) 64)) 244)]) (fun k=>k≤8) (fun k=>8 - k) 0 rfl rfl ?_ ?_
     ·omega
     intro k jk hk
     refine kv ?_
     have hal:=Zs_ st (rGo st (wAll rest) 64) k
     by_cases hk8:k<8
     ·first|with_reducible refine ks [] @z7_ ?_|refine kp @z7_ ?_
      refine Cw.regionO [0,1,2,3,4,6,7,10,11,5,8,9,12,13] [13] rfl (by kernel_rfl) (by kernel_rfl) ?_
      simp only[zk_, ↓ze_, ↓zc_, ↓zt_, ↓zs_,zb_]
      refine kq @z7_ ?_
      refine Ow.store rfl rfl rfl (ke @z7_) ?_
      refine ko @z7_ ?_
      first|with_reducible refine ks [] @z7_ ?_|refine kp @z7_ ?_
      refine Again.mk (k+1) (by omega) (by omega) ?_ rfl
      rw[←acA_,afe_ _ _ _ _ (by omega),if_neg (by omega)]
     ·have hk8':k=8:=by omega
      subst hk8'
      first|with_reducible refine ks [] @z7_ ?_|refine kp @z7_ ?_
      refine⟨_,_,_,(ke @z7_),rfl,⟨hw1,hw2,trivial⟩, ?_⟩
      exact⟨rfl,rfl⟩
end Go.Proofs
end
section
open Go Go.Proofs Go.Sx Go.Dig
namespace Go.Proofs
set_option maxRecDepth 10000
set_option maxHeartbeats 1000000
set_option linter.unusedSimpArgs false
theorem ah0_ (n:Nat):UInt64.ofInt (n:Int)=UInt64.ofNat n:=by
 apply UInt64.toNat.inj
 rw[show UInt64.ofInt (n:Int)=UInt64.ofNat ((n:Int)%2^64).toNat from rfl,UInt64.toNat_ofNat',UInt64.toNat_ofNat']
 omega
theorem alD_ (b o:Nat):qu_ Tryz.prog .eql 295 (vp b o) (.pointer none)=some (.bool false):=by
 simp[qu_,eqX,qm_,qt_,Tryz.underlying295,vp]
theorem agk_:qu_ Tryz.prog .eql 295 (.pointer none) (.pointer none)=some (.bool true):=by
 simp[qu_,eqX,qm_,qt_,Tryz.underlying295]
theorem ag1_ (b o:Nat):qu_ Tryz.prog .neq 295 (vp b o) (.pointer none)=some (.bool true):=by
 simp[qu_,eqX,qm_,qt_,Tryz.underlying295,vp]
theorem abO_:qu_ Tryz.prog .neq 295 (.pointer none) (.pointer none)=some (.bool false):=by
 simp[qu_,eqX,qm_,qt_,Tryz.underlying295]
set_option linter.defProp false
def qY_:=And.intro (And.intro (And.intro (And.intro (@v9_) (@v1_)) (And.intro (@wi_) (And.intro (@vc_) (@wg_)))) (And.intro (And.intro (@v6_) (@k6_)) (And.intro (@ki_) (And.intro (@jK_) (@kZ_))))) (And.intro (And.intro (And.intro (@vb_) (@k1_)) (And.intro (@vd_) (And.intro (@k5_) (@kk_)))) (And.intro (And.intro (@jf_) (@alD_)) (And.intro (@agk_) (And.intro (@ag1_) (@abO_)))))
theorem X1_ (b:Nat) (bg:Bool) (st:List UInt32) (rest:List UInt8) (many:Int) (taken:UInt64) (w:World) (hG:GlobE w) (hb:3<b) (hs:st.length=8) (hr:rest.length=64)
  (ho:w.heap[b]? =some (.cells (zI_ bg st rest many taken) 260 (0,0))):
  Rets Tryz.prog 214 #[vp b 0] w (fun v D=> ∃o,D= [(b,o)]∧v= .tuple #[]∧o= .cells (zI_ true (if bg then st else initL) rest many taken) 260 (0,0)):=by
 obtain⟨e0,e1,f0,f1,h0,h1⟩:=hG
 have hil:initL.length=8:=rfl
 refine Rets.enterM Tryz.func214 rfl (rs:= []) Tryz.results214 Tryz.ntmps214 ho ?_
 refine kf ?_
 cases bg
 ·first|with_reducible refine ks [] (And.intro @qY_ @h0) ?_|refine kp (And.intro @qY_ @h0) ?_
  refine⟨_,_,_,(ke @qY_),rfl,trivial, ?_⟩
  exact⟨rfl,rfl⟩
 ·first|with_reducible refine ks [] (And.intro @qY_ @h0) ?_|refine kp (And.intro @qY_ @h0) ?_
  refine⟨_,_,_,(ke @qY_),rfl,trivial, ?_⟩
  exact⟨rfl,rfl⟩
theorem QE_ (b:Nat) (s:Hs) (taken:UInt64) (x:UInt8) (w:World) (hG:GlobE w) (hb:3<b) (hs:s.Ok)
  (ho:w.heap[b]? =some (.cells (ky_ s taken) 260 (0,0))):
  Rets Tryz.prog 215 #[vp b 0,v8 x] w (fun v D=> ∃o,D= [(b,o)]∧v= .tuple #[]∧o= .cells (ky_ (JZ_ s x) taken) 260 (0,0)):=by
 obtain⟨st,rest,many⟩:=s
 obtain⟨hst,hrt,hmn⟩:=hs
 simp only[ky_] at ho hst hrt hmn ⊢
 refine Rets.enterM Tryz.func215 rfl (rs:= []) Tryz.results215 Tryz.ntmps215 ho ?_
 refine kf ?_
 first|with_reducible refine ks [] @qY_ ?_|refine kp @qY_ ?_
 refine Cw.regionO [0,1,2,3,5,6,7,4,8,9] [9] rfl (by kernel_rfl) (by kernel_rfl) ?_
 simp only[zk_, ↓ze_, ↓zc_, ↓zt_, ↓zs_,zb_]
 refine kq @qY_ ?_
 refine Ow.store rfl rfl rfl (ke @qY_) ?_
 refine ko @qY_ ?_
 first|with_reducible refine ks [] @qY_ ?_|refine kp @qY_ ?_
 unfold JZ_
 by_cases h64:many+1=64
 ·simp only[h64, ↓reduceIte]
  have h64': (many:Int)+1=64:=by omega
  have h63:many=63:=by omega
  subst h63
  rw[am6_ _ _ _ _ _ _ (by omega)]
  first|with_reducible refine ks [] @qY_ ?_|refine kp @qY_ ?_
  refine Ow.callM rfl rfl Tryz.call232 (by simp[keys]) (fun w' hw'=>ah7_ _ _ _ _ _ _ w' (GlobE.of hG hw' (by simp[keys];omega)) hb hst (by simp[hrt]) (hw'.has _ _ List.mem_cons_self)) ?_
  refine ko @qY_ ?_
  first|with_reducible refine ks [] @qY_ ?_|refine kp @qY_ ?_
  refine⟨_,_,_,(ke @qY_),rfl,trivial, ?_⟩
  exact⟨rfl,rfl⟩
 ·rw[am9_ _ _ _ _ _ _ (by omega)]
  simp only[h64, ↓reduceIte]
  first|with_reducible refine ks [] @qY_ ?_|refine kp @qY_ ?_
  refine⟨_,_,_,(ke @qY_),rfl,trivial, ?_⟩
  exact⟨rfl,by rw[if_neg h64];simp⟩
theorem aaA_ (b:Nat) (bg:Bool) (s:Hs) (taken:UInt64) (x:Value) (b2 off:Nat) (l:List (List UInt8)) (arr:Array Value) (E:TypeId) (fz:Nat×Nat) (w:World) (hG:GlobE w) (hb:3<b) (hs:s.Ok) (hne:0<l.length→b≠b2)
  (hS:StrS w x l b2 off arr E fz) (hn:l.length<1099511627776) (hz: ∀i,i<l.length→(l.getD i []).length<1099511627776)
  (ho:w.heap[b]? =some (.cells (zI_ bg s.st s.rest s.many taken) 260 (0,0))):
  Rets Tryz.prog 180 #[vp b 0,x] w (fun v D=> ∃o,D= [(b,o)]∧v= .tuple #[]∧o= .cells (ky_ (qP_ (wn_ bg s) l.flatten) (kF_ taken l)) 260 (0,0)):=by
 obtain⟨e0,e1,f0,f1,h0,h1⟩:=id hG
 obtain⟨st,rest,many⟩:=s
 obtain⟨hst,hrt,hmn⟩:=id hs
 simp only[ky_] at ho hst hrt hmn ⊢
 refine Rets.enterM Tryz.func180 rfl (rs:= []) Tryz.results180 Tryz.ntmps180 ho ?_
 refine kf ?_
 first|with_reducible refine ks [] @qY_ ?_|refine kp @qY_ ?_
 refine Ow.callM rfl rfl Tryz.call214 (by simp[keys]) (fun w' hw'=>X1_ _ _ _ _ _ _ w' (GlobE.of hG hw' (by simp[keys];omega)) hb hst hrt (hw'.has _ _ List.mem_cons_self)) ?_
 refine ko @qY_ ?_
 ((try with_reducible refine Cw.go [] ?_);(try simp(disch:=(first|assumption|omega| (simp only[jW_,jX_,UInt64.reduceToNat];try omega))) only[↓Sx.S0,Sx.S1,Tryz.fx,qY_,Nat.reduceAdd,Nat.reducePow,Int.reducePow,Nat.reduceBEq, ↓reduceIte,UInt8.reduceToNat,UInt16.reduceToNat,UInt32.reduceToNat,UInt64.reduceToNat,Int.reduceToNat,hS.len]))
 have e:zI_ true (if bg=true then st else initL) rest many taken=ky_ (qP_ (wn_ bg ⟨st,rest,many⟩) (l.take 0).flatten) (kF_ taken (l.take 0)):=by cases bg<;>rfl
 rw[e]
 have hok0:=VW_ bg hs
 generalize wn_ bg ⟨st,rest,many⟩=S0 at*
 refine Cw.loopG (G:=Nat) [14,15,16,5,17,18,19,20,21,6,22,23,24,25,26,27,28,29,30,31,32,33,34,35,36,37,38,13] (fun g=> [(13,vi g)]) (fun g=> [(b, .cells (ky_ (qP_ S0 (l.take g).flatten) (kF_ taken (l.take g))) 260 (0,0))]) (fun g=>g≤l.length) (fun g=>l.length - g) 0 rfl rfl ?_ ?_
 ·omega
 intro g j hg
 refine kv ?_
 by_cases hlt:g<l.length
 ·have hlg:=hS.get g hlt
  have hb2:=hS.has (by omega)
  have hne2:=hne (by omega)
  have hzg:=hz g hlt
  ((try with_reducible refine Cw.go [] ?_);(try simp(disch:=(first|assumption|omega| (simp only[jW_,jX_,UInt64.reduceToNat];try omega))) only[↓Sx.S0,Sx.S1,Tryz.fx,qY_,Nat.reduceAdd,Nat.reducePow,Int.reducePow,Nat.reduceBEq, ↓reduceIte,UInt8.reduceToNat,UInt16.reduceToNat,UInt32.reduceToNat,UInt64.reduceToNat,Int.reduceToNat,Sx.loadV_one,hb2,hlg,hS.idx]))
  have hok:=k3_ (l.take g).flatten hok0
  rw[show ky_ (qP_ S0 (l.take g).flatten) (kF_ taken (l.take g))=ky_ (qP_ (qP_ S0 (l.take g).flatten) ((l.getD g []).take 0)) (kF_ taken (l.take g)) from rfl]
  refine Cw.loopG (G:=Nat) [20,21,6,22,23,24,25,26,27,19] (fun k=> [(19,vi k)]) (fun k=> [(b, .cells (ky_ (qP_ (qP_ S0 (l.take g).flatten) ((l.getD g []).take k)) (kF_ taken (l.take g))) 260 (0,0))]) (fun k=>k≤ (l.getD g []).length) (fun k=>(l.getD g []).length - k) 0 rfl rfl ?_ ?_
  ·omega
  intro k jk hk
  refine kv ?_
  by_cases hlk:k< (l.getD g []).length
  ·first|with_reducible refine ks [] @qY_ ?_|refine kp @qY_ ?_
   refine Ow.callM rfl rfl Tryz.call215 (by simp[keys]) (fun w' hw'=>QE_ _ _ _ _ w' (GlobE.of hG hw' (by simp[keys];omega)) hb (k3_ _ hok) (hw'.has _ _ List.mem_cons_self)) ?_
   refine ko @qY_ ?_
   first|with_reducible refine ks [] @qY_ ?_|refine kp @qY_ ?_
   refine Again.mk (k+1) (by omega) (by omega) ?_ rfl
   rw[X5_ _ _ _ hlk]
  ·have hke:k=(l.getD g []).length:=by omega
   subst hke
   have hok2:=k3_ (l.getD g []) hok
   have hok3:=hok2.st
   have hok4:=hok2.rest
   rw[List.take_length]
   unfold ky_
   first|with_reducible refine ks [] @qY_ ?_|refine kp @qY_ ?_
   refine Again.mk (g+1) (by omega) (by omega) ?_ rfl
   rw[W5_ _ _ hlt,jE_,abq_ _ _ _ hlt,show UInt64.ofInt ((l.getD g []).length:Int)=UInt64.ofNat (l.getD g []).length from ah0_ _]
 ·have hge:g=l.length:=by omega
  subst hge
  first|with_reducible refine ks [] @qY_ ?_|refine kp @qY_ ?_
  rw[List.take_length]
  refine⟨_,_,_,(ke @qY_),rfl,trivial, ?_⟩
  exact⟨rfl,rfl⟩
end Go.Proofs
end
namespace Go.Dig
open Go.Sx
def Qu_ (m:Nat):Nat:=(120 - m)%64
def lenB (t:UInt64) (g:Nat):UInt8:=UInt8.ofNat (jM_ (8*t) (56 - 8*g)).toNat
def len8 (t:UInt64):List UInt8:=(List.range 8).map (lenB t)
def outB (st:List UInt32) (j:Nat):UInt8:=UInt8.ofNat (qe_ (st.getD (j / 4) 0) (24 - 8* (j%4))).toNat
def xp_ (st:List UInt32) (k:Nat):List UInt8:=(List.range 32).map fun j=>if j<k then outB st j else 0
def adG_ (s:Hs) (taken:UInt64):Hs:=qP_ (qP_ (JZ_ s 128) (List.replicate (Qu_ (JZ_ s 128).many) 0)) (len8 taken)
def hsum (s:Hs) (taken:UInt64):List UInt8:=xp_ (adG_ s taken).st 32
def H0:Hs:=⟨initL,List.replicate 64 0,0⟩
theorem aod_:H0.Ok:=⟨rfl,by simp[H0],by show(0:Nat)<64;omega⟩
def sumV (l:List (List UInt8)):List UInt8:=hsum (qP_ H0 l.flatten) (kF_ 0 l)
theorem ahS_ {s:Hs} (x:UInt8) (h:s.Ok): (JZ_ s x).many=(s.many+1)%64:=by
 have:=h.many
 unfold JZ_
 split
 ·show 0=_;omega
 ·show s.many+1=_;omega
theorem aeT_ {s:Hs} (l:List UInt8) (h:s.Ok): (qP_ s l).many=(s.many+l.length)%64:=by
 induction l generalizing s with
 |nil=>have:=h.many;show s.many=_;simp;omega
 |cons x r ih=>
  show(qP_ (JZ_ s x) r).many=_
  rw[ih (Vw_ x h),ahS_ x h,List.length_cons];omega
theorem agt_ (s:Hs) (x:UInt8) (j:Nat):qP_ s (List.replicate (j+1) x)=JZ_ (qP_ s (List.replicate j x)) x:=by
 rw[List.replicate_succ',jE_];rfl
theorem outPre_length (st:List UInt32) (k:Nat): (xp_ st k).length=32:=by simp[xp_]
theorem aaw_ (st:List UInt32):xp_ st 0=List.replicate 32 0:=by
 apply List.ext_getElem
 ·simp[xp_]
 intro k hk1 hk2
 simp only[xp_,List.getElem_map,List.getElem_range,List.getElem_replicate]
 rw[if_neg (by omega)]
theorem k2_ (st:List UInt32) (k:Nat): (xp_ st k).set k (outB st k)=xp_ st (k+1):=by
 apply List.ext_getElem
 ·simp[xp_]
 intro j hk1 hk2
 rw[List.getElem_set]
 by_cases h:k=j
 ·subst h;simp[xp_]
 ·rw[if_neg h]
  simp only[xp_,List.getElem_map,List.getElem_range]
  by_cases h1:j<k
  ·rw[if_pos h1,if_pos (by omega)]
  ·rw[if_neg h1,if_neg (by omega)]
theorem KO_ (st:List UInt32) (i r:Nat) (h:r<4):outB st (4*i+r)=UInt8.ofNat (qe_ (st.getD i 0) (24 - 8*r)).toNat:=by
 unfold outB
 rw[show(4*i+r) / 4=i by omega,show(4*i+r)%4=r by omega]
theorem aac_ (x:UInt32):qe_ x 0=x:=by
 apply UInt32.toNat.inj
 have:=x.toNat_lt
 rw[qe_,UInt32.toNat_ofNat']
 simp
theorem acw_ (st:List UInt32) (i:Nat):
  ((((xp_ st (4*i)).set (4*i) (UInt8.ofNat (qe_ (st.getD i 0) 24).toNat)).set (4*i+1) (UInt8.ofNat (qe_ (st.getD i 0) 16).toNat)).set (4*i+2) (UInt8.ofNat (qe_ (st.getD i 0) 8).toNat)).set (4*i+3) (UInt8.ofNat (st.getD i 0).toNat)=xp_ st (4* (i+1)):=by
 have h0:=KO_ st i 0 (by omega)
 have h1:=KO_ st i 1 (by omega)
 have h2:=KO_ st i 2 (by omega)
 have h3:=KO_ st i 3 (by omega)
 rw[Nat.add_zero] at h0
 rw[show 24 - 8*3=0 from rfl,aac_] at h3
 rw[←h3,←h2,←h1,←h0,k2_,k2_,k2_,k2_]
 rw[show 4* (i+1)=4*i+1+1+1+1 by omega]
theorem aaN_ (t:UInt64): (len8 t).length=8:=by simp[len8]
theorem afS_ (t:UInt64) (g:Nat) (h:g<8): (len8 t).getD g 0=lenB t g:=by simp[len8,List.getD_eq_getElem?_getD,h]
end Go.Dig
section
open Go Go.Proofs Go.Sx Go.Dig
namespace Go.Proofs
set_option maxRecDepth 10000
set_option maxHeartbeats 1000000
set_option linter.unusedSimpArgs false
set_option linter.defProp false
def q5_:=And.intro (And.intro (And.intro (And.intro (@v9_) (@v1_)) (And.intro (@wi_) (And.intro (@vc_) (@wg_)))) (And.intro (And.intro (@v6_) (@k6_)) (And.intro (@ki_) (And.intro (@jK_) (@kZ_))))) (And.intro (And.intro (And.intro (@vb_) (@k1_)) (And.intro (@vd_) (And.intro (@k5_) (@kk_)))) (And.intro (And.intro (@jf_) (@alD_)) (And.intro (@agk_) (And.intro (@ag1_) (@abO_)))))
theorem akQ_:zK_ Tryz.prog 260=some (.agg (zI_ false (List.replicate 8 0) (List.replicate 64 0) 0 0)):=id (by kernel_rfl)
theorem X9_ (bg:Bool) (st:List UInt32) (rest:List UInt8) (many:Int) (taken:UInt64):Value.cells (.agg (zI_ bg st rest many taken))=zI_ bg st rest many taken:=zd_ _
theorem wt_ {bg bg':Bool} {st st':List UInt32} {rest rest':List UInt8} {many many':Int} {taken taken':UInt64} {E:TypeId} (h:st.length=8∧rest.length=64∧st'.length=8∧rest'.length=64):
  zl_ (some (true,75)) (some (.cells (zI_ bg' st' rest' many' taken') E (0,0))) 0 (.agg (zI_ bg st rest many taken))=some (.cells (zI_ bg st rest many taken) E (0,0)):=
 jK_ _ ⟨h.1,h.2.1,jv_ h.2.2⟩
theorem agv_ (b:Nat) (bg:Bool) (s:Hs) (taken:UInt64) (w:World) (hG:GlobE w) (hb:3<b) (hs:s.Ok)
  (ho:w.heap[b]? =some (.cells (zI_ bg s.st s.rest s.many taken) 260 (0,0))):
  Rets Tryz.prog 181 #[vp b 0] w (fun v D=>v= .agg (a8 (hsum (wn_ bg s) taken))∧D= []):=by
 obtain⟨e0,e1,f0,f1,h0,h1⟩:=id hG
 obtain⟨st,rest,many⟩:=s
 obtain⟨hst,hrt,hmn⟩:=id hs
 simp only at ho hst hrt hmn ⊢
 refine Rets.enterV Tryz.func181 rfl (rs:= [.cell 2 37]) Tryz.results181 Tryz.ntmps181 ?_
 refine kf ?_
 first|with_reducible refine ks [] @q5_ ?_|refine kp @q5_ ?_
 refine Ow.alloc rfl rfl Tryz.zr37 fun b1 hb1 hw1=> ?_
 refine ko @q5_ ?_
 first|with_reducible refine ks [] @q5_ ?_|refine kp @q5_ ?_
 refine Ow.alloc rfl rfl akQ_ fun b2 hb2 hw2=> ?_
 obtain⟨h12,-⟩:=hb2
 have hbl:=(Array.getElem?_eq_some_iff.1 ho).1
 rw[X9_]
 refine ko @q5_ ?_
 first|with_reducible refine ks [] (And.intro @q5_ (And.intro @ho (@wt_))) ?_|refine kp (And.intro @q5_ (And.intro @ho (@wt_))) ?_
 refine Ow.callM rfl rfl Tryz.call214 (by simp[keys]) (fun w' hw'=>X1_ _ _ _ _ _ _ w' (GlobE.of hG hw' (by simp[keys];omega)) (by omega) hst hrt (hw'.has _ _ (List.mem_cons_of_mem _ List.mem_cons_self))) ?_
 refine ko @q5_ ?_
 first|with_reducible refine ks [] @q5_ ?_|refine kp @q5_ ?_
 have e:zI_ true (if bg=true then st else initL) rest many taken=ky_ (wn_ bg ⟨st,rest,many⟩) taken:=by cases bg<;>rfl
 rw[e]
 have hok0:=VW_ bg hs
 generalize wn_ bg ⟨st,rest,many⟩=S0 at*
 refine Ow.callM rfl rfl Tryz.call215 (by simp[keys]) (fun w' hw'=>QE_ _ _ _ 128 w' (GlobE.of hG hw' (by simp[keys];omega)) (by omega) hok0 (hw'.has _ _ (List.mem_cons_of_mem _ List.mem_cons_self))) ?_
 refine ko @q5_ ?_
 have hok1:=Vw_ 128 hok0
 have ep:adG_ S0 taken=qP_ (qP_ (JZ_ S0 128) (List.replicate (Qu_ (JZ_ S0 128).many) 0)) (len8 taken):=rfl
 unfold hsum
 rw[ep]
 generalize JZ_ S0 128=S1 at*
 first|with_reducible refine ks [] @q5_ ?_|refine kp @q5_ ?_
 rw[show ky_ S1 taken=ky_ (qP_ S1 (List.replicate 0 0)) taken from rfl]
 have hz: (S1.many+Qu_ S1.many)%64=56∧Qu_ S1.many<64:=by have:=hok1.many;unfold Qu_;omega
 refine Cw.loopG (G:=Nat) [15,16,17,18] (fun g=> []) (fun g=> [(b1, .cells (a8 (List.replicate 32 0)) 37 (0,0)),(b2, .cells (ky_ (qP_ S1 (List.replicate g 0)) taken) 260 (0,0))]) (fun g=>g≤Qu_ S1.many) (fun g=>Qu_ S1.many - g) 0 rfl rfl ?_ ?_
 ·omega
 intro g j hg
 refine kv ?_
 have hokg:=k3_ (List.replicate g 0) hok1
 have hm:=aeT_ (List.replicate g 0) hok1
 rw[List.length_replicate] at hm
 have hg1:=hokg.st
 have hg2:=hokg.rest
 by_cases hlt:g<Qu_ S1.many
 ·have hzz: (S1.many+g)%64≠56:=by have:=hok1.many;unfold Qu_ at hlt;omega
  unfold ky_
  first|with_reducible refine ks [] @q5_ ?_|refine kp @q5_ ?_
  refine Ow.callM rfl rfl Tryz.call215 (by simp[keys]) (fun w' hw'=>QE_ _ _ _ 0 w' (GlobE.of hG hw' (by simp[keys];omega)) (by omega) hokg (hw'.has _ _ (List.mem_cons_of_mem _ List.mem_cons_self))) ?_
  refine ko @q5_ ?_
  first|with_reducible refine ks [] @q5_ ?_|refine kp @q5_ ?_
  refine Again.mk (g+1) (by omega) (by omega) ?_ rfl
  rw[agt_];rfl
 ·have hge:g=Qu_ S1.many:=by omega
  subst hge
  unfold ky_
  first|with_reducible refine ks [] @q5_ ?_|refine kp @q5_ ?_
  generalize qP_ S1 (List.replicate (Qu_ S1.many) 0)=S2 at*
  rw[show zI_ true S2.st S2.rest S2.many taken=ky_ (qP_ S2 ((len8 taken).take 0)) taken from rfl]
  have h8:=aaN_ taken
  refine Cw.loopG (G:=Nat) [19,20,23,24,25,26,27,28,29,21,22,4] (fun k=> [(4,vi (56 - 8*k))]) (fun k=> [(b1, .cells (a8 (List.replicate 32 0)) 37 (0,0)),(b2, .cells (ky_ (qP_ S2 ((len8 taken).take k)) taken) 260 (0,0))]) (fun k=>k≤8) (fun k=>8 - k) 0 rfl rfl ?_ ?_
  ·omega
  intro k jk hk
  refine kv ?_
  have hokk:=k3_ ((len8 taken).take k) hokg
  have hk1:=hokk.st
  have hk2:=hokk.rest
  by_cases hk8:k<8
  ·unfold ky_
   first|with_reducible refine ks [] @q5_ ?_|refine kp @q5_ ?_
   rw[show(56 - 8* (k:Int)).toNat=56 - 8*k from by omega]
   refine Ow.callM rfl rfl Tryz.call215 (by simp[keys]) (fun w' hw'=>QE_ _ _ _ (lenB taken k) w' (GlobE.of hG hw' (by simp[keys];omega)) (by omega) hokk (hw'.has _ _ (List.mem_cons_of_mem _ List.mem_cons_self))) ?_
   refine ko @q5_ ?_
   first|with_reducible refine ks [] @q5_ ?_|refine kp @q5_ ?_
   refine Again.mk (k+1) (by omega) (by omega) ?_ ?_
   ·rw[X5_ _ _ _ (by omega),afS_ _ _ hk8];rfl
   ·rw[show(56 - 8* ((k+1:Nat):Int))=56 - 8* (k:Int) - 8 from by omega];rfl
  ·have hke:k=8:=by omega
   subst hke
   first|with_reducible refine ks [] @q5_ ?_|refine kp @q5_ ?_
   rw[List.take_of_length_le (show(len8 taken).length≤8 by omega)] at*
   generalize qP_ S2 (len8 taken)=S3 at*
   refine Ow.alloc rfl rfl Tryz.zr37 fun b3 hb3 hw3=> ?_
   obtain⟨h13,h23,-⟩:=hb3
   unfold ky_
   refine ko @q5_ ?_
   first|with_reducible refine ks [] @q5_ ?_|refine kp @q5_ ?_
   rw[show a8 (List.replicate 32 0)=a8 (xp_ S3.st (4*0)) from by rw[aaw_]]
   have h3s:=(k3_ (len8 taken) hokg).st
   have hS3:S3.st.length=8:=hk1
   refine Cw.loopG (G:=Nat) [33,34,35,6,7,36,37,38,39,40,41,42,43,44,45,46,47,48,49,50,51,52,53,54,55,56,57,58,59,60,61,62,32] (fun i=> [(32,vi i)]) (fun i=> [(b1, .cells (a8 (xp_ S3.st (4*0))) 37 (0,0)),(b2, .cells (zI_ true S3.st S3.rest S3.many taken) 260 (0,0)),(b3, .cells (a8 (xp_ S3.st (4*i))) 37 (0,0))]) (fun i=>i≤8) (fun i=>8 - i) 0 rfl rfl ?_ ?_
   ·omega
   intro i ji hi
   refine kv ?_
   have hol:=outPre_length S3.st (4*i)
   have hol0:=outPre_length S3.st (4*0)
   by_cases hi8:i<8
   ·first|with_reducible refine ks [] @q5_ ?_|refine kp @q5_ ?_
    refine Again.mk (i+1) (by omega) (by omega) ?_ rfl
    rw[acw_]
   ·have hie:i=8:=by omega
    subst hie
    first|with_reducible refine ks [] @q5_ ?_|refine kp @q5_ ?_
    rw[show 4*8=32 from rfl]
    refine⟨_,(ke @q5_),⟨hw1,hw2,hw3,trivial⟩, ?_⟩
    rfl
end Go.Proofs
end
section
open Go Go.Proofs Go.Sx Go.Dig
namespace Go.Proofs
set_option maxRecDepth 10000
set_option maxHeartbeats 1000000
set_option linter.unusedSimpArgs false
set_option linter.defProp false
def wJ_:=And.intro (And.intro (And.intro (And.intro (@v9_) (@v1_)) (And.intro (@wi_) (And.intro (@vc_) (@wg_)))) (And.intro (And.intro (@v6_) (@k6_)) (And.intro (@ki_) (And.intro (@jK_) (@kZ_))))) (And.intro (And.intro (And.intro (@vb_) (@k1_)) (And.intro (@vd_) (And.intro (@k5_) (@kk_)))) (And.intro (And.intro (@jf_) (@alD_)) (And.intro (@agk_) (And.intro (@ag1_) (@abO_)))))
theorem agG_ (x:Value) (b2 off:Nat) (l:List (List UInt8)) (arr:Array Value) (E:TypeId) (fz:Nat×Nat) (w:World) (hG:GlobE w)
  (hS:StrS w x l b2 off arr E fz) (hn:l.length<1099511627776) (hz: ∀i,i<l.length→(l.getD i []).length<1099511627776):
  Rets Tryz.prog 160 #[x] w (fun v D=>v= .agg (a8 (sumV l))∧D= []):=by
 obtain⟨e0,e1,f0,f1,h0,h1⟩:=id hG
 have hg1:3<w.heap.size:=(Array.getElem?_eq_some_iff.1 h1).1
 have hbl:0<l.length→b2<w.heap.size:=fun h=>(Array.getElem?_eq_some_iff.1 (hS.has h)).1
 refine Rets.enterV Tryz.func160 rfl (rs:= [.cell 2 37]) Tryz.results160 Tryz.ntmps160 ?_
 refine kf ?_
 first|with_reducible refine ks [] @wJ_ ?_|refine kp @wJ_ ?_
 refine Ow.alloc rfl rfl Tryz.zr37 fun b1 hb1 hw1=> ?_
 refine ko @wJ_ ?_
 first|with_reducible refine ks [] @wJ_ ?_|refine kp @wJ_ ?_
 refine Ow.alloc rfl rfl akQ_ fun b3 hb3 hw3=> ?_
 obtain⟨h13,-⟩:=hb3
 rw[X9_]
 refine ko @wJ_ ?_
 first|with_reducible refine ks [] @wJ_ ?_|refine kp @wJ_ ?_
 refine Ow.callM rfl rfl Tryz.call180 (by simp[keys]) (fun w' hw'=>aaA_ _ _ ⟨List.replicate 8 0,List.replicate 64 0,0⟩ _ _ _ _ _ _ _ _ w' (GlobE.of hG hw' (by simp[keys];omega)) (by omega) ⟨by simp,by simp,by simp⟩ (fun h=>by have:=hbl h;omega) (hS.old hw' (fun h=>by have:=hbl h;simp[keys];omega)) hn hz (hw'.has _ _ (List.mem_cons_of_mem _ List.mem_cons_self))) ?_
 refine ko @wJ_ ?_
 first|with_reducible refine ks [] @wJ_ ?_|refine kp @wJ_ ?_
 have hok:=k3_ l.flatten aod_
 have e:wn_ false ⟨List.replicate 8 0,List.replicate 64 0,0⟩=H0:=rfl
 rw[e]
 refine Ow.callFV rfl Tryz.call181 (fun w' hw'=>agv_ _ true _ _ w' (GlobE.of hG hw' (by simp[keys];omega)) (by omega) hok (hw'.has _ _ (List.mem_cons_of_mem _ List.mem_cons_self))) ?_
 have hsl: (hsum (wn_ true (qP_ H0 l.flatten)) (kF_ 0 l)).length=32:=outPre_length _ _
 refine ko @wJ_ ?_
 first|with_reducible refine ks [] @wJ_ ?_|refine kp @wJ_ ?_
 refine⟨_,(ke @wJ_),⟨hw1,hw3,trivial⟩, ?_⟩
 rfl
end Go.Proofs
end
namespace Go.Dig
open Go.Sx
def quoN (t:UInt64):Nat→UInt64
 |0=>t
 |n+1=>quoN t n / 256
def apt_ (t:UInt64) (j:Nat):UInt8:=UInt8.ofNat (jM_ t (56 - 8*j)).toNat
def apo_ (t:UInt64) (i:Nat):List UInt8:=(List.range 8).map fun j=>if 8≤j+i then apt_ t j else 0
def padR (m:List UInt8):List UInt8:=m++ [128]++List.replicate (Qu_ ((m.length+1)%64)) 0++len8 (UInt64.ofNat m.length)
def shaR (m:List UInt8):List UInt8:=xp_ (XG_ initL (padR m) ((padR m).length / 64)) 32
end Go.Dig
section
open Go Go.Proofs Go.Sx Go.Dig
namespace Go.Proofs
set_option maxRecDepth 10000
set_option maxHeartbeats 1000000
set_option linter.unusedSimpArgs false
set_option linter.defProp false
def ap3_:= @jf_
end Go.Proofs
end
section
open Go Go.Proofs Go.Sx Go.Dig
namespace Go.Proofs
set_option maxRecDepth 10000
set_option maxHeartbeats 1000000
set_option linter.unusedSimpArgs false
set_option linter.defProp false
def aqk_:= @jf_
end Go.Proofs
end
namespace Go.Dig
open Go.Sx
structure Inv (s:Hs) (p:List UInt8):Prop where
 ok:s.Ok
 st:s.st=XG_ initL p (p.length / 64)
 many:s.many=p.length%64
 rest:s.rest.take s.many=p.drop (64* (p.length / 64))
theorem Inv.put {s:Hs} {p:List UInt8} (h:Inv s p) (x:UInt8):Inv (JZ_ s x) (p++ [x]):=by
 obtain⟨hok,hst,hmany,hrest⟩:=h
 have hk:=Vw_ x hok
 have hm64:=hok.many
 have hrl:=hok.rest
 have hle:64* (p.length / 64)≤p.length:=by omega
 have htake: (s.rest.set s.many x).take (s.many+1)=p.drop (64* (p.length / 64))++ [x]:=by
  rw[List.take_add_one,List.take_set,←hrest]
  congr 1
  ·rw[List.set_eq_of_length_le (by simp only[List.length_take];exact Nat.min_le_left _ _)]
  ·simp[hrl,hm64]
 have hlen: (p++ [x]).length=p.length+1:=by simp
 have hc:XG_ initL (p++ [x]) (p.length / 64)=XG_ initL p (p.length / 64):=WQ_ _ _ _ _ hle
 by_cases h64:s.many+1=64
 ·have e:JZ_ s x=⟨comp s.st (s.rest.set s.many x),s.rest.set s.many x,0⟩:=by unfold JZ_;rw[if_pos h64]
  have hd: (p.length+1) / 64=p.length / 64+1:=by omega
  have hr: (s.rest.set s.many x)=p.drop (64* (p.length / 64))++ [x]:=by
   rw[←htake,h64,List.take_of_length_le (by simp[hrl])]
  refine⟨hk, ?_, ?_, ?_⟩
  ·rw[e,hlen,hd]
   show comp s.st _=comp (XG_ initL (p++ [x]) (p.length / 64)) _
   rw[hc,←hst,hr,List.drop_append_of_le_length hle,List.take_of_length_le (by simp;omega)]
  ·rw[e,hlen];show 0=_;omega
  ·rw[e,hlen]
   show List.take 0 _=_
   rw[List.take_zero,List.drop_of_length_le (by rw[hlen];omega)]
 ·have e:JZ_ s x=⟨s.st,s.rest.set s.many x,s.many+1⟩:=by unfold JZ_;rw[if_neg h64]
  have hd: (p.length+1) / 64=p.length / 64:=by omega
  refine⟨hk, ?_, ?_, ?_⟩
  ·rw[e,hlen,hd,hc];exact hst
  ·rw[e,hlen];show s.many+1=_;omega
  ·rw[e,hlen,hd]
   show List.take (s.many+1) (s.rest.set s.many x)=_
   rw[htake,List.drop_append_of_le_length hle]
theorem Inv.puts {s:Hs} {p:List UInt8} (h:Inv s p) (l:List UInt8):Inv (qP_ s l) (p++l):=by
 induction l generalizing s p with
 |nil=>rw[List.append_nil];exact h
 |cons x r ih=>
  have:=ih (h.put x)
  rw[List.append_assoc] at this
  exact this
theorem Inv.zero:Inv H0 []:=⟨aod_,rfl,rfl,rfl⟩
theorem aiY_ (p:List UInt8): (qP_ H0 p).st=XG_ initL p (p.length / 64):=(Inv.zero.puts p).st
theorem af4_ (l:List (List UInt8)) (n:Nat):kF_ (UInt64.ofNat n) l=UInt64.ofNat (n+l.flatten.length):=by
 induction l generalizing n with
 |nil=>rfl
 |cons a r ih=>
  show kF_ (UInt64.ofNat n+UInt64.ofNat a.length) r=_
  rw[←UInt64.ofNat_add,ih,List.flatten_cons,List.length_append,Nat.add_assoc]
theorem amX_ (m:List UInt8):hsum (qP_ H0 m) (UInt64.ofNat m.length)=shaR m:=by
 unfold hsum shaR
 rw[←aiY_]
 suffices h:adG_ (qP_ H0 m) (UInt64.ofNat m.length)=qP_ H0 (padR m) by rw[h]
 have hmany: (JZ_ (qP_ H0 m) 128).many=(m.length+1)%64:=by
  have:=((Inv.zero.puts m).put 128).many
  rw[this];simp
 unfold adG_ padR
 rw[hmany,jE_,jE_,jE_,show qP_ (qP_ H0 m) [128]=JZ_ (qP_ H0 m) 128 from rfl]
theorem sumV_eq (l:List (List UInt8)):sumV l=shaR l.flatten:=by
 unfold sumV
 have:=af4_ l 0
 rw[Nat.zero_add] at this
 rw[show(0:UInt64)=UInt64.ofNat 0 from rfl,this,amX_]
end Go.Dig
section
open Go Go.Proofs Go.Sx Go.StP
namespace Go.Proofs
set_option maxRecDepth 10000
set_option maxHeartbeats 400000
set_option linter.unusedSimpArgs false
theorem GlobE.new {w0 w:World} {L:za_} (hg:GlobE w0) (h:Hp w0 L w) (hn:New w0.heap.size L):GlobE w:=by
 obtain⟨e0,e1,f0,f1,h0,h1⟩:=id hg
 have:3<w0.heap.size:=(Array.getElem?_eq_some_iff.1 h1).1
 exact hg.of h fun b hb=>by have:=hn.le b hb;omega
theorem aas_ {k:Int} {t:List UInt8} (h:wP_ k t=true): (kh_ k t).length<100000:=by
 obtain⟨h1,h2,h3⟩:=agd_ h
 have hh: (wZ_ k).length≤4:=by unfold wZ_;simp only[List.length_drop,List.length_take,List.length_cons,List.length_nil];omega
 have:=zp_ (t.length:Int)
 unfold kh_ xq_
 rw[List.length_append,List.length_append]
 omega
theorem acU_ (m:List UInt8): (Dig.shaR m).length=32:=Dig.outPre_length _ _
set_option linter.defProp false
def zY_:=And.intro (And.intro (And.intro (@qQ_) (@qh_)) (And.intro (@qf_) (@qn_))) (And.intro (And.intro (@Sx.tup2_0) (@Sx.tup2_1)) (And.intro (@zg_) (@zf_)))
def idV (k:Int) (t:List UInt8):IdL:=if wP_ k t then⟨Dig.shaR (kh_ k t),acU_ _⟩ else id0
theorem V2_:qV_ (vo_ Tryz.prog 37) (zK_ Tryz.prog 37) []=some (.agg (a8 id0.l)):=id (by kernel_rfl)
theorem akc_ (k:Int) (t:List UInt8) (w:World) (hG:GlobE w):Rets Tryz.prog 126 #[obV k t] w (fun v D=>v= .tuple #[.agg (a8 (idV k t).l), .bool (wP_ k t)]∧D= []):=by
 refine Rets.enterV Tryz.func126 rfl (rs:= [.cell 2 37, .tmp 3]) Tryz.results126 Tryz.ntmps126 ?_
 refine kf ?_
 first|with_reducible refine ks [] @zY_ ?_|refine kp @zY_ ?_
 refine Ow.box rfl rfl fun b1 hb1 hw1=> ?_
 simp only[qy_,qr_,qs_,zd_,List.nil_append]
 refine ko @zY_ ?_
 refine Ow.alloc rfl rfl QS_ fun b2 hb2 hw2=> ?_
 simp only[zd_,List.nil_append,List.cons_append]
 have h12:b1<b2:=zm_ hb2 (by simp[keys])
 have hi0:=id0.h
 refine ko @zY_ ?_
 refine Ow.callC rfl rfl Tryz.call159 (fun w' hw'=>abB_ k t w') (fun B v D hA hB hN hS=> ?_)
 have hD:New w.heap.size D:=New.mono hB hN
 unfold idV
 cases hr:wP_ k t
 ·rw[hr,if_neg (by decide)] at hS
  subst hS
  have e: ((1:Int) !=0)=true:=rfl
  refine ko @zY_ ?_
  first|with_reducible refine ks [] (And.intro @zY_ @e) ?_|refine kp (And.intro @zY_ @e) ?_
  refine Ow.build (.agg (a8 id0.l)) rfl V2_ ?_
  refine ko @zY_ ?_
  first|with_reducible refine ks [] @zY_ ?_|refine kp @zY_ ?_
  refine⟨_,(ke @zY_),⟨hw1,hw2,hD⟩, ?_⟩
  rfl
 ·rw[hr,if_pos rfl] at hS
  subst hS
  have e: ((0:Int) !=0)=false:=rfl
  have hfl:=aas_ hr
  have hzl: ∀i,i< [kh_ k t].length→([kh_ k t].getD i []).length<1099511627776:=fun i hi=>by
   obtain rfl:i=0:=by simpa using hi
   show(kh_ k t).length<_;omega
  refine ko @zY_ ?_
  first|with_reducible refine ks [] (And.intro @zY_ @e) ?_|refine kp (And.intro @zY_ @e) ?_
  refine Ow.buildSlice (e:=9) #[vs (kh_ k t)] rfl rfl (by kernel_rfl) fun b15 hb15 hw15=> ?_
  refine ko @zY_ ?_
  refine Ow.callFV rfl Tryz.call160 (fun w' hw'=>agG_ _ b15 0 [kh_ k t] _ _ _ w' (hG.new hw' (by exact⟨hw1,hw2,New.app hD ⟨hw15,trivial⟩⟩)) (StrS.lit [kh_ k t] rfl rfl (hw'.has _ (.cells #[vs (kh_ k t)] 9 (0,0)) (by simp))) (by show(1:Nat)<1099511627776;omega) hzl) ?_
  rw[Dig.sumV_eq,show([kh_ k t]:List (List UInt8)).flatten=kh_ k t by simp]
  have hsl:=acU_ (kh_ k t)
  refine ko @zY_ ?_
  first|with_reducible refine ks [] @zY_ ?_|refine kp @zY_ ?_
  refine⟨_,(ke @zY_),⟨hw1,hw2,hD.app ⟨hw15,trivial⟩⟩, ?_⟩
  rfl
def apW_ (k:Int) (t:List UInt8):List UInt8:=(if k=3 then [99] else if k=2 then [116] else [98])++xq_ t
end Go.Proofs
end
section
open Go Go.Proofs Go.Sx Go.StP Go.Flo
namespace Go.Proofs
set_option maxRecDepth 10000
set_option maxHeartbeats 400000
set_option linter.unusedSimpArgs false
structure ObL where
 k:Int
 t:List UInt8
def ob0:ObL:=⟨0,[]⟩
def obC (o:ObL):List Value:= [vi o.k,vs o.t]
theorem Kx_ (o:ObL): (obC o).length=2:=rfl
theorem acq_ (o:ObL): (obC o).all Value.oneCell'=true:=rfl
def zD_ (s:List UInt8):ObL:=⟨if frOk s then frK s else 0,if frOk s then(frT s).1 else []⟩
def jY_ (s:List UInt8):IdL:=idV (zD_ s).k (zD_ s).t
def qG_:List (List UInt8)→List IdL→List ObL→Option (List IdL×List ObL)
 | [],ids,os=>some (ids,os)
 |s::r,ids,os=>if frOk s=true∧(ids.any fun y=>(jY_ s).l==y.l)=false then qG_ r (ids++ [jY_ s]) (os++ [zD_ s]) else none
def fillV (l:List PartL):Option (List IdL×List ObL):=match ZJ_ l with
 | .ok ts=>qG_ ts [] []
 | .error _=>none
theorem ZU_: ∀ (a b:List (List UInt8)) (ids:List IdL) (os:List ObL),qG_ (a++b) ids os=(qG_ a ids os).bind fun p=>qG_ b p.1 p.2
 | [],_,_,_=>rfl
 |s::a,b,ids,os=>by
  rw[List.cons_append,qG_,qG_]
  split
  ·exact ZU_ a b _ _
  ·rfl
theorem XO_: ∀ (a:List (List UInt8)) (ids:List IdL) (os:List ObL) (p:List IdL×List ObL),qG_ a ids os=some p→p.1.length=ids.length+a.length∧p.2.length=os.length+a.length
 | [],ids,os,p,h=>by cases h;simp
 |s::a,ids,os,p,h=>by
  rw[qG_] at h
  split at h
  ·have:=XO_ a _ _ p h
   simp only[List.length_append,List.length_cons,List.length_nil] at this ⊢
   omega
  ·cases h
theorem QO_ {a:List (List UInt8)} {s:List UInt8} {p:List IdL×List ObL} (h:qG_ a [] []=some p):
  qG_ (a++ [s]) [] []=if frOk s=true∧(p.1.any fun y=>(jY_ s).l==y.l)=false then some (p.1++ [jY_ s],p.2++ [zD_ s]) else none:=by
 rw[ZU_,h]
 show qG_ [s] p.1 p.2=_
 rw[qG_]
 rfl
theorem aaL_ {a b:List (List UInt8)} (h:qG_ a [] []=none):qG_ (a++b) [] []=none:=by
 rw[ZU_,h];rfl
end Go.Proofs
end
section
open Go Go.Proofs Go.Sx
namespace Go.Proofs
set_option maxRecDepth 10000
set_option maxHeartbeats 4000000
set_option linter.unusedSimpArgs false
def hvL:List UInt32:= [0x00000000,0x1db71064,0x3b6e20c8,0x26d930ac,0x76dc4190,0x6b6b51f4,0x4db26158,0x5005713c,0xedb88320,0xf00f9344,0xd6d6a3e8,0xcb61b38c,0x9b64c2b0,0x86d3d2d4,0xa00ae278,0xbdbdf21c]
def ang_ (n:UInt32):UInt32:=qe_ n 4^^^hvL.getD (n&&&15).toNat 0
def age_ (n:UInt32):Nat→UInt32
 |0=>n
 |k+1=>ang_ (age_ n k)
def ajJ_ (n:UInt32) (b:UInt8):UInt32:=age_ (n^^^UInt32.ofNat b.toNat) 2
theorem afK_ (n:UInt32): (n&&&15).toNat<16:=by
 rw[UInt32.toNat_and]
 exact Nat.lt_of_le_of_lt Nat.and_le_right (by decide)
def GlobC (w:World):Prop:= ∃e f,w.heap[(1:Nat)]? =some (.cells (a32 hvL) e f)
theorem GlobC.of {w w':World} {L:za_} (h:GlobC w) (hw:Hp w L w') (hn: (1:Nat)∉keys L):GlobC w':=by
 obtain⟨e,f,h⟩:=h
 exact⟨e,f,by rw[hw.old _ (Array.getElem?_eq_some_iff.1 h).1 hn];exact h⟩
theorem amS_:hvL.length=16:=rfl
set_option linter.defProp false
def z3_:=And.intro (And.intro (@zg_) (@we_)) (And.intro (@v7_) (And.intro (@vW_) (@zf_)))
theorem aig_ (n:UInt32) (b:UInt8) (w:World) (hG:GlobC w):
  Rets Tryz.prog 183 #[v32 n,v8 b] w (fun v D=>v=v32 (ajJ_ n b)∧D= []):=by
 obtain⟨e,f,htab⟩:=hG
 refine Rets.enterV Tryz.func183 rfl (rs:= [.tmp 4]) Tryz.results183 Tryz.ntmps183 ?_
 refine kf ?_
 first|with_reducible refine ks [] @z3_ ?_|refine kp @z3_ ?_
 unfold ajJ_
 generalize n^^^UInt32.ofNat b.toNat=m
 rw[show v32 m=v32 (age_ m 0) from rfl]
 refine Cw.loopG (G:=Nat) [10,11,12,13,14,15,16,17,0,18,9] (fun g=> [(0,v32 (age_ m g)),(9,vi g)]) (fun g=> []) (fun g=>g≤2) (fun g=>2 - g) 0 rfl rfl ?_ ?_
 ·omega
 intro g j hg
 refine kv ?_
 by_cases hlt:g<2
 ·have h15:=afK_ (age_ m g)
  have hl:=amS_
  first|with_reducible refine ks [] (And.intro @z3_ @htab) ?_|refine kp (And.intro @z3_ @htab) ?_
  refine Again.mk (g+1) (by omega) (by omega) rfl rfl
 ·obtain rfl:g=2:=by omega
  first|with_reducible refine ks [] @z3_ ?_|refine kp @z3_ ?_
  refine⟨_,(ke @z3_),trivial, ?_⟩
  rfl
def ab7_ (n:UInt32) (s:List UInt8):UInt32:=s.foldl ajJ_ n
theorem ael_ (n:UInt32) (s:List UInt8) (g:Nat) (h:g<s.length):ab7_ n (s.take (g+1))=ajJ_ (ab7_ n (s.take g)) (s.getD g 0):=by
 unfold ab7_
 rw[List.take_succ_eq_append_getElem h,List.foldl_append,List.getD_eq_getElem?_getD,List.getElem?_eq_getElem h]
 rfl
theorem agS_ (n:UInt32) (s:List UInt8) (w:World) (hG:GlobC w) (hs:s.length<1099511627776):
  Rets Tryz.prog 162 #[v32 n,vs s] w (fun v D=>v=v32 (~~~ (ab7_ (~~~ n) s))∧D= []):=by
 refine Rets.enterV Tryz.func162 rfl (rs:= [.tmp 4]) Tryz.results162 Tryz.ntmps162 ?_
 refine kf ?_
 first|with_reducible refine ks [] @z3_ ?_|refine kp @z3_ ?_
 rw[show v32 (~~~ n)=v32 (ab7_ (~~~ n) (s.take 0)) from rfl]
 refine Cw.loopG (G:=Nat) [12,13,6,14,15,16,17,18,5,19,11] (fun g=> [(5,v32 (ab7_ (~~~ n) (s.take g))),(11,vi g)]) (fun g=> []) (fun g=>g≤s.length) (fun g=>s.length - g) 0 rfl rfl ?_ ?_
 ·omega
 intro g j hg
 refine kv ?_
 by_cases hlt:g<s.length
 ·first|with_reducible refine ks [] @z3_ ?_|refine kp @z3_ ?_
  refine Ow.callFV rfl Tryz.call183 (fun w' hw'=>aig_ _ _ w' (GlobC.of hG hw' (by simp[keys]))) ?_
  refine ko @z3_ ?_
  first|with_reducible refine ks [] @z3_ ?_|refine kp @z3_ ?_
  refine Again.mk (g+1) (by omega) (by omega) rfl ?_
  rw[ael_ _ _ _ hlt]
  rfl
 ·obtain rfl:g=s.length:=by omega
  first|with_reducible refine ks [] @z3_ ?_|refine kp @z3_ ?_
  rw[List.take_length]
  refine⟨_,(ke @z3_),trivial, ?_⟩
  rfl
def crcV (s:List UInt8):UInt32:= ~~~ (ab7_ (~~~ (0:UInt32)) s)
theorem ahU_ (b:Nat) (s:List UInt8) (E:TypeId) (w:World) (hG:GlobC w) (hs:s.length<1099511627776) (ho:w.heap[b]? =some (.cells #[vs s] E (0,0))):
  Rets Tryz.prog 130 #[vsl b 0 1 1] w (fun v D=>v=v32 (crcV s)∧D= []):=by
 have hS:StrS w (vsl b 0 1 1) [s] b 0 #[vs s] E (0,0):=StrS.lit [s] rfl rfl ho
 refine Rets.enterV Tryz.func130 rfl (rs:= [.tmp 2]) Tryz.results130 Tryz.ntmps130 ?_
 refine kf ?_
 first|with_reducible refine ks [] @z3_ ?_|refine kp @z3_ ?_
 refine Cw.loopG (G:=Nat) [9,10,11,5,12,13,14,3,15,8] (fun g=> [(3,v32 (if g=0 then 0 else crcV s)),(8,vi g)]) (fun g=> []) (fun g=>g≤1) (fun g=>1 - g) 0 rfl rfl ?_ ?_
 ·omega
 intro g j hg
 refine kv ?_
 by_cases hlt:g<1
 ·obtain rfl:g=0:=by omega
  have hlg:=hS.get 0 (by simp)
  have hrd:=hS.has (by simp)
  have hix:=fun m=>hS.idx m 0 (by simp)
  ((try with_reducible refine Cw.go [] ?_);(try simp(disch:=(first|assumption|omega| (simp only[jW_,jX_,UInt64.reduceToNat];try omega))) only[↓Sx.S0,Sx.S1,Tryz.fx,z3_,Nat.reduceAdd,Nat.reducePow,Int.reducePow,Nat.reduceBEq, ↓reduceIte,UInt8.reduceToNat,UInt16.reduceToNat,UInt32.reduceToNat,UInt64.reduceToNat,Int.reduceToNat,Sx.loadV_one,hrd,hlg,hix]))
  refine Ow.callFV rfl Tryz.call162 (fun w' hw'=>agS_ 0 s w' (GlobC.of hG hw' (by simp[keys])) hs) ?_
  refine ko @z3_ ?_
  first|with_reducible refine ks [] @z3_ ?_|refine kp @z3_ ?_
  refine Again.mk 1 (by omega) (by omega) rfl rfl
 ·obtain rfl:g=1:=by omega
  first|with_reducible refine ks [] @z3_ ?_|refine kp @z3_ ?_
  refine⟨_,(ke @z3_),trivial, ?_⟩
  rfl
def JU_ (n:UInt32) (g:Nat):List UInt8:=(List.range 4).map fun j=>if j<g then UInt8.ofNat (qe_ n (8*j)).toNat else 0
def sum4 (n:UInt32):List UInt8:=JU_ n 4
theorem X4_ (n:UInt32) (g:Nat): (JU_ n g).length=4:=by simp[JU_]
theorem acF_ (n:UInt32) (g:Nat) (h:g<4): (JU_ n g).set g (UInt8.ofNat (qe_ n (8*g)).toNat)=JU_ n (g+1):=by
 have:g=0∨g=1∨g=2∨g=3:=by omega
 rcases this with rfl|rfl|rfl|rfl<;>rfl
def qE_ (s:List UInt8):List UInt8:=s++sum4 (crcV s)
theorem ZP_ (s:List UInt8) (w:World) (hG:GlobC w) (hs:s.length<1099511627776):
  Rets Tryz.prog 63 #[vs s] w (fun v D=>v=vs (qE_ s)∧D= []):=by
 have hgl: (1:Nat)<w.heap.size:=by obtain⟨e,f,h⟩:=hG;exact(Array.getElem?_eq_some_iff.1 h).1
 refine Rets.enterV Tryz.func63 rfl (rs:= [.tmp 2]) Tryz.results63 Tryz.ntmps63 ?_
 refine kf ?_
 first|with_reducible refine ks [] @z3_ ?_|refine kp @z3_ ?_
 refine Ow.buildSlice (e:=9) #[vs s] rfl rfl (by kernel_rfl) fun b1 hb1 hw1=> ?_
 refine ko @z3_ ?_
 refine Ow.callFV rfl Tryz.call130 (fun w' hw'=>ahU_ b1 s _ w' (GlobC.of hG hw' (by simp[keys];omega)) hs (hw'.has _ _ List.mem_cons_self)) ?_
 refine ko @z3_ ?_
 first|with_reducible refine ks [] @z3_ ?_|refine kp @z3_ ?_
 unfold qE_
 generalize crcV s=n
 refine Ow.alloc rfl rfl Tryz.zr204 fun b2 hb2 hw2=> ?_
 obtain⟨h12,-⟩:=hb2
 refine ko @z3_ ?_
 first|with_reducible refine ks [] @z3_ ?_|refine kp @z3_ ?_
 rw[show a8 (List.replicate 4 0)=a8 (JU_ n 0) from rfl]
 refine Cw.loopG (G:=Nat) [10,11,5,12,13,14,15,16,17,18,19,9] (fun g=> [(9,vi g)]) (fun g=> [(b1, .cells #[vs s] 9 (0,0)),(b2, .cells (a8 (JU_ n g)) 204 (0,0))]) (fun g=>g≤4) (fun g=>4 - g) 0 rfl rfl ?_ ?_
 ·omega
 intro g j hg
 refine kv ?_
 have hpl:=X4_ n g
 by_cases hlt:g<4
 ·first|with_reducible refine ks [] @z3_ ?_|refine kp @z3_ ?_
  refine Again.mk (g+1) (by omega) (by omega) ?_ rfl
  rw[acF_ n g hlt]
 ·obtain rfl:g=4:=by omega
  first|with_reducible refine ks [] @z3_ ?_|refine kp @z3_ ?_
  refine⟨_,(ke @z3_),⟨hw1,hw2,trivial⟩, ?_⟩
  rw[List.drop_zero,List.take_of_length_le (by omega)];rfl
def zn_ (s:List UInt8):List UInt8×Bool:=
 if s.length<4 then([],false) else if qE_ (s.take (s.length - 4))=s then(s.take (s.length - 4),true) else([],false)
theorem xS_ (s:List UInt8): (qE_ s).length=s.length+4:=by unfold qE_ sum4;rw[List.length_append,X4_]
theorem Qn_ (s:List UInt8) (w:World) (hG:GlobC w) (hs:s.length<1099511627776):
  Rets Tryz.prog 70 #[vs s] w (fun v D=>v= .tuple #[vs (zn_ s).1, .bool (zn_ s).2]∧D= []):=by
 refine Rets.enterV Tryz.func70 rfl (rs:= [.tmp 2, .tmp 3]) Tryz.results70 Tryz.ntmps70 ?_
 refine kf ?_
 first|with_reducible refine ks [] @z3_ ?_|refine kp @z3_ ?_
 unfold zn_
 by_cases h4:s.length<4
 ·have e1:decide ((s.length:Int)<4)=true:=decide_eq_true (by omega)
  rw[if_pos h4]
  first|with_reducible refine ks [] (And.intro @z3_ @e1) ?_|refine kp (And.intro @z3_ @e1) ?_
  refine⟨_,(ke @z3_),trivial, ?_⟩
  rfl
 ·have e1:decide ((s.length:Int)<4)=false:=decide_eq_false (by omega)
  have e2: ((s.length:Int) - 4).toNat=s.length - 4:=by omega
  rw[if_neg h4]
  first|with_reducible refine ks [] (And.intro @z3_ (And.intro @e1 (@e2))) ?_|refine kp (And.intro @z3_ (And.intro @e1 (@e2))) ?_
  refine Ow.callFV rfl Tryz.call63 (fun w' hw'=>ZP_ (s.take (s.length - 4)) w' (GlobC.of hG hw' (by simp[keys])) (by rw[List.length_take];omega)) ?_
  refine ko @z3_ ?_
  cases hq: (qE_ (s.take (s.length - 4)) !=s)
  ·rw[if_pos (by simpa using hq)]
   first|with_reducible refine ks [] (And.intro @z3_ (And.intro @hq (@e2))) ?_|refine kp (And.intro @z3_ (And.intro @hq (@e2))) ?_
   refine⟨_,(ke @z3_),trivial, ?_⟩
   rfl
  ·rw[if_neg (by simpa using hq)]
   first|with_reducible refine ks [] (And.intro @z3_ @hq) ?_|refine kp (And.intro @z3_ @hq) ?_
   refine⟨_,(ke @z3_),trivial, ?_⟩
   rfl
end Go.Proofs
end
section
open Go Go.Proofs Go.Sx Go.StP Go.Flo
namespace Go.Proofs
set_option maxRecDepth 10000
set_option maxHeartbeats 400000
set_option linter.unusedSimpArgs false
def Qr_ (i:Nat) (p:PartL):Int:=if p.d=true then(i:Int) - p.b else 0
def kE_ (i:Nat) (p:PartL):List UInt8:=qS_ (zJ_ (Qr_ i p))++xq_ p.x
def qT_:Nat→List PartL→List UInt8
 |_,[]=> []
 |i,p::r=>kE_ i p++qT_ (i+1) r
def magB:List UInt8:= [83,80,75,49]
def kq_ (l:List PartL):List UInt8:=magB++ (qS_ (zJ_ (l.length:Int))++qT_ 0 l)
def vs_ (s:List UInt8) (i a:Nat) (e:Int):PartL×Nat×Int:=
 (⟨decide (0< (zq_ s a e 200).1),if 0< (zq_ s a e 200).1 then(i:Int) - (zq_ s a e 200).1 else 0,(qz_ s (zq_ s a e 200).2.1 (zq_ s a e 200).2.2 65536).1⟩,(qz_ s (zq_ s a e 200).2.1 (zq_ s a e 200).2.2 65536).2)
def zX_ (s:List UInt8):Nat→Nat→Nat→Int→List PartL×List Nat×Nat×Int
 |0,_,a,e=>([],[],a,e)
 |k+1,i,a,e=>if(vs_ s i a e).2.2=0 then((vs_ s i a e).1:: (zX_ s k (i+1) (vs_ s i a e).2.1 0).1,a:: (zX_ s k (i+1) (vs_ s i a e).2.1 0).2.1,(zX_ s k (i+1) (vs_ s i a e).2.1 0).2.2) else([],[],(vs_ s i a e).2)
def j1_ (s:List UInt8):Int×Bool×Nat×Int:=
 if(jq_ s 0 0 4).1=magB then((zq_ s (jq_ s 0 0 4).2.1 (jq_ s 0 0 4).2.2 200).1,(zq_ s (jq_ s 0 0 4).2.1 (jq_ s 0 0 4).2.2 200).2.2==0,(zq_ s (jq_ s 0 0 4).2.1 (jq_ s 0 0 4).2.2 200).2) else(0,false,(jq_ s 0 0 4).2)
def jH_ (s:List UInt8):List PartL×List Nat×Nat×Int:=zX_ s (j1_ s).1.toNat 0 (j1_ s).2.2.1 (j1_ s).2.2.2
def wB_ (b:List UInt8):Option (List PartL×List Nat×List IdL×List ObL):=
 if(zn_ b).2=true∧(j1_ (zn_ b).1).2.1=true∧kB_ (zn_ b).1 (jH_ (zn_ b).1).2.2.1 (jH_ (zn_ b).1).2.2.2=0 then(fillV (jH_ (zn_ b).1).1).map fun q=>((jH_ (zn_ b).1).1,(jH_ (zn_ b).1).2.1,q) else none
def wU_ (l:List PartL):List UInt8×Int:=match fillV l with
 |some _=>(qE_ (kq_ l),0)
 |none=>([],1)
instance:DecidableEq ObL:=fun a b=>if h:a.k=b.k∧a.t=b.t then .isTrue (by cases a;cases b;simp only at h;obtain⟨rfl,rfl⟩:=h;rfl) else .isFalse (fun e=>h (by rw[e];exact⟨rfl,rfl⟩))
def Jn_ (l:List PartL):Nat→List ObL
 |0=> []
 |k+1=>match partV l (k:Nat) with
  | .ok s=>if frOk s=true∧zD_ s∉Jn_ l k then Jn_ l k++ [zD_ s] else Jn_ l k
  | .error _=>Jn_ l k
def aqS_ (b:List UInt8):List ObL:=if(j1_ b).2.1=true then Jn_ (jH_ b).1 (jH_ b).1.length else []
def Qc_ (i:Nat) (p:PartL):Prop:=(if p.d=true then 0≤p.b∧p.b<i∧(i:Int)≤200 else p.b=0)∧p.x.length≤65536
def ZN_:Nat→List PartL→Prop
 |_,[]=>True
 |i,p::r=>Qc_ i p∧ZN_ (i+1) r
theorem ams_ {i:Nat} {p:PartL} (h:Qc_ i p): ∃n:Nat,Qr_ i p=n∧n≤200∧(0<n↔p.d=true):=by
 unfold Qc_ at h
 unfold Qr_
 by_cases hd:p.d=true
 ·rw[if_pos hd] at h ⊢
  exact⟨((i:Int) - p.b).toNat,by omega,by omega,⟨fun _=>hd,fun _=>by omega⟩⟩
 ·rw[if_neg hd]
  exact⟨0,rfl,by omega,⟨fun h=>by omega,fun h=>absurd h hd⟩⟩
theorem aly_ {i n:Nat} {p:PartL} (h:Qc_ i p) (hf:Qr_ i p=n) (hn:0<n↔p.d=true): (⟨decide (0< (n:Int)),if 0< (n:Int) then(i:Int) - (n:Int) else 0,p.x⟩:PartL)=p:=by
 obtain⟨d,b,x⟩:=p
 unfold Qc_ at h
 unfold Qr_ at hf
 simp only at h hf hn ⊢
 cases d
 ·rw[if_neg (by simp)] at h hf
  have: ¬0< (n:Int):=by omega
  rw[if_neg this,decide_eq_false this,h.1]
 ·rw[if_pos rfl] at h hf
  have:0< (n:Int):=by have:=hn.2 rfl;omega
  rw[if_pos this,decide_eq_true this]
  congr 1
  omega
theorem aeS_ (A r:List UInt8) {i:Nat} {p:PartL} (h:Qc_ i p):vs_ (A++ (kE_ i p++r)) i A.length 0=(p,A.length+ (kE_ i p).length,0):=by
 obtain⟨n,hf,hn,hd⟩:=ams_ h
 have hx:=h.2
 have h1:=xZ_ A (xq_ p.x++r) n 200 (by omega) (by omega)
 have h2:=aei_ (A++qS_ n) p.x r 65536 (by omega) (by omega)
 rw[List.append_assoc,List.length_append] at h2
 unfold vs_ kE_
 rw[hf,jZ_ (by omega),List.append_assoc,h1]
 simp only
 rw[h2,aly_ h hf hd,List.length_append,Nat.add_assoc]
def Z4_:Nat→Nat→List PartL→List Nat
 |_,_,[]=> []
 |i,a,p::r=>a::Z4_ (i+1) (a+ (kE_ i p).length) r
theorem Jr_ (r:List UInt8): ∀ (l:List PartL) (A:List UInt8) (i:Nat),ZN_ i l→zX_ (A++ (qT_ i l++r)) l.length i A.length 0=(l,Z4_ i A.length l,A.length+ (qT_ i l).length,0)
 | [],A,i,_=>by simp[zX_,qT_,Z4_]
 |p::l,A,i,h=>by
  have h1:=aeS_ A (qT_ (i+1) l++r) h.1
  have h2:=Jr_ r l (A++kE_ i p) (i+1) h.2
  rw[List.append_assoc,List.length_append] at h2
  unfold qT_
  rw[List.length_cons,List.append_assoc]
  unfold zX_
  rw[h1]
  simp only[↓reduceIte]
  rw[h2]
  simp only[Z4_,List.length_append,Nat.add_assoc]
theorem adu_ {n:Nat} (h:n≤200):zJ_ (n:Int)=n:=jZ_ (by omega)
theorem aia_ (x:List UInt8) {n:Nat} (h:n≤200):j1_ (magB++ (qS_ n++x))=((n:Int),true,4+ (qS_ n).length,0):=by
 have h0:=wT_ [] magB (qS_ n++x)
 have h1:=xZ_ magB x n 200 (by omega) (by omega)
 simp only[List.nil_append,List.length_nil,Nat.zero_add] at h0
 have e4:magB.length=4:=rfl
 rw[e4] at h0 h1
 unfold j1_
 rw[show((4:Nat):Int)=4 from rfl] at h0
 rw[h0]
 simp only[↓reduceIte]
 rw[h1]
 rfl
theorem ah3_ {l:List PartL} (h:ZN_ 0 l) (hl:l.length≤200) (r:List UInt8):j1_ (kq_ l++r)=((l.length:Int),true,4+ (qS_ l.length).length,0)∧
  jH_ (kq_ l++r)=(l,Z4_ 0 (4+ (qS_ l.length).length) l,(kq_ l).length,0):=by
 have e:kq_ l++r=magB++ (qS_ l.length++ (qT_ 0 l++r)):=by unfold kq_;rw[adu_ hl,List.append_assoc,List.append_assoc]
 have hh:=aia_ (qT_ 0 l++r) hl
 have hp:=Jr_ r l (magB++qS_ l.length) 0 h
 rw[List.append_assoc,List.length_append,show magB.length=4 from rfl] at hp
 refine⟨by rw[e];exact hh, ?_⟩
 unfold jH_
 rw[e,hh]
 simp only[Int.toNat_natCast]
 rw[hp]
 unfold kq_
 rw[adu_ hl]
 simp only[List.length_append,show magB.length=4 from rfl,Nat.add_assoc]
theorem Qe_ (s:List UInt8):zn_ (qE_ s)=(s,true):=by
 have hl:=xS_ s
 have ht: (qE_ s).take ((qE_ s).length - 4)=s:=by rw[hl,Nat.add_sub_cancel];unfold qE_;rw[List.take_left]
 unfold zn_
 rw[if_neg (by omega),ht,if_pos rfl]
theorem ago_ (s:List UInt8):kB_ s s.length 0=0:=by unfold kB_;rw[if_neg (by simp),if_neg (by omega)]
theorem aeX_ {l:List PartL} {ts:List (List UInt8)} (h:ZJ_ l= .ok ts) (hx: ∀p,p∈l→p.x.length≤65536):ZN_ 0 l∧l.length≤200:=by
 unfold ZJ_ at h
 split at h
 ·cases h
 ·rename_i h2
  refine⟨?_,by omega⟩
  have hkk: ∀k,k<l.length→Qc_ k (l.getD k z1_):=by
   intro k hk
   have hp:=vg_ _ _ h k hk
   unfold partV at hp
   refine⟨?_,hx _ (Vz_ hk)⟩
   cases hq:j4_ l (k:Nat) with
   |error e=>rw[hq] at hp;cases hp
   |ok p=>
    rcases j3_ hk hq with⟨-,hd,hb⟩ | ⟨b,q,-,hd,hb,hlt,-⟩
    ·rw[if_neg (by rw[hd];decide),hb]
    ·rw[if_pos hd,hb];omega
  have go: ∀ (m:List PartL) (i:Nat),(∀k,k<m.length→Qc_ (i+k) (m.getD k z1_))→ZN_ i m:=by
   intro m
   induction m with
   |nil=>intro i _;trivial
   |cons p r ih=>
    intro i hm
    refine⟨by simpa using hm 0 (by simp),ih (i+1) fun k hk=> ?_⟩
    have:=hm (k+1) (by simp;omega)
    rw[List.getD_cons_succ,show i+ (k+1)=i+1+k by omega] at this
    exact this
  exact go l 0 fun k hk=>by rw[Nat.zero_add];exact hkk k hk
end Go.Proofs
end
section
open Go Go.Proofs Go.Sx Go.StP Go.Flo
namespace Go.Proofs
set_option maxRecDepth 10000
set_option maxHeartbeats 400000
set_option linter.unusedSimpArgs false
theorem Jt_ {s:List UInt8}: ∀ (k i a:Nat) (e:Int),(zX_ s k i a e).1.length≤k∧(zX_ s k i a e).2.1.length=(zX_ s k i a e).1.length
 |0,i,a,e=>⟨Nat.le_refl _,rfl⟩
 |k+1,i,a,e=>by
  have:=Jt_ (s:=s) k (i+1) (vs_ s i a e).2.1 0
  unfold zX_
  split
  ·simp only[List.length_cons];omega
  ·simp
theorem afb_ {s:List UInt8} {a:Nat} {e:Int} (h:kB_ s a e=0):e=0∧s.length≤a:=by
 unfold kB_ at h
 split at h
 ·rename_i h0;exact absurd h h0
 ·rename_i h0
  split at h
  ·cases h
  ·exact⟨by omega,by omega⟩
theorem KJ_ {b:List UInt8} (h: (zn_ b).2=true):qE_ (zn_ b).1=b:=by
 unfold zn_ at h ⊢
 split at h
 ·cases h
 ·rename_i h0
  rw[if_neg h0]
  split at h
  ·rename_i h1;rw[if_pos h1];exact h1
  ·cases h
theorem acy_ {l:List PartL} {q:List IdL×List ObL} (h:fillV l=some q) (hx: ∀p,p∈l→p.x.length≤65536):ZN_ 0 l∧l.length≤200:=by
 unfold fillV at h
 cases ha:ZJ_ l with
 |error e=>rw[ha] at h;cases h
 |ok ts=>exact aeX_ ha hx
theorem X2_ {l:List PartL} {q:List IdL×List ObL} (h:fillV l=some q) (hx: ∀p,p∈l→p.x.length≤65536):wB_ (qE_ (kq_ l))=some (l,Z4_ 0 (4+ (qS_ l.length).length) l,q):=by
 obtain⟨h1,h2⟩:=acy_ h hx
 obtain⟨hh,hr⟩:=ah3_ h1 h2 []
 rw[List.append_nil] at hh hr
 unfold wB_
 rw[Qe_]
 simp only[hh,hr,ago_,and_self, ↓reduceIte,h,Option.map_some]
end Go.Proofs
end
section
open Go Go.Proofs Go.Sx Go.StP Go.Flo
namespace Go.Proofs
set_option maxRecDepth 10000
set_option maxHeartbeats 400000
set_option linter.unusedSimpArgs false
def magI:List UInt8:= [83,73,88,49]
def rowB (r:RwL):List UInt8:=r.id.l++ (qS_ (zJ_ r.place)++qS_ (zJ_ r.spot))
def x7_ (l:List RwL):List UInt8:=(l.map rowB).flatten
def Qs_ (F:List Nat):List Int:=F.map fun(n:Nat)=>(n:Int)
def kG_ (F:List Nat):List UInt8:=xE_ (Qs_ F)
def v8_ (s:List UInt8) (l:List RwL):List UInt8:=magI++ (s++ (qS_ (zJ_ (l.length:Int))++ (kG_ (x9_ l)++x7_ l)))
def q3_ (s:List UInt8) (l:List RwL):Bool:=wQ_ l l.length&& (decide (s.length=4)&&decide (l.length≤200))
def xw_ (s:List UInt8) (l:List RwL):List UInt8×Int:=if q3_ s l=true then(qE_ (v8_ s l),0) else([],1)
theorem K2_ {l:List RwL}: ∀ {n j:Nat},wQ_ l n=true→j<n→jA_ (l.getD j rw0)=true∧(j=0∨cmpI (l.getD (j - 1) rw0).id (l.getD j rw0).id<0)
 |0,j,_,h=>absurd h (Nat.not_lt_zero _)
 |n+1,j,h,hj=>by
  unfold wQ_ at h
  simp only[Bool.and_eq_true,Bool.or_eq_true,decide_eq_true_eq] at h
  by_cases e:j=n
  ·subst e;exact⟨h.2,h.1.2⟩
  ·exact K2_ h.1.1 (by omega)
theorem cmpI_lt {x y:IdL}:cmpI x y<0↔ltB x.l y.l=true:=by
 unfold cmpI cmpS
 cases h1:ltB x.l y.l<;>cases h2:ltB y.l x.l<;>simp
theorem cmpI_ge {x y:IdL}:0≤cmpI x y↔ltB x.l y.l=false:=by
 have:=cmpI_lt (x:=x) (y:=y)
 cases h:ltB x.l y.l
 ·rw[h] at this;constructor
  ·intro _;rfl
  ·intro _;exact Int.not_lt.1 fun h'=>by have:=this.1 h';cases this
 ·rw[h] at this;constructor
  ·intro h';have:=this.2 rfl;omega
  ·intro h';cases h'
theorem wM_ {l:List RwL} {n:Nat} (h:wQ_ l n=true) {i:Nat}: ∀ {j:Nat},i<j→j<n→ltB (l.getD i rw0).id.l (l.getD j rw0).id.l=true
 |0,hij,_=>absurd hij (Nat.not_lt_zero _)
 |j+1,hij,hj=>by
  have h2:ltB (l.getD j rw0).id.l (l.getD (j+1) rw0).id.l=true:=by
   rcases(K2_ h hj).2 with h1|h1
   ·omega
   ·exact cmpI_lt.1 h1
  by_cases e:i=j
  ·subst e;exact h2
  ·exact Zr_ (wM_ h (by omega) (by omega)) h2
theorem qZ_ {l:List RwL} {i:Nat} (h:i<l.length):l.getD i rw0=l[i]:=by rw[List.getD_eq_getElem?_getD,List.getElem?_eq_getElem h];rfl
theorem Wj_ {l:List RwL} (h:wQ_ l l.length=true):rws_SortOf l l:=by
 refine⟨rfl, ?_,St.refl _ _⟩
 refine List.pairwise_iff_getElem.2 fun i j hi hj hij=> ?_
 have:=wM_ h hij hj
 rw[qZ_ hi,qZ_ hj] at this
 exact VE_ this
theorem jQ_ {s:List UInt8} {l:List RwL} (h:q3_ s l=true):wQ_ l l.length=true∧s.length=4∧l.length≤200:=by
 unfold q3_ at h
 simpa only[Bool.and_eq_true,decide_eq_true_eq] using h
def numP (s:List UInt8) (q:Nat×Int):Int×Nat×Int:=zq_ s q.1 q.2 1099511627775
def Kd_ (s:List UInt8) (a:Nat) (e:Int):RwL×Nat×Int:=
 (⟨wD_ (idR s a e).1,(numP s (idR s a e).2).1,(numP s (numP s (idR s a e).2).2).1⟩,(numP s (numP s (idR s a e).2).2).2)
def vK_ (s:List UInt8):Nat→Nat×Int→List RwL×Nat×Int
 |0,q=>([],q)
 |k+1,q=>((Kd_ s q.1 q.2).1:: (vK_ s k (Kd_ s q.1 q.2).2).1,(vK_ s k (Kd_ s q.1 q.2).2).2)
def Zb_ (s:List UInt8) (m:Int):Nat→Nat×Int→Nat×Int
 |0,q=>q
 |k+1,q=>Zb_ s m k (zq_ s q.1 q.2 m).2
def kX_ (s:List UInt8) (f:Int→Int):List UInt8×List RwL×Nat×Int:=
 ((jq_ s 0 0 8).1.drop 4,vK_ s (zq_ s (jq_ s 0 0 8).2.1 (jq_ s 0 0 8).2.2 200).1.toNat (Zb_ s (f (zq_ s (jq_ s 0 0 8).2.1 (jq_ s 0 0 8).2.2 200).1) 16 (zq_ s (jq_ s 0 0 8).2.1 (jq_ s 0 0 8).2.2 200).2))
theorem ahN_ {r:RwL} (h:jA_ r=true): ∃p q:Nat,r.place=p∧r.spot=q∧p≤1099511627775∧q≤1099511627775:=by
 unfold jA_ at h
 simp only[Bool.and_eq_true,Bool.not_eq_true',decide_eq_false_iff_not] at h
 exact⟨r.place.toNat,r.spot.toNat,by omega,by omega,by omega,by omega⟩
theorem ajE_ (A x:List UInt8) {r:RwL} (h:jA_ r=true):Kd_ (A++ (rowB r++x)) A.length 0=(r,A.length+ (rowB r).length,0):=by
 obtain⟨p,q,hp,hq,p1,q1⟩:=ahN_ h
 obtain⟨i,pl,sp⟩:=r
 simp only at hp hq
 subst hp hq
 have e:rowB ⟨i,(p:Int),(q:Int)⟩=i.l++ (qS_ p++qS_ q):=by unfold rowB;rw[jZ_ p1,jZ_ q1]
 have e2:A++ (rowB ⟨i,(p:Int),(q:Int)⟩++x)=A++ (i.l++ (qS_ p++ (qS_ q++x))):=by rw[e];simp only[List.append_assoc]
 have h1:=ajs_ A (qS_ p++ (qS_ q++x)) i
 have h2:=xZ_ (A++i.l) (qS_ q++x) p 1099511627775 p1 (by omega)
 have h3:=xZ_ (A++ (i.l++qS_ p)) x q 1099511627775 q1 (by omega)
 simp only[List.append_assoc,List.length_append,i.h] at h2 h3
 unfold Kd_ numP
 rw[e2,h1]
 simp only
 rw[h2]
 simp only
 rw[Nat.add_assoc,h3,amh_,e]
 simp only[List.length_append,i.h,Nat.add_assoc]
theorem Wg_ (x:List UInt8): ∀ (l:List RwL) (A:List UInt8),(∀r,r∈l→jA_ r=true)→vK_ (A++ (x7_ l++x)) l.length (A.length,0)=(l,A.length+ (x7_ l).length,0)
 | [],A,_=>by simp[vK_,x7_]
 |r::l,A,h=>by
  have h1:=ajE_ A (x7_ l++x) (h r List.mem_cons_self)
  have h2:=Wg_ x l (A++rowB r) fun y hy=>h y (List.mem_cons_of_mem _ hy)
  have e:x7_ (r::l)=rowB r++x7_ l:=by simp[x7_]
  simp only[List.append_assoc,List.length_append] at h2
  rw[List.length_cons,e,List.append_assoc]
  unfold vK_
  simp only
  rw[h1]
  simp only
  rw[h2,List.length_append,Nat.add_assoc]
theorem Ww_ (x:List UInt8) (m:Int): ∀ (F:List Nat) (A:List UInt8),(∀n,n∈F→(n:Int)≤m∧n≤1099511627775)→Zb_ (A++ (kG_ F++x)) m F.length (A.length,0)=(A.length+ (kG_ F).length,0)
 | [],A,_=>by simp[Zb_,kG_,Qs_,xE_]
 |n::F,A,h=>by
  obtain⟨h0,h0'⟩:=h n List.mem_cons_self
  have h1:=xZ_ A (kG_ F++x) n m h0' h0
  have h2:=Ww_ x m F (A++qS_ n) fun y hy=>h y (List.mem_cons_of_mem _ hy)
  have e:kG_ (n::F)=qS_ n++kG_ F:=by
   have:kG_ (n::F)=qS_ (zJ_ (n:Int))++kG_ F:=by simp[kG_,Qs_,xE_]
   rw[this,jZ_ h0']
  simp only[List.append_assoc,List.length_append] at h2
  rw[List.length_cons,e,List.append_assoc]
  unfold Zb_
  simp only
  rw[h1]
  simp only
  rw[h2,List.length_append,Nat.add_assoc]
theorem anF_ {l:List RwL} {n:Nat} (h:n∈x9_ l):n≤l.length:=by
 unfold x9_ at h
 obtain⟨d,-,rfl⟩:=List.mem_map.1 h
 exact List.countP_le_length
theorem ahx_ {s:List UInt8} {l:List RwL} (f:Int→Int) (h:q3_ s l=true) (hf: (l.length:Int)≤f l.length):kX_ (v8_ s l) f=(s,l,(v8_ s l).length,0):=by
 obtain⟨h1,h2,h3⟩:=jQ_ h
 have hr: ∀r,r∈l→jA_ r=true:=fun r hr=>by
  obtain⟨j,hj,rfl⟩:=List.getElem_of_mem hr
  rw[←qZ_ hj]
  exact(K2_ h1 hj).1
 have hn:zJ_ (l.length:Int)=l.length:=jZ_ (by omega)
 have e:v8_ s l=(magI++s)++ (qS_ l.length++ (kG_ (x9_ l)++x7_ l)):=by unfold v8_;rw[hn];simp only[List.append_assoc]
 have h8: (magI++s).length=8:=by rw[List.length_append,h2];rfl
 have a1:=wT_ [] (magI++s) (qS_ l.length++ (kG_ (x9_ l)++x7_ l))
 have a2:=xZ_ (magI++s) (kG_ (x9_ l)++x7_ l) l.length 200 (by omega) (by omega)
 have a3:=Ww_ (x7_ l) (f l.length) (x9_ l) ((magI++s)++qS_ l.length) fun n hn'=>by have:=anF_ hn';omega
 have a4:=Wg_ [] l ((magI++s)++ (qS_ l.length++kG_ (x9_ l))) hr
 rw[List.nil_append,List.length_nil,Nat.zero_add,h8] at a1
 rw[h8] at a2
 rw[kl_] at a3
 simp only[List.append_assoc,List.length_append,List.append_nil] at a1 a2 a3 a4 h8 e
 unfold kX_
 rw[e]
 rw[show((8:Nat):Int)=8 from rfl] at a1
 rw[a1]
 show(List.drop 4 (magI++s),vK_ _ (zq_ _ 8 0 200).1.toNat (Zb_ _ (f (zq_ _ 8 0 200).1) 16 (zq_ _ 8 0 200).2))=_
 rw[a2]
 simp only[Int.toNat_natCast]
 rw[←Nat.add_assoc,h8] at a3 a4
 rw[a3,Nat.add_assoc,a4]
 refine Prod.ext ?_ (Prod.ext rfl (Prod.ext ?_ rfl))
 ·show(magI++s).drop 4=s
  rw[show(4:Nat)=magI.length from rfl,List.drop_left]
 ·simp only[List.length_append];omega
def abZ_ (b:List UInt8):Option (List UInt8×List RwL):=
 if kB_ (zn_ b).1 (kX_ (zn_ b).1 id).2.2.1 (kX_ (zn_ b).1 id).2.2.2=0∧q3_ (kX_ (zn_ b).1 id).1 (kX_ (zn_ b).1 id).2.1=true∧qE_ (v8_ (kX_ (zn_ b).1 id).1 (kX_ (zn_ b).1 id).2.1)=b then some ((kX_ (zn_ b).1 id).1,(kX_ (zn_ b).1 id).2.1) else none
theorem openI_iff {b s:List UInt8} {l:List RwL}:abZ_ b=some (s,l)↔q3_ s l=true∧b=qE_ (v8_ s l):=by
 unfold abZ_
 constructor
 ·intro h
  split at h
  ·rename_i hc
   simp only[Option.some.injEq,Prod.mk.injEq] at h
   obtain⟨rfl,rfl⟩:=h
   exact⟨hc.2.1,hc.2.2.symm⟩
  ·cases h
 ·rintro⟨h1,rfl⟩
  rw[Qe_,ahx_ id h1 (Int.le_refl _)]
  simp only
  rw[if_pos ⟨ago_ _,h1,by trivial⟩]
theorem wE_ {s:List UInt8} {l:List RwL} (h:q3_ s l=true):abZ_ (qE_ (v8_ s l))=some (s,l):=openI_iff.2 ⟨h,rfl⟩
def ap7_ (b:List UInt8):Prop:=(zn_ b).2=true∧8≤ (zn_ b).1.length∧kB_ (zn_ b).1 (kX_ (zn_ b).1 fun _=>200).2.2.1 (kX_ (zn_ b).1 fun _=>200).2.2.2=0∧q3_ (kX_ (zn_ b).1 fun _=>200).1 (kX_ (zn_ b).1 fun _=>200).2.1=true∧qE_ (v8_ (kX_ (zn_ b).1 fun _=>200).1 (kX_ (zn_ b).1 fun _=>200).2.1)=b
def JR_ (l:List RwL) (x:IdL):RwL×Bool:=match l.find? (fun r=>r.id.l==x.l) with
 |some r=>(r,true)
 |none=>(rw0,false)
theorem akZ_ {x y:IdL} (h:x.l=y.l):x=y:=by cases x;cases y;simp only at h;subst h;rfl
theorem aj4_ {x y:IdL} (h:ltB x.l y.l=true):zV_ x≤zV_ y:=by
 rw[Qa_,decide_eq_true_eq] at h
 have hx:=x.h
 have hy:=y.h
 unfold zV_
 cases hl:x.l with
 |nil=>rw[hl] at hx;cases hx
 |cons a r=>
  cases hm:y.l with
  |nil=>rw[hm] at hy;cases hy
  |cons b t=>
   rw[hl,hm] at h
   simp only[List.getD_cons_zero]
   rcases List.cons_lt_cons_iff.1 h with h| ⟨rfl,-⟩
   ·exact Nat.div_le_div_right (Nat.le_of_lt (UInt8.lt_iff_toNat_lt.1 h))
   ·exact Nat.le_refl _
theorem VY_ {p:RwL→Bool}: ∀ (l:List RwL),(∀i j,i<j→j<l.length→p (l.getD j rw0)=true→p (l.getD i rw0)=true)→ ∀j,j<l.length→(j<l.countP p↔p (l.getD j rw0)=true)
 | [],_,j,h=>absurd h (Nat.not_lt_zero _)
 |r::l,hm,j,hj=>by
  have ih:=VY_ l fun i j hij hj hp=>by
   have:=hm (i+1) (j+1) (by omega) (by simpa using hj)
   simp only[List.getD_cons_succ] at this
   exact this hp
  rw[List.countP_cons]
  cases hr:p r with
  |true=>
   rw[if_pos rfl]
   cases j with
   |zero=>simp only[List.getD_cons_zero];exact⟨fun _=>hr,fun _=>by omega⟩
   |succ j=>
    rw[List.getD_cons_succ,←ih j (by simpa using hj)]
    omega
  |false=>
   rw[if_neg (by simp)]
   have hall: ∀j,j< (r::l).length→p ((r::l).getD j rw0)=false:=fun j hj=>by
    cases j with
    |zero=>exact hr
    |succ j=>
     cases hp:p ((r::l).getD (j+1) rw0) with
     |false=>rfl
     |true=>have:=hm 0 (j+1) (by omega) hj hp;rw[List.getD_cons_zero,hr] at this;cases this
   have h0:l.countP p=0:=by
    rw[List.countP_eq_zero]
    intro a ha
    obtain⟨i,hi,rfl⟩:=List.getElem_of_mem ha
    have:=hall (i+1) (by simpa using hi)
    rw[List.getD_cons_succ,qZ_ hi] at this
    rw[this];simp
   rw[h0,hall j hj]
   simp
theorem akW_ {l:List RwL} (h:wQ_ l l.length=true) (d:Nat) {j:Nat} (hj:j<l.length):j<kA_ l d↔zV_ (l.getD j rw0).id≤d:=by
 unfold kA_
 rw[VY_ l (fun i k hik hk hp=> ?_) j hj]
 ·simp
 ·simp only[decide_eq_true_eq] at hp ⊢
  exact Nat.le_trans (aj4_ (wM_ h hik hk)) hp
def jk_ (l:List RwL) (d:Nat):Nat:=if d=0 then 0 else kA_ l (d - 1)
theorem alr_ {l:List RwL} (d:Nat):jk_ l d≤kA_ l d:=by
 unfold jk_
 split
 ·exact Nat.zero_le _
 ·unfold kA_
  refine List.countP_mono_left fun r _ h=> ?_
  simp only[decide_eq_true_eq] at h ⊢
  omega
theorem ag8_ (l:List RwL) (d:Nat):kA_ l d≤l.length:=List.countP_le_length
theorem amo_ {l:List RwL} (h:wQ_ l l.length=true) (x:IdL) {at_:Nat} (h1:jk_ l (zV_ x)≤at_) (h2:at_≤kA_ l (zV_ x)) (h3:at_=jk_ l (zV_ x)∨ltB (l.getD (at_ - 1) rw0).id.l x.l=true) (h4:at_=kA_ l (zV_ x)∨ltB (l.getD at_ rw0).id.l x.l=false):
  JR_ l x=if at_≠kA_ l (zV_ x)∧(l.getD at_ rw0).id.l=x.l then(l.getD at_ rw0,true) else(rw0,false):=by
 have hln:=ag8_ l (zV_ x)
 have key: ∀j,j<l.length→(l.getD j rw0).id.l=x.l→j=at_∧at_≠kA_ l (zV_ x):=by
  intro j hj e
  have e': (l.getD j rw0).id=x:=akZ_ e
  have b1:j<kA_ l (zV_ x):=(akW_ h _ hj).2 (by rw[e'];exact Nat.le_refl _)
  have b2:jk_ l (zV_ x)≤j:=by
   unfold jk_
   split
   ·exact Nat.zero_le _
   ·rename_i hd
    refine Nat.le_of_not_lt fun hlt=> ?_
    have:=(akW_ h (zV_ x - 1) hj).1 hlt
    rw[e'] at this
    omega
  rcases Nat.lt_trichotomy j at_ with hlt|rfl|hlt
  ·rcases h3 with h3|h3
   ·omega
   ·by_cases e2:j=at_ - 1
    ·subst e2;rw[e,j7_] at h3;cases h3
    ·have:=wM_ h (show j<at_ - 1 by omega) (by omega)
     rw[e] at this
     have:=Zr_ this h3
     rw[j7_] at this;cases this
  ·exact⟨rfl,by omega⟩
  ·rcases h4 with h4|h4
   ·omega
   ·have:=wM_ h hlt hj
    rw[e,h4] at this;cases this
 unfold JR_
 by_cases hc:at_≠kA_ l (zV_ x)∧(l.getD at_ rw0).id.l=x.l
 ·rw[if_pos hc]
  have hat:at_<l.length:=by omega
  have hm:l.getD at_ rw0∈l:=by rw[qZ_ hat];exact List.getElem_mem hat
  cases hf:l.find? (fun r=>r.id.l==x.l) with
  |none=>
   have:=List.find?_eq_none.1 hf _ hm
   rw[hc.2] at this
   exact absurd (beq_self_eq_true x.l) this
  |some r=>
   have h5:=List.find?_some hf
   obtain⟨j,hj,rfl⟩:=List.getElem_of_mem (List.mem_of_find?_eq_some hf)
   rw[←qZ_ hj] at h5 ⊢
   have:=(key j hj (by simpa using h5)).1
   subst this;rfl
 ·rw[if_neg hc]
  cases hf:l.find? (fun r=>r.id.l==x.l) with
  |none=>rfl
  |some r=>
   have h5:=List.find?_some hf
   obtain⟨j,hj,rfl⟩:=List.getElem_of_mem (List.mem_of_find?_eq_some hf)
   rw[←qZ_ hj] at h5
   have h6:=key j hj (by simpa using h5)
   refine absurd ⟨h6.2, ?_⟩ hc
   rw[←h6.1];simpa using h5
end Go.Proofs
end
section
open Go Go.Proofs Go.Sx Go.StP Go.Flo
namespace Go.Proofs
set_option maxRecDepth 10000
set_option maxHeartbeats 400000
set_option linter.unusedSimpArgs false
def pkO (v0 v1 v2 v3:Value):Obj:= .cells #[v0,v1,v2,v3] 117 (0,0)
theorem Vf_ (v0 v1 v2 v3:Value) (n:Nat):zo_ (some (false,n)) (some (pkO v0 v1 v2 v3)) 0=some v0:=(rfl)
theorem acM_ (v0 v1 v2 v3:Value) (n:Nat):zo_ (some (false,n)) (some (pkO v0 v1 v2 v3)) 1=some v1:=(rfl)
theorem adE_ (v0 v1 v2 v3:Value) (n:Nat):zo_ (some (false,n)) (some (pkO v0 v1 v2 v3)) 2=some v2:=(rfl)
theorem ac3_ (v0 v1 v2 v3:Value) (n:Nat):zo_ (some (false,n)) (some (pkO v0 v1 v2 v3)) 3=some v3:=(rfl)
theorem Q1_ (v0 v1 v2 v3 q:Value) (a:Bool) (hq:Value.oneCell' q=true∧q.cells= #[q]):zl_ (some (a,1)) (some (pkO v0 v1 v2 v3)) 2 q=some (pkO v0 v1 q v3):=
 z4_ [v0,v1] [v2] [q] [v3] a _ 117 rfl rfl hq.2 rfl (by simp[hq.1])
theorem Jp_ (v0 v1 v2 v3 q:Value) (a:Bool) (hq:Value.oneCell' q=true∧q.cells= #[q]):zl_ (some (a,1)) (some (pkO v0 v1 v2 v3)) 3 q=some (pkO v0 v1 v2 q):=
 z4_ [v0,v1,v2] [v3] [q] [] a _ 117 rfl rfl hq.2 rfl (by simp[hq.1])
theorem w1_ {s:List UInt8} {a:Nat} {most:Int} (ha:a≤s.length) (h: (zq_ s a 0 most).2.2=0): (zq_ s a 0 most).2.1≤a+6:=by
 have hl:=qb_ (e:=0) (most:=most) ha
 obtain⟨n,-,hb,-,hd⟩:=adX_ h
 have h6:=vj_ 6 n (by omega) (by omega)
 have:=congrArg List.length hd
 simp only[List.length_drop,List.length_append] at this
 omega
theorem aiU_ {d:List UInt8} {a:Nat} (ha:a≤d.length) (h: (pcR d a).2.2=0): (pcR d a).2.1≤a+4111:=by
 have hl:=qb_ (s:=d) (a:=a) (e:=0) (most:=8199) ha
 have hm:=qX_ (s:=d) (a:=a) (e:=0) (most:=8199) (by omega)
 have hz: (zq_ d a 0 8199).2.2=0:=by
  by_cases he: (zq_ d a 0 8199).2.2=0
  ·exact he
  ·unfold pcR at h
   split at h
   ·have:=w8_ (s:=d) (a:=(zq_ d a 0 8199).2.1) (most:=4099) he
    simp only[this] at h
    exact absurd h he
   ·have:=V7_ (s:=d) (a:=(zq_ d a 0 8199).2.1) (n:=(zq_ d a 0 8199).1 / 2) he
    simp only[this] at h
    exact absurd h he
 have h1:=w1_ ha hz
 unfold pcR at h ⊢
 split
 ·rename_i hc
  rw[if_pos hc] at h
  simp only at h ⊢
  rw[hz] at h ⊢
  have:=w1_ hl.2 h
  omega
 ·rename_i hc
  rw[if_neg hc] at h
  simp only at h ⊢
  rw[hz] at h ⊢
  unfold jq_ at h ⊢
  rw[if_neg (by simp)] at h ⊢
  split at h
  ·cases h
  ·rename_i h2
   rw[if_neg h2]
   split at h
   ·cases h
   ·rename_i h3
    rw[if_neg h3]
    simp only
    omega
theorem adf_ {d:List UInt8}: ∀ (k a:Nat),d.length - a≤k→a≤d.length→(pcs d a).2.2=0→(pcs d a).2.1≤a+ (pcs d a).1.length*4111
 |k,a,hk,ha,h=>by
  by_cases hlt:a<d.length
  ·by_cases he: (pcR d a).2.2=0
   ·have hu:=Kk_ ha he
    have hl:=ada_ ha
    have hs:=aiU_ ha he
    rw[adw_ hlt he] at h ⊢
    cases k with
    |zero=>omega
    |succ k=>
     have:=adf_ k _ (by omega) hl.2 h
     simp only[List.length_cons]
     omega
   ·rw[KN_ hlt he] at h
    exact absurd h he
  ·rw[aaC_ hlt];simp
theorem aer_ {d:List UInt8} {p:Nat×List PcL} (h:kb_ d=some p):d.length≤17000000:=by
 unfold kb_ at h
 split at h
 ·cases h
 ·rename_i h1
  split at h
  ·cases h
  ·rename_i h2
   split at h
   ·rename_i h3
    have l1:=qb_ (s:=d) (a:=0) (e:=0) (most:=4099) (Nat.zero_le _)
    have l2:=qb_ (s:=d) (a:=(zq_ d 0 0 4099).2.1) (e:=(zq_ d 0 0 4099).2.2) (most:=4099) l1.2
    have e1: (zq_ d 0 0 4099).2.2=0:=Decidable.byContradiction fun hn=>by rw[w8_ hn] at h1;exact h1 hn
    have s1:=w1_ (Nat.zero_le _) e1
    have s2: (zq_ d (zq_ d 0 0 4099).2.1 (zq_ d 0 0 4099).2.2 4099).2.1≤ (zq_ d 0 0 4099).2.1+6:=by
     rw[e1] at h1 ⊢
     exact w1_ l1.2 (by omega)
    obtain⟨-,-,-,-,-,hc⟩:=Vl_ h3
    have s3:=adf_ _ _ (Nat.le_refl _) l2.2 (by omega)
    have s4:=akT_ _ _ (Nat.le_refl _) l2.2 (by omega)
    have: (pcs d (zq_ d (zq_ d 0 0 4099).2.1 (zq_ d 0 0 4099).2.2 4099).2.1).1.length*4111≤4099*4111:=Nat.mul_le_mul_right _ hc
    omega
   ·cases h
theorem afa_ {b d:List UInt8} (_h: (xu_ b d).2=0): (xu_ b d).1.length≤4099:=by
 unfold xu_
 split
 ·simp
 ·rename_i p hp
  split
  ·simp
  ·rename_i hb
   obtain⟨m,hm⟩:=X7_ hp
   rw[show p.1=b.length by omega] at hm
   have hk:Ze_ (b.length:Nat) p.2=(((wO_ (b.length:Nat) p.2:Nat):Int),(0:Int)):=by
    unfold Ze_ at hm ⊢
    split at hm
    ·cases hm
    ·rename_i h1
     rw[if_neg h1]
     split at hm
     ·cases hm
     ·rename_i h2
      rw[if_neg h2]
      split at hm
      ·cases hm
      ·rename_i h3;rw[if_neg h3]
   obtain⟨-,-,h1,h2,-⟩:=Vl_ hk
   show(txtP b p.2).length≤4099
   rw[QF_ h1]
   exact h2
theorem afD_ {l:List PartL} {a:Int} {s:List UInt8} (h:partV l a= .ok s):s.length≤4099:=by
 unfold partV at h
 cases hp:j4_ l a with
 |error e=>rw[hp] at h;cases h
 |ok p=>
  rw[hp] at h
  change wW_ l p= .ok s at h
  cases p with
  |nil=>cases h;simp
  |cons x p=>
   unfold wW_ at h
   cases hf:wW_ l p with
   |error e=>rw[hf] at h;cases h
   |ok t=>
    rw[hf] at h
    change(if(jB_ (l.getD x z1_) t).2=0 then _ else _)=_ at h
    split at h
    ·rename_i h0
     cases h
     unfold jB_ at h0 ⊢
     split
     ·rename_i hd;rw[if_pos hd] at h0;exact afa_ h0
     ·rename_i hd
      split
      ·simp
      ·show(l.getD x z1_).x.length≤4099;omega
    ·cases h
theorem K0_ {l:List PartL} {ts:List (List UInt8)} (h:ZJ_ l= .ok ts):ts.length=l.length∧l.length≤200∧ ∀k,k<ts.length→(ts.getD k []).length≤4099:=by
 unfold ZJ_ at h
 split at h
 ·cases h
 ·have:=vu_ _ _ h
  exact⟨this,by omega,fun k hk=>afD_ (vg_ _ _ h k (by omega))⟩
theorem amE_ {D:za_} {E:TypeId} {v:Value} {l:List (List UInt8)} (h:GrI D E 1 v l.length (l.map strC).flatten) (hn: (keys D).Nodup):l.length=0∨ ∃b c rest,v=vsl b 0 l.length c∧b∈keys D∧Sx.look D b=some (rowO strC E rest l):=by
 obtain⟨X,hX,h| ⟨h0,-⟩⟩:=h
 ·rcases h.inv with⟨-,h0,-⟩ | ⟨b,c,rest,rfl,hl,h1,h2,h3,h4⟩
  ·exact .inl h0
  ·exact .inr ⟨b,c,rest,rfl,List.mem_map_of_mem (f:=Prod.fst) (hX _ (zF_ hl)),x4_ hn (hX _ (zF_ hl))⟩
 ·exact .inl h0
theorem akI_ {E:TypeId} {rest:List Value} {l:List (List UInt8)} (n i:Nat) (hi:i<l.length):zo_ (some (false,n)) (some (rowO strC E rest l)) i=some (vs (l.getD i [])):=by
 unfold rowO zo_
 have e: (l.map strC).flatten=l.map vs:=by
  clear hi
  induction l with
  |nil=>rfl
  |cons a l ih=>rw[List.map_cons,List.flatten_cons,List.map_cons,ih];rfl
 simp only[e]
 rw[List.getElem?_toArray,List.getElem?_append_left (by simpa using hi),List.getElem?_map,List.getElem?_eq_getElem hi,List.getD_eq_getElem?_getD,List.getElem?_eq_getElem hi]
 rfl
theorem ZW_ {D:za_} {E:TypeId} {m n:Nat} {v:Value} {cs:List Value} (h:GrI D E m v n cs) (x:Bool×Nat):J0_ (.sl x) v=some (vi n):=by
 obtain⟨X,-,h⟩:=h;exact h.len x
def ab8_ (l:List PartL) (bp:Nat) (v0 v1:Value) (v:Value) (D:za_):Prop:=match fillV l with
 |some p=>v= .bool true∧ ∃x2 x3 D',D=(bp,pkO v0 v1 x2 x3)::D'∧GrI D' 37 32 x2 p.1.length (p.1.map w3_).flatten∧GrI D' 43 2 x3 p.2.length (p.2.map obC).flatten
 |none=>v= .bool false
theorem amP_ {w:World} {a:Nat} {x:Obj} (h:w.heap[a]? =some x): ∀p:Nat×Obj,p∈ [(a,x)]→w.heap[p.1]? =some p.2:=by
 intro p hp
 rw[List.mem_singleton] at hp
 subst hp
 exact h
theorem amt_ {w:World} {b:Nat} {o o':Obj} {D:za_} (h:New w.heap.size D):Ext w [(b,o)] (D++ [(b,o')]):=⟨fun c hc=>by
 rw[zi_] at hc
 rcases List.mem_append.1 hc with hc|hc
 ·exact .inr (h.le c hc)
 ·exact .inl hc,fun c hc=>by rw[zi_];exact List.mem_append_right _ hc⟩
theorem ajm_ {w:World} {b:Nat} {o o':Obj} {D:za_} (h:New w.heap.size D):Ext w [(b,o)] ((b,o')::D):=⟨fun c hc=>by
 rcases List.mem_cons.1 hc with hc|hc
 ·exact .inl (by rw[hc];exact List.mem_cons_self)
 ·exact .inr (h.le c hc),fun c hc=>by
 rcases List.mem_cons.1 hc with hc|hc
 ·exact List.mem_cons.2 (.inl hc)
 ·cases hc⟩
theorem Wi_ {l:List PartL} {e:Int}: ∀k,kt_ l k= .error e→e≠0
 |0,h=>by cases h
 |k+1,h=>by
  unfold kt_ at h
  cases hg:kt_ l k with
  |error x=>rw[hg] at h;cases h;exact Wi_ k hg
  |ok us=>
   rw[hg] at h
   change(partV l (k:Nat)).map (fun s=>us++ [s])=_ at h
   cases hp:partV l (k:Nat) with
   |error x=>rw[hp] at h;cases h;exact Wp_ hp
   |ok s=>rw[hp] at h;cases h
theorem ajK_ {l:List PartL} {e:Int} (h:ZJ_ l= .error e):e≠0:=by
 unfold ZJ_ at h
 split at h
 ·cases h;decide
 ·exact Wi_ _ h
theorem aaE_ (s:List UInt8) (w:World) (hs:s.length<100000):Rets Tryz.prog 123 #[vs s] w (fun v D=>v= .tuple #[obV (zD_ s).k (zD_ s).t,vi (if frOk s then 0 else 2)]∧D= []):=ad9_ s w hs
structure FiG where
 k:Nat
 ids:List IdL
 os:List ObL
 x2:Value
 x3:Value
 D2:za_
 D3:za_
 DG:za_
theorem agR_ {l:List PartL} {e:Int} (h:ZJ_ l= .error e):fillV l=none:=by unfold fillV;rw[h]
theorem adA_ {l:List PartL} {ts:List (List UInt8)} {k:Nat} {p:List IdL×List ObL} (h:ZJ_ l= .ok ts) (hk:k<ts.length) (hp:qG_ (ts.take k) [] []=some p) (hn: ¬ (frOk (ts.getD k [])=true∧(p.1.any fun y=>(jY_ (ts.getD k [])).l==y.l)=false)):fillV l=none:=by
 unfold fillV
 rw[h]
 show qG_ ts [] []=none
 have e:ts=ts.take (k+1)++ts.drop (k+1):=(List.take_append_drop _ _).symm
 rw[e]
 refine aaL_ ?_
 rw[take_snoc (z:= []) hk,QO_ hp,if_neg hn]
set_option linter.defProp false
def qq_:=And.intro (And.intro (And.intro (@zg_) (And.intro (@zf_) (@Vf_))) (And.intro (@acM_) (And.intro (@adE_) (@ac3_)))) (And.intro (And.intro (@Sx.tup2_0) (And.intro (@Sx.tup2_1) (@qQ_))) (And.intro (And.intro (@qh_) (@qf_)) (And.intro (@qn_) (@ji_))))
theorem VK_ (bp:Nat) (v0 v1:Value) (l:List PartL) (w:World) (hv:kO_ w v0 l) (hG:GlobE w) (hb:BndL l) (hl:l.length<1000000) (ho:w.heap[bp]? =some (pkO v0 v1 (.slice none 0 0) (.slice none 0 0)))
  (hv0:slB v0≠some bp) (hgb:3<bp):
  Rets Tryz.prog 59 #[vp bp 0] w (XS w [(bp,pkO v0 v1 (.slice none 0 0) (.slice none 0 0))] (ab8_ l bp v0 v1)):=by
 have hbp:bp<w.heap.size:=(Array.getElem?_eq_some_iff.1 ho).1
 refine Rets.enterX Tryz.func59 rfl (rs:= [.tmp 2]) Tryz.results59 Tryz.ntmps59 (amP_ ho) (by simp[keys]) ?_
 refine kf ?_
 first|with_reducible refine ks [] @qq_ ?_|refine kp @qq_ ?_
 refine Ow.callX (Y:= [(bp,pkO v0 v1 (.slice none 0 0) (.slice none 0 0))]) (by simp) rfl rfl Tryz.call125 (fun w' hw' hX hn=>af0_ v0 l w' (hv.old hw' fun b hbb _=>by simp only[keys,List.map_cons,List.map_nil,List.mem_singleton];rintro rfl;exact hv0 hbb) hb hl) (fun v1' D1 hC1 hS1=> ?_)
 have hN1:New w.heap.size D1:=New.of_le fun c hc=>by
  rcases hC1.new c hc with h|h
  ·cases h
  ·exact h.2
 unfold AllS at hS1
 cases ha:ZJ_ l with
 |error e=>
  rw[ha] at hS1
  have hS1':v1'= .tuple #[.slice none 0 0,vi e]:=hS1
  subst hS1'
  have e0: (e !=0)=true:=bne_iff_ne.2 (ajK_ ha)
  refine ko @qq_ ?_
  first|with_reducible refine ks [] (And.intro @qq_ @e0) ?_|refine kp (And.intro @qq_ @e0) ?_
  refine⟨_,(ke @qq_), ?_⟩
  refine⟨amt_ hN1, ?_⟩
  unfold ab8_
  rw[agR_ ha]
  rfl
 |ok ts=>
  rw[ha] at hS1
  obtain⟨x,rfl,hGT⟩:=hS1
  obtain⟨hlen,hl2,htl⟩:=K0_ ha
  have lnT:=ZW_ hGT
  have e0: ((0:Int) !=0)=false:=rfl
  refine ko @qq_ ?_
  first|with_reducible refine ks [] (And.intro @qq_ (And.intro @e0 (@lnT))) ?_|refine kp (And.intro @qq_ (And.intro @e0 (@lnT))) ?_
  refine Cw.world fun ww hww=> ?_
  have hnd:=hww.nodup
  clear hww ww
  rw[zi_,List.nodup_append] at hnd
  refine Cw.permL (M:=(bp,pkO v0 v1 (.slice none 0 0) (.slice none 0 0)):: (D1++ ([]++ ([]++ [])))) (by classical exact List.perm_iff_count.2 fun a=>by simp only[List.count_append,List.count_cons,List.count_nil]<;>omega) ?_
  refine Cw.loopG (G:=FiG) [24,25,26,6,28,29,27,30,31,7,8,33,34,32,35,36,9,10,37,38,39,40,41,42,43,44,45,46,2,47,48,49,50,51,52,53,54,55,56,57,58,59,60,61,62,63,64,65,66,67,23] (fun g=> [(23,vi g.k)]) (fun g=>(bp,pkO v0 v1 g.x2 g.x3):: (D1++ (g.D2++ (g.D3++g.DG)))) (fun g=>g.k≤ts.length∧qG_ (ts.take g.k) [] []=some (g.ids,g.os)∧New w.heap.size g.D2∧New w.heap.size g.D3∧New w.heap.size g.DG∧Gr g.D2 37 32 g.x2 g.ids.length (g.ids.map w3_).flatten∧Gr g.D3 43 2 g.x3 g.os.length (g.os.map obC).flatten) (fun g=>ts.length - g.k) ⟨0,[],[], .slice none 0 0, .slice none 0 0,[],[],[]⟩ rfl rfl ?_ ?_
  ·exact⟨Nat.zero_le _,rfl,trivial,trivial,trivial,Gr.nl,Gr.nl⟩
  intro g j hg
  refine kv ?_
  obtain⟨k,ids,os,x2,x3,D2,D3,DG⟩:=g
  simp only at hg ⊢
  obtain⟨hk,hfg,hN2,hN3,hNG,hG2,hG3⟩:=hg
  have hNr:New w.heap.size (D1++ (D2++ (D3++DG))):=hN1.app (hN2.app (hN3.app hNG))
  have hfl:=XO_ _ _ _ _ hfg
  rw[List.length_take,Nat.min_eq_left hk,List.length_nil,List.length_nil,Nat.zero_add] at hfl
  simp only at hfl
  by_cases hlt:k<ts.length
  ·obtain h0| ⟨bt,ct,rest,rfl,hbt,hlk⟩:=amE_ hGT hnd.1
   ·omega
   have hd:decide ((k:Int)< (ts.length:Int))=true:=decide_eq_true (by omega)
   have hbtn:bp≠bt:=by have:=hN1.le bt hbt;omega
   have rdt:zB_ w ((bp,pkO v0 v1 x2 x3):: (D1++ (D2++ (D3++DG)))) bt=some (rowO strC 9 rest ts):=z6_ (by rw[qW_ _ _ _ _ hbtn];exact q2_ hlk)
   have ldt:=akI_ (E:=9) (rest:=rest) 1 k hlt
   have hsl:=htl k hlt
   first|with_reducible refine ks [8,12] (And.intro @qq_ (And.intro @hd (And.intro @rdt (@ldt)))) ?_|refine kp (And.intro @qq_ (And.intro @hd (And.intro @rdt (@ldt)))) ?_
   generalize hs:ts.getD k []=s at*
   refine Ow.callFV rfl Tryz.call123 (fun w' hw'=>aaE_ s w' (by omega)) ?_
   refine ko @qq_ ?_
   refine Ow.alloc rfl rfl zrOb fun b7 hb7 hw7=> ?_
   simp only[zd_,List.nil_append,List.cons_append]
   have hbp7:bp<b7:=zm_ hb7 (by simp[keys])
   refine Ow.permL (M:=(b7, .cells #[vi 0,vs []] 43 (0,0)):: (bp,pkO v0 v1 x2 x3):: (D1++ (D2++ (D3++DG)))) (by classical exact List.perm_iff_count.2 fun a=>by simp only[List.count_append,List.count_cons,List.count_nil]<;>omega) ?_
   refine ko @qq_ ?_
   first|with_reducible refine ks [] @qq_ ?_|refine kp @qq_ ?_
   refine Ow.callFV rfl Tryz.call126 (fun w' hw'=>akc_ (zD_ s).k (zD_ s).t w' (hG.of hw' (by intro b hb;simp only[keys,List.map_cons,List.mem_cons] at hb;rcases hb with rfl|rfl|hb<;>first|omega| (have:=hNr.le b hb;omega)))) ?_
   rw[show idV (zD_ s).k (zD_ s).t=jY_ s from rfl]
   have hil:=(jY_ s).h
   have hi0:=id0.h
   refine ko @qq_ ?_
   refine Ow.alloc rfl rfl QS_ fun b9 hb9 hw9=> ?_
   simp only[zd_,List.nil_append,List.cons_append]
   have hb79:b7<b9:=zm_ hb9 (by simp[keys])
   refine Ow.permL (M:=(b9, .cells (a8 id0.l) 37 (0,0)):: (b7, .cells #[vi (zD_ s).k,vs (zD_ s).t] 43 (0,0)):: (bp,pkO v0 v1 x2 x3):: (D1++ (D2++ (D3++DG)))) (by classical exact List.perm_iff_count.2 fun a=>by simp only[List.count_append,List.count_cons,List.count_nil]<;>omega) ?_
   refine ko @qq_ ?_
   obtain⟨O7,hO7⟩: ∃O,O=Obj.cells #[vi (zD_ s).k,vs (zD_ s).t] 43 (0,0):=⟨_,rfl⟩
   obtain⟨O9,hO9⟩: ∃O,O=Obj.cells (a8 (jY_ s).l) 37 (0,0):=⟨_,rfl⟩
   have hEx: ∀M,New w.heap.size M→Ext w [(bp,pkO v0 v1 (.slice none 0 0) (.slice none 0 0))] ((b9,O9):: (b7,O7):: (bp,pkO v0 v1 x2 x3)::M):=fun M hM=>⟨fun c hc=>by
    simp only[keys,List.map_cons,List.mem_cons,List.map_nil,List.not_mem_nil,or_false] at hc ⊢
    rcases hc with h|h|h|h
    ·exact .inr (by omega)
    ·exact .inr (by omega)
    ·exact .inl h
    ·exact .inr (hM.le c h),fun c hc=>by
    simp only[keys,List.map_cons,List.mem_cons,List.map_nil,List.not_mem_nil,or_false] at hc ⊢
    exact .inr (.inr (.inl hc))⟩
   cases hfr:frOk s with
   |false=>
    rw[show(if(false:Bool)=true then(0:Int) else 2)=2 from rfl]
    have e1: ((2:Int) !=0)=true:=rfl
    have hno:fillV l=none:=adA_ ha hlt hfg (by rw[hs,hfr];rintro⟨h,-⟩;cases h)
    refine Cw.regionS [bp,b9] [0,1,2,3,4,5,6,7,8,9] [] (by kernel_rfl) (by kernel_rfl) (by kernel_rfl) ?_
    simp only[zk_, ↓ze_, ↓zc_, ↓zt_, ↓zs_,zb_]
    refine kq (And.intro @qq_ @e1) ?_
    rw[←hO7,←hO9]
    first|with_reducible refine ks [] @qq_ ?_|refine kp @qq_ ?_
    refine⟨_,(ke @qq_), ?_⟩
    refine⟨hEx _ hNr, ?_⟩
    unfold ab8_
    rw[hno]
    rfl
   |true=>
    rw[show(if(true:Bool)=true then(0:Int) else 2)=0 from rfl]
    have e1: ((0:Int) !=0)=false:=rfl
    refine Cw.regionS [bp,b9] [0,1,2,3,4,5,6,7,8,9] [] (by kernel_rfl) (by kernel_rfl) (by kernel_rfl) ?_
    simp only[zk_, ↓ze_, ↓zc_, ↓zt_, ↓zs_,zb_]
    refine kq (And.intro @qq_ @e1) ?_
    refine Ow.callFV rfl Tryz.call127 (fun w' hw'=>vn_ x2 ids (jY_ s) w' (hG2.slM (fun b o hm=>hw'.has b o (by simp only[List.mem_cons,List.mem_append];exact .inr (.inr (.inr (.inr (.inl hm)))))) rfl rfl xi_) (by omega)) ?_
    cases hct: (ids.any fun y=>(jY_ s).l==y.l) with
    |true=>
     have hno:fillV l=none:=adA_ ha hlt hfg (by rw[hs];rintro⟨-,h⟩;rw[hct] at h;cases h)
     refine kq @qq_ ?_
     rw[←hO7,←hO9]
     first|with_reducible refine ks [] @qq_ ?_|refine kp @qq_ ?_
     refine⟨_,(ke @qq_), ?_⟩
     refine⟨hEx _ hNr, ?_⟩
     unfold ab8_
     rw[hno]
     rfl
    |false=>
     refine kq @qq_ ?_
     have hfg':qG_ (ts.take (k+1)) [] []=some (ids++ [jY_ s],os++ [zD_ s]):=by rw[take_snoc (z:= []) hlt,hs,QO_ hfg,if_pos ⟨hfr,hct⟩]
     refine Cw.regionG [bp,b7,b9] [18,21] 22 (by kernel_rfl) rfl ?_
     simp only[List.replicate_succ,List.replicate_zero]
     refine OwG.run [0,1,2,3,4,5,6,9,10,11,12,13] [true,true,true,true,true,true,true,false,false,true,true,true,true,true,false,false,false,false,false,false,false,false] 10 rfl (by kernel_rfl) (by kernel_rfl) fun k hk=> ?_
     simp only[zk_, ↓ze_, ↓zc_, ↓zt_, ↓zs_,zb_]
     simp(disch:=(first|assumption|omega| (simp only[jW_,jX_,UInt64.reduceToNat];try omega))) only[↓Sx.S0,Sx.S1,Tryz.fx,qq_,Nat.reduceAdd,Nat.reducePow,Int.reducePow,Nat.reduceBEq, ↓reduceIte,UInt8.reduceToNat,UInt16.reduceToNat,UInt32.reduceToNat,UInt64.reduceToNat,Int.reduceToNat,Md.next_sofnil,Md.next_sofnil]
     (with_reducible refine hk _ _ _ ?_);clear hk k
     rw[←hO7,←hO9]
     refine OwG.two 7 14 _ _ (by kernel_rfl) rfl rfl ?_ ?_
     ·refine Ow.buildSlice (e:=37) (a8 (jY_ s).l) rfl rfl (qA_ (cs:=(jY_ s).l.map v8) Tryz.underlying30 Qo_ QS_ (by decide) (by simp[(jY_ s).h])) fun ba hba hwa=> ?_
      with_reducible refine Ow.nil ?_
      refine⟨qv_ (by simp[keys]), ?_⟩
      simp only[List.set_cons_zero,List.set_cons_succ,zL_,qx_,qB_]
      refine OwG.two 8 14 _ _ (by kernel_rfl) rfl rfl ?_ ?_
      ·refine Ow.permL (M:=D2++ ((b9,O9):: (b7,O7):: (bp,pkO v0 v1 x2 x3):: (D1++ (D3++ (DG++ [(ba, .cells (a8 (jY_ s).l) 37 (0,0))]))))) (by classical exact List.perm_iff_count.2 fun a=>by simp only[List.count_append,List.count_cons,List.count_nil]<;>omega) ?_
       refine Ow.appendXG (e:=37) (k:=1) (new:=w3_ (jY_ s)) (X:=D2) x2 rfl rfl rfl rfl Tryz.underlying30 Qo_ (by kernel_rfl) QS_ (by rw[zd_,vf_,id0.h]) Tryz.underlying30 (by intro k h;cases h) hG2 (fun w' hw'=>AppX.one1 (by rw[JX_];exact hw'.has ba (.cells (a8 (jY_ s).l) 37 (0,0)) (by simp)) (xi_ _) (Zj_ _)) (by omega) (fun B4 v4 D4 hA4 hB4 hG4 hk41 hk42 hlk4=> ?_)
       have hN4:New w.heap.size D4:=New.of_le fun q hq=>by
        rcases hk42 q hq with h|h
        ·exact hN2.le q h
        ·omega
       refine Ow.permL (M:=(b9,O9):: (b7,O7):: (bp,pkO v0 v1 x2 x3):: (D1++ (D4++ (D3++ (DG++ [(ba, .cells (a8 (jY_ s).l) 37 (0,0))]))))) (by classical exact List.perm_iff_count.2 fun a=>by simp only[List.count_append,List.count_cons,List.count_nil]<;>omega) ?_
       with_reducible refine Ow.nil ?_
       refine⟨(fun r hr=>by simp only[List.mem_cons,List.not_mem_nil,or_false] at hr;rcases hr with rfl|rfl|rfl<;>simp(disch:=omega) only[List.cons_append,List.nil_append,zC_,zz_]), ?_⟩
       simp only[List.set_cons_zero,List.set_cons_succ,zL_,qx_,qB_]
       refine OwG.one 14 _ (by kernel_rfl) rfl ?_
       refine Ow.buildSlice (e:=43) #[vi (zD_ s).k,vs (zD_ s).t] rfl rfl (qA_ (cs:=obC (zD_ s)) Tryz.underlying29 Tryz.ag43 zrOb (by decide) rfl) fun bc hbc hwc=> ?_
       with_reducible refine Ow.nil ?_
       refine⟨qv_ (by simp[keys]), ?_⟩
       simp only[List.set_cons_zero,List.set_cons_succ,zL_,qx_,qB_]
       refine OwG.permL (M:=(b9,O9):: (b7,O7):: (bp,pkO v0 v1 x2 x3):: (D1++ (D4++ (D3++ (DG++ [(ba, .cells (a8 (jY_ s).l) 37 (0,0)),(bc, .cells #[vi (zD_ s).k,vs (zD_ s).t] 43 (0,0))]))))) (by classical exact List.perm_iff_count.2 fun a=>by simp only[List.count_append,List.count_cons,List.count_nil]<;>omega) (fun r hr=>by simp only[List.mem_cons,List.not_mem_nil,or_false] at hr;rcases hr with rfl|rfl|rfl<;>simp(disch:=omega) only[List.cons_append,List.nil_append,zC_,zz_]) ?_
       refine OwG.rest [15,16,17,18,19,20,21] rfl (by kernel_rfl) (by kernel_rfl) ?_
       simp only[zk_, ↓ze_, ↓zc_, ↓zt_, ↓zs_,zb_]
       refine Ow.soft rfl rfl rfl ?_
       refine Ow.permL (M:=D3++ ((b9,O9):: (b7,O7):: (bp,pkO v0 v1 x2 x3):: (D1++ (D4++ (DG++ [(ba, .cells (a8 (jY_ s).l) 37 (0,0)),(bc, .cells #[vi (zD_ s).k,vs (zD_ s).t] 43 (0,0))]))))) (by classical exact List.perm_iff_count.2 fun a=>by simp only[List.count_append,List.count_cons,List.count_nil]<;>omega) ?_
       refine Ow.appendXG (e:=43) (k:=1) (new:=obC (zD_ s)) (X:=D3) x3 rfl rfl rfl rfl Tryz.underlying29 Tryz.ag43 (by kernel_rfl) zrOb (by rw[obV,zd_];rfl) Tryz.underlying29 (by intro k h;cases h) hG3 (fun w' hw'=>AppX.one1 (hw'.has bc (.cells (obC (zD_ s)).toArray 43 (0,0)) (by simp[obC])) (Kx_ _) (acq_ _)) (by omega) (fun B5 v5 D5 hA5 hB5 hG5 hk51 hk52 hlk5=> ?_)
       have hN5:New w.heap.size D5:=New.of_le fun q hq=>by
        rcases hk52 q hq with h|h
        ·exact hN3.le q h
        ·omega
       refine Ow.permL (M:=(b9,O9):: (b7,O7):: (bp,pkO v0 v1 x2 x3):: (D1++ (D4++ (D5++ (DG++ [(ba, .cells (a8 (jY_ s).l) 37 (0,0)),(bc, .cells #[vi (zD_ s).k,vs (zD_ s).t] 43 (0,0))]))))) (by classical exact List.perm_iff_count.2 fun a=>by simp only[List.count_append,List.count_cons,List.count_nil]<;>omega) ?_
       with_reducible refine Ow.nil ?_
       refine⟨(fun r hr=>by simp only[List.mem_cons,List.not_mem_nil,or_false] at hr;rcases hr with rfl|rfl|rfl<;>simp(disch:=omega) only[zC_,zz_]), ?_⟩
       have st4: ∀a,zl_ (some (a,1)) (some (pkO v0 v1 x2 x3)) 2 v4=some (pkO v0 v1 v4 x3):=fun a=>Q1_ v0 v1 x2 x3 v4 a hG4.cell
       have st5: ∀a,zl_ (some (a,1)) (some (pkO v0 v1 v4 x3)) 3 v5=some (pkO v0 v1 v4 v5):=fun a=>Jp_ v0 v1 v4 x3 v5 a hG5.cell
       refine kq @qq_ ?_
       refine Ow.store rfl rfl rfl (ke (And.intro @qq_ @st4)) ?_
       refine ko (And.intro @qq_ @st5) ?_
       refine Cw.permL (M:=(bp,pkO v0 v1 v4 v5):: (D1++ (D4++ (D5++ ((b9,O9):: (b7,O7):: (DG++ [(ba, .cells (a8 (jY_ s).l) 37 (0,0)),(bc, .cells #[vi (zD_ s).k,vs (zD_ s).t] 43 (0,0))])))))) (by classical exact List.perm_iff_count.2 fun a=>by simp only[List.count_append,List.count_cons,List.count_nil]<;>omega) ?_
       first|with_reducible refine ks [] @qq_ ?_|refine kp @qq_ ?_
       refine Again.mk ⟨k+1,ids++ [jY_ s],os++ [zD_ s],v4,v5,D4,D5,(b9,O9):: (b7,O7):: (DG++ [(ba, .cells (a8 (jY_ s).l) 37 (0,0)),(bc, .cells #[vi (zD_ s).k,vs (zD_ s).t] 43 (0,0))])⟩ (by show ts.length - (k+1)<ts.length - k;omega) ⟨hlt,hfg',hN4,hN5,⟨by omega,by omega,hNG.app ⟨hwa,hwc,trivial⟩⟩,by simpa using hG4,by simpa using hG5⟩ rfl rfl
      ·refine Ow.buildSlice (e:=43) #[vi (zD_ s).k,vs (zD_ s).t] rfl rfl (qA_ (cs:=obC (zD_ s)) Tryz.underlying29 Tryz.ag43 zrOb (by decide) rfl) fun bc hbc hwc=> ?_
       with_reducible refine Ow.nil ?_
       refine⟨qv_ (by simp[keys]), ?_⟩
       simp only[List.set_cons_zero,List.set_cons_succ,zL_,qx_,qB_]
       refine OwG.one 8 _ (by kernel_rfl) rfl ?_
       refine Ow.permL (M:=D2++ ((b9,O9):: (b7,O7):: (bp,pkO v0 v1 x2 x3):: (D1++ (D3++ (DG++ [(ba, .cells (a8 (jY_ s).l) 37 (0,0)),(bc, .cells #[vi (zD_ s).k,vs (zD_ s).t] 43 (0,0))]))))) (by classical exact List.perm_iff_count.2 fun a=>by simp only[List.count_append,List.count_cons,List.count_nil]<;>omega) ?_
       refine Ow.appendXG (e:=37) (k:=1) (new:=w3_ (jY_ s)) (X:=D2) x2 rfl rfl rfl rfl Tryz.underlying30 Qo_ (by kernel_rfl) QS_ (by rw[zd_,vf_,id0.h]) Tryz.underlying30 (by intro k h;cases h) hG2 (fun w' hw'=>AppX.one1 (by rw[JX_];exact hw'.has ba (.cells (a8 (jY_ s).l) 37 (0,0)) (by simp)) (xi_ _) (Zj_ _)) (by omega) (fun B4 v4 D4 hA4 hB4 hG4 hk41 hk42 hlk4=> ?_)
       have hN4:New w.heap.size D4:=New.of_le fun q hq=>by
        rcases hk42 q hq with h|h
        ·exact hN2.le q h
        ·omega
       refine Ow.permL (M:=(b9,O9):: (b7,O7):: (bp,pkO v0 v1 x2 x3):: (D1++ (D4++ (D3++ (DG++ [(ba, .cells (a8 (jY_ s).l) 37 (0,0)),(bc, .cells #[vi (zD_ s).k,vs (zD_ s).t] 43 (0,0))]))))) (by classical exact List.perm_iff_count.2 fun a=>by simp only[List.count_append,List.count_cons,List.count_nil]<;>omega) ?_
       with_reducible refine Ow.nil ?_
       refine⟨(fun r hr=>by simp only[List.mem_cons,List.not_mem_nil,or_false] at hr;rcases hr with rfl|rfl|rfl<;>simp(disch:=omega) only[List.cons_append,List.nil_append,zC_,zz_]), ?_⟩
       simp only[List.set_cons_zero,List.set_cons_succ,zL_,qx_,qB_]
       refine OwG.permL (M:=(b9,O9):: (b7,O7):: (bp,pkO v0 v1 x2 x3):: (D1++ (D4++ (D3++ (DG++ [(ba, .cells (a8 (jY_ s).l) 37 (0,0)),(bc, .cells #[vi (zD_ s).k,vs (zD_ s).t] 43 (0,0))]))))) (by classical exact List.perm_iff_count.2 fun a=>by simp only[List.count_append,List.count_cons,List.count_nil]<;>omega) (fun r hr=>by simp only[List.mem_cons,List.not_mem_nil,or_false] at hr;rcases hr with rfl|rfl|rfl<;>simp(disch:=omega) only[List.cons_append,List.nil_append,zC_,zz_]) ?_
       refine OwG.rest [15,16,17,18,19,20,21] rfl (by kernel_rfl) (by kernel_rfl) ?_
       simp only[zk_, ↓ze_, ↓zc_, ↓zt_, ↓zs_,zb_]
       refine Ow.soft rfl rfl rfl ?_
       refine Ow.permL (M:=D3++ ((b9,O9):: (b7,O7):: (bp,pkO v0 v1 x2 x3):: (D1++ (D4++ (DG++ [(ba, .cells (a8 (jY_ s).l) 37 (0,0)),(bc, .cells #[vi (zD_ s).k,vs (zD_ s).t] 43 (0,0))]))))) (by classical exact List.perm_iff_count.2 fun a=>by simp only[List.count_append,List.count_cons,List.count_nil]<;>omega) ?_
       refine Ow.appendXG (e:=43) (k:=1) (new:=obC (zD_ s)) (X:=D3) x3 rfl rfl rfl rfl Tryz.underlying29 Tryz.ag43 (by kernel_rfl) zrOb (by rw[obV,zd_];rfl) Tryz.underlying29 (by intro k h;cases h) hG3 (fun w' hw'=>AppX.one1 (hw'.has bc (.cells (obC (zD_ s)).toArray 43 (0,0)) (by simp[obC])) (Kx_ _) (acq_ _)) (by omega) (fun B5 v5 D5 hA5 hB5 hG5 hk51 hk52 hlk5=> ?_)
       have hN5:New w.heap.size D5:=New.of_le fun q hq=>by
        rcases hk52 q hq with h|h
        ·exact hN3.le q h
        ·omega
       refine Ow.permL (M:=(b9,O9):: (b7,O7):: (bp,pkO v0 v1 x2 x3):: (D1++ (D4++ (D5++ (DG++ [(ba, .cells (a8 (jY_ s).l) 37 (0,0)),(bc, .cells #[vi (zD_ s).k,vs (zD_ s).t] 43 (0,0))]))))) (by classical exact List.perm_iff_count.2 fun a=>by simp only[List.count_append,List.count_cons,List.count_nil]<;>omega) ?_
       with_reducible refine Ow.nil ?_
       refine⟨(fun r hr=>by simp only[List.mem_cons,List.not_mem_nil,or_false] at hr;rcases hr with rfl|rfl|rfl<;>simp(disch:=omega) only[zC_,zz_]), ?_⟩
       have st4: ∀a,zl_ (some (a,1)) (some (pkO v0 v1 x2 x3)) 2 v4=some (pkO v0 v1 v4 x3):=fun a=>Q1_ v0 v1 x2 x3 v4 a hG4.cell
       have st5: ∀a,zl_ (some (a,1)) (some (pkO v0 v1 v4 x3)) 3 v5=some (pkO v0 v1 v4 v5):=fun a=>Jp_ v0 v1 v4 x3 v5 a hG5.cell
       refine kq @qq_ ?_
       refine Ow.store rfl rfl rfl (ke (And.intro @qq_ @st4)) ?_
       refine ko (And.intro @qq_ @st5) ?_
       refine Cw.permL (M:=(bp,pkO v0 v1 v4 v5):: (D1++ (D4++ (D5++ ((b9,O9):: (b7,O7):: (DG++ [(ba, .cells (a8 (jY_ s).l) 37 (0,0)),(bc, .cells #[vi (zD_ s).k,vs (zD_ s).t] 43 (0,0))])))))) (by classical exact List.perm_iff_count.2 fun a=>by simp only[List.count_append,List.count_cons,List.count_nil]<;>omega) ?_
       first|with_reducible refine ks [] @qq_ ?_|refine kp @qq_ ?_
       refine Again.mk ⟨k+1,ids++ [jY_ s],os++ [zD_ s],v4,v5,D4,D5,(b9,O9):: (b7,O7):: (DG++ [(ba, .cells (a8 (jY_ s).l) 37 (0,0)),(bc, .cells #[vi (zD_ s).k,vs (zD_ s).t] 43 (0,0))])⟩ (by show ts.length - (k+1)<ts.length - k;omega) ⟨hlt,hfg',hN4,hN5,⟨by omega,by omega,hNG.app ⟨hwa,hwc,trivial⟩⟩,by simpa using hG4,by simpa using hG5⟩ rfl rfl
     ·refine Ow.buildSlice (e:=43) #[vi (zD_ s).k,vs (zD_ s).t] rfl rfl (qA_ (cs:=obC (zD_ s)) Tryz.underlying29 Tryz.ag43 zrOb (by decide) rfl) fun bc hbc hwc=> ?_
      with_reducible refine Ow.nil ?_
      refine⟨qv_ (by simp[keys]), ?_⟩
      simp only[List.set_cons_zero,List.set_cons_succ,zL_,qx_,qB_]
      refine OwG.one 7 _ (by kernel_rfl) rfl ?_
      refine Ow.buildSlice (e:=37) (a8 (jY_ s).l) rfl rfl (qA_ (cs:=(jY_ s).l.map v8) Tryz.underlying30 Qo_ QS_ (by decide) (by simp[(jY_ s).h])) fun ba hba hwa=> ?_
      with_reducible refine Ow.nil ?_
      refine⟨qv_ (by simp[keys]), ?_⟩
      simp only[List.set_cons_zero,List.set_cons_succ,zL_,qx_,qB_]
      refine OwG.one 8 _ (by kernel_rfl) rfl ?_
      refine Ow.permL (M:=D2++ ((b9,O9):: (b7,O7):: (bp,pkO v0 v1 x2 x3):: (D1++ (D3++ (DG++ [(ba, .cells (a8 (jY_ s).l) 37 (0,0)),(bc, .cells #[vi (zD_ s).k,vs (zD_ s).t] 43 (0,0))]))))) (by classical exact List.perm_iff_count.2 fun a=>by simp only[List.count_append,List.count_cons,List.count_nil]<;>omega) ?_
      refine Ow.appendXG (e:=37) (k:=1) (new:=w3_ (jY_ s)) (X:=D2) x2 rfl rfl rfl rfl Tryz.underlying30 Qo_ (by kernel_rfl) QS_ (by rw[zd_,vf_,id0.h]) Tryz.underlying30 (by intro k h;cases h) hG2 (fun w' hw'=>AppX.one1 (by rw[JX_];exact hw'.has ba (.cells (a8 (jY_ s).l) 37 (0,0)) (by simp)) (xi_ _) (Zj_ _)) (by omega) (fun B4 v4 D4 hA4 hB4 hG4 hk41 hk42 hlk4=> ?_)
      have hN4:New w.heap.size D4:=New.of_le fun q hq=>by
       rcases hk42 q hq with h|h
       ·exact hN2.le q h
       ·omega
      refine Ow.permL (M:=(b9,O9):: (b7,O7):: (bp,pkO v0 v1 x2 x3):: (D1++ (D4++ (D3++ (DG++ [(ba, .cells (a8 (jY_ s).l) 37 (0,0)),(bc, .cells #[vi (zD_ s).k,vs (zD_ s).t] 43 (0,0))]))))) (by classical exact List.perm_iff_count.2 fun a=>by simp only[List.count_append,List.count_cons,List.count_nil]<;>omega) ?_
      with_reducible refine Ow.nil ?_
      refine⟨(fun r hr=>by simp only[List.mem_cons,List.not_mem_nil,or_false] at hr;rcases hr with rfl|rfl|rfl<;>simp(disch:=omega) only[List.cons_append,List.nil_append,zC_,zz_]), ?_⟩
      simp only[List.set_cons_zero,List.set_cons_succ,zL_,qx_,qB_]
      refine OwG.permL (M:=(b9,O9):: (b7,O7):: (bp,pkO v0 v1 x2 x3):: (D1++ (D4++ (D3++ (DG++ [(ba, .cells (a8 (jY_ s).l) 37 (0,0)),(bc, .cells #[vi (zD_ s).k,vs (zD_ s).t] 43 (0,0))]))))) (by classical exact List.perm_iff_count.2 fun a=>by simp only[List.count_append,List.count_cons,List.count_nil]<;>omega) (fun r hr=>by simp only[List.mem_cons,List.not_mem_nil,or_false] at hr;rcases hr with rfl|rfl|rfl<;>simp(disch:=omega) only[List.cons_append,List.nil_append,zC_,zz_]) ?_
      refine OwG.rest [15,16,17,18,19,20,21] rfl (by kernel_rfl) (by kernel_rfl) ?_
      simp only[zk_, ↓ze_, ↓zc_, ↓zt_, ↓zs_,zb_]
      refine Ow.soft rfl rfl rfl ?_
      refine Ow.permL (M:=D3++ ((b9,O9):: (b7,O7):: (bp,pkO v0 v1 x2 x3):: (D1++ (D4++ (DG++ [(ba, .cells (a8 (jY_ s).l) 37 (0,0)),(bc, .cells #[vi (zD_ s).k,vs (zD_ s).t] 43 (0,0))]))))) (by classical exact List.perm_iff_count.2 fun a=>by simp only[List.count_append,List.count_cons,List.count_nil]<;>omega) ?_
      refine Ow.appendXG (e:=43) (k:=1) (new:=obC (zD_ s)) (X:=D3) x3 rfl rfl rfl rfl Tryz.underlying29 Tryz.ag43 (by kernel_rfl) zrOb (by rw[obV,zd_];rfl) Tryz.underlying29 (by intro k h;cases h) hG3 (fun w' hw'=>AppX.one1 (hw'.has bc (.cells (obC (zD_ s)).toArray 43 (0,0)) (by simp[obC])) (Kx_ _) (acq_ _)) (by omega) (fun B5 v5 D5 hA5 hB5 hG5 hk51 hk52 hlk5=> ?_)
      have hN5:New w.heap.size D5:=New.of_le fun q hq=>by
       rcases hk52 q hq with h|h
       ·exact hN3.le q h
       ·omega
      refine Ow.permL (M:=(b9,O9):: (b7,O7):: (bp,pkO v0 v1 x2 x3):: (D1++ (D4++ (D5++ (DG++ [(ba, .cells (a8 (jY_ s).l) 37 (0,0)),(bc, .cells #[vi (zD_ s).k,vs (zD_ s).t] 43 (0,0))]))))) (by classical exact List.perm_iff_count.2 fun a=>by simp only[List.count_append,List.count_cons,List.count_nil]<;>omega) ?_
      with_reducible refine Ow.nil ?_
      refine⟨(fun r hr=>by simp only[List.mem_cons,List.not_mem_nil,or_false] at hr;rcases hr with rfl|rfl|rfl<;>simp(disch:=omega) only[zC_,zz_]), ?_⟩
      have st4: ∀a,zl_ (some (a,1)) (some (pkO v0 v1 x2 x3)) 2 v4=some (pkO v0 v1 v4 x3):=fun a=>Q1_ v0 v1 x2 x3 v4 a hG4.cell
      have st5: ∀a,zl_ (some (a,1)) (some (pkO v0 v1 v4 x3)) 3 v5=some (pkO v0 v1 v4 v5):=fun a=>Jp_ v0 v1 v4 x3 v5 a hG5.cell
      refine kq @qq_ ?_
      refine Ow.store rfl rfl rfl (ke (And.intro @qq_ @st4)) ?_
      refine ko (And.intro @qq_ @st5) ?_
      refine Cw.permL (M:=(bp,pkO v0 v1 v4 v5):: (D1++ (D4++ (D5++ ((b9,O9):: (b7,O7):: (DG++ [(ba, .cells (a8 (jY_ s).l) 37 (0,0)),(bc, .cells #[vi (zD_ s).k,vs (zD_ s).t] 43 (0,0))])))))) (by classical exact List.perm_iff_count.2 fun a=>by simp only[List.count_append,List.count_cons,List.count_nil]<;>omega) ?_
      first|with_reducible refine ks [] @qq_ ?_|refine kp @qq_ ?_
      refine Again.mk ⟨k+1,ids++ [jY_ s],os++ [zD_ s],v4,v5,D4,D5,(b9,O9):: (b7,O7):: (DG++ [(ba, .cells (a8 (jY_ s).l) 37 (0,0)),(bc, .cells #[vi (zD_ s).k,vs (zD_ s).t] 43 (0,0))])⟩ (by show ts.length - (k+1)<ts.length - k;omega) ⟨hlt,hfg',hN4,hN5,⟨by omega,by omega,hNG.app ⟨hwa,hwc,trivial⟩⟩,by simpa using hG4,by simpa using hG5⟩ rfl rfl
  ·obtain rfl:k=ts.length:=by omega
   have hd:decide ((ts.length:Int)< (ts.length:Int))=false:=decide_eq_false (by omega)
   first|with_reducible refine ks [] (And.intro @qq_ @hd) ?_|refine kp (And.intro @qq_ @hd) ?_
   refine⟨_,(ke @qq_), ?_⟩
   refine⟨ajm_ hNr, ?_⟩
   have hf:fillV l=some (ids,os):=by
    unfold fillV
    rw[ha]
    rw[List.take_length] at hfg
    exact hfg
   unfold ab8_
   rw[hf]
   exact⟨rfl,x2,x3,_,rfl,Gr.i hG2 fun q hq=>by simp[hq],Gr.i hG3 fun q hq=>by simp[hq]⟩
end Go.Proofs
end
section
open Go Go.Proofs Go.Sx Go.StP Go.Flo
namespace Go.Proofs
set_option maxRecDepth 10000
set_option maxHeartbeats 400000
set_option linter.unusedSimpArgs false
def prO (v0 v1 v2:Value):Obj:= .cells #[v0,v1,v2] 137 (0,0)
def wrO (s:List UInt8) (a:Nat) (e:Int):Obj:= .cells #[vs s,vi a,vi e] 212 (0,0)
theorem KH_ (v0 v1 v2:Value) (n:Nat):zo_ (some (false,n)) (some (prO v0 v1 v2)) 0=some v0:=(rfl)
theorem K5_ (v0 v1 v2:Value) (n:Nat):zo_ (some (false,n)) (some (prO v0 v1 v2)) 1=some v1:=(rfl)
theorem KT_ (v0 v1 v2:Value) (n:Nat):zo_ (some (false,n)) (some (prO v0 v1 v2)) 2=some v2:=(rfl)
theorem JL_ (v0 v1 v2 q:Value) (a:Bool) (hq:Value.oneCell' q=true∧q.cells= #[q]):zl_ (some (a,1)) (some (prO v0 v1 v2)) 1 q=some (prO v0 q v2):=
 z4_ [v0] [v1] [q] [v2] a _ 137 rfl rfl hq.2 rfl (by simp[hq.1])
theorem Q0_ (v0 v1 v2 q:Value) (a:Bool) (hq:Value.oneCell' q=true∧q.cells= #[q]):zl_ (some (a,1)) (some (prO v0 v1 v2)) 2 q=some (prO v0 v1 q):=
 z4_ [v0,v1] [v2] [q] [] a _ 137 rfl rfl hq.2 rfl (by simp[hq.1])
theorem aa0_ (p:PartL) (E:TypeId) (a:Bool) (x:Bool):zl_ (some (a,1)) (some (.cells (zr_ p).toArray E (0,0))) 0 (.bool x)=some (.cells (zr_ ⟨x,p.b,p.x⟩).toArray E (0,0)):=(rfl)
theorem abp_ (p:PartL) (E:TypeId) (a:Bool) (x:Int):zl_ (some (a,1)) (some (.cells (zr_ p).toArray E (0,0))) 1 (vi x)=some (.cells (zr_ ⟨p.d,x,p.x⟩).toArray E (0,0)):=(rfl)
theorem wh_ (p:PartL) (E:TypeId):zo_ (some (true,3)) (some (.cells (zr_ p).toArray E (0,0))) 0=some (.agg (zr_ p).toArray):=wd_ (n:=3) [] (zr_ p) [] E (0,0) rfl rfl
theorem Jx_ (t:List UInt8):qV_ (vo_ Tryz.prog 114) (zK_ Tryz.prog 114) [(2,vs t)]=some (.agg (zr_ ⟨false,0,t⟩).toArray):=by
 rw[show vo_ Tryz.prog 114=some [(0,1),(1,1),(2,1)] from id (by kernel_rfl),w0_];rfl
theorem ahb_ {w:World} {a b:Nat} {x y:Obj} (h:w.heap[a]? =some x) (h':w.heap[b]? =some y): ∀p:Nat×Obj,p∈ [(a,x),(b,y)]→w.heap[p.1]? =some p.2:=by
 intro p hp
 simp only[List.mem_cons,List.not_mem_nil,or_false] at hp
 rcases hp with rfl|rfl<;>assumption
theorem X0_ (b:Nat) (s:List UInt8) (a:Nat) (e n:Int) (w:World) (ha:a≤s.length) (hs:s.length<9223372036854775808) (ho:w.heap[b]? =some (wrO s a e)):
  Rets Tryz.prog 94 #[vp b 0,vi n] w (fun v D=> ∃o,D= [(b,o)]∧v=vs (jq_ s a e n).1∧o=wrO s (jq_ s a e n).2.1 (jq_ s a e n).2.2):=vH_ b s a e n w ha hs ho
theorem jl_ (b:Nat) (s:List UInt8) (a:Nat) (e most:Int) (w:World) (ha:a≤s.length) (hs:s.length<9223372036854775808) (ho:w.heap[b]? =some (wrO s a e)):
  Rets Tryz.prog 95 #[vp b 0,vi most] w (fun v D=> ∃o,D= [(b,o)]∧v=vi (zq_ s a e most).1∧o=wrO s (zq_ s a e most).2.1 (zq_ s a e most).2.2):=qL_ b s a e most w ha hs ho
theorem aat_ (b:Nat) (s:List UInt8) (a:Nat) (e most:Int) (w:World) (ha:a≤s.length) (hs:s.length<9223372036854775808) (ho:w.heap[b]? =some (wrO s a e)):
  Rets Tryz.prog 96 #[vp b 0,vi most] w (fun v D=> ∃o,D= [(b,o)]∧v=vs (qz_ s a e most).1∧o=wrO s (qz_ s a e most).2.1 (qz_ s a e most).2.2):=v4_ b s a e most w ha hs ho
theorem abC_ {w:World} {a b:Nat} {x x' y y':Obj} {D:za_} (h:New w.heap.size D):Ext w [(a,x),(b,y)] ((a,x'):: (b,y')::D):=⟨fun c hc=>by
 simp only[keys,List.map_cons,List.mem_cons,List.map_nil,List.not_mem_nil,or_false] at hc ⊢
 rcases hc with h'|h'|h'
 ·exact .inl (.inl h')
 ·exact .inl (.inr h')
 ·exact .inr (h.le c h'),fun c hc=>by
 simp only[keys,List.map_cons,List.mem_cons,List.map_nil,List.not_mem_nil,or_false] at hc ⊢
 rcases hc with h'|h'
 ·exact .inl h'
 ·exact .inr (.inl h')⟩
set_option linter.defProp false
def zS_:=And.intro (And.intro (And.intro (@zg_) (And.intro (@zf_) (@KH_))) (And.intro (And.intro (@K5_) (@KT_)) (And.intro (@Sx.tup2_0) (@Sx.tup2_1)))) (And.intro (And.intro (And.intro (@jd_) (@jg_)) (And.intro (@jh_) (@wh_))) (And.intro (And.intro (@qa_) (@kU_)) (And.intro (@aa0_) (@abp_))))
theorem ahp_ (br bw:Nat) (s:List UInt8) (v1 v2:Value) (w:World) (hs:s.length<9223372036854775808) (hne:br≠bw) (ho:w.heap[br]? =some (prO (vp bw 0) v1 v2)) (hr:w.heap[bw]? =some (wrO s 0 0)):
  Rets Tryz.prog 72 #[vp br 0] w (XS w [(br,prO (vp bw 0) v1 v2),(bw,wrO s 0 0)] (fun v D=>v= .tuple #[vi (j1_ s).1, .bool (j1_ s).2.1]∧D= [(br,prO (vp bw 0) v1 v2),(bw,wrO s (j1_ s).2.2.1 (j1_ s).2.2.2)])):=by
 refine Rets.enterX Tryz.func72 rfl (rs:= [.tmp 2, .tmp 3]) Tryz.results72 Tryz.ntmps72 (ahb_ ho hr) (by simp[keys,hne]) ?_
 refine kf ?_
 first|with_reducible refine ks [] @zS_ ?_|refine kp @zS_ ?_
 refine Ow.callM rfl rfl Tryz.call94 (by simp[keys]) (fun w' hw'=>X0_ bw s 0 0 4 w' (Nat.zero_le _) hs (hw'.has _ _ (List.mem_cons_of_mem _ List.mem_cons_self))) ?_
 have r1:=x0_ (s:=s) (a:=0) (e:=0) (n:=4) (Nat.zero_le _)
 unfold j1_
 generalize jq_ s 0 0 4=p at*
 obtain⟨x,a1,e1⟩:=p
 simp only at r1 ⊢
 refine kn ?_
 by_cases hm:x=magB
 ·have d1: (x !=magB)=false:=by rw[hm];exact bne_self_eq_false _
  unfold magB at d1
  rw[if_pos hm]
  refine ko (And.intro @zS_ @d1) ?_
  first|with_reducible refine ks [] (And.intro @zS_ @d1) ?_|refine kp (And.intro @zS_ @d1) ?_
  refine Ow.callM rfl rfl Tryz.call95 (by simp[keys]) (fun w' hw'=>jl_ bw s a1 e1 200 w' r1.2 hs (hw'.has _ _ (List.mem_cons_of_mem _ List.mem_cons_self))) ?_
  generalize zq_ s a1 e1 200=q at*
  obtain⟨n,a2,e2⟩:=q
  simp only
  refine kn ?_
  refine ko @zS_ ?_
  first|with_reducible refine ks [] @zS_ ?_|refine kp @zS_ ?_
  refine Ow.callFV rfl Tryz.call137 (fun w' hw'=>xj_ bw s a2 e2 w' (hw'.has _ _ (List.mem_cons_of_mem _ List.mem_cons_self))) ?_
  refine ko @zS_ ?_
  first|with_reducible refine ks [] @zS_ ?_|refine kp @zS_ ?_
  refine⟨_,(ke @zS_), ?_⟩
  exact⟨abC_ trivial,rfl,rfl⟩
 ·have d1: (x !=magB)=true:=bne_iff_ne.2 hm
  unfold magB at d1
  rw[if_neg hm]
  refine ko (And.intro @zS_ @d1) ?_
  first|with_reducible refine ks [] (And.intro @zS_ @d1) ?_|refine kp (And.intro @zS_ @d1) ?_
  refine⟨_,(ke @zS_), ?_⟩
  exact⟨abC_ trivial,rfl,rfl⟩
structure RdG where
 lab:Nat
 l:List PartL
 sp:List Nat
 a:Nat
 e:Int
 v1:Value
 v2:Value
 b4:Nat
 q:PartL
 D1:za_
 D2:za_
 DG:za_
def RdJ (s:List UInt8) (n a0:Nat) (e0:Int) (sz:Nat) (g:RdG):Prop:=
 sz≤g.b4∧New sz g.D1∧New sz g.D2∧New sz g.DG∧Gr g.D1 114 3 g.v1 g.l.length (g.l.map zr_).flatten∧Gr g.D2 3 1 g.v2 g.sp.length (g.sp.map Vc_).flatten∧g.sp.length=g.l.length∧g.a≤s.length∧g.l.length≤n∧
  ((g.lab=1∧zX_ s n 0 a0 e0=(g.l++ (zX_ s (n - g.l.length) g.l.length g.a g.e).1,g.sp++ (zX_ s (n - g.l.length) g.l.length g.a g.e).2.1,(zX_ s (n - g.l.length) g.l.length g.a g.e).2.2))∨
  (g.lab=0∧zX_ s n 0 a0 e0=(g.l,g.sp,g.a,g.e)))
def RdL (g:RdG):Nat:=match g.lab with
 |1=>1
 |_=>0
def RdH (br bw:Nat) (s:List UInt8) (g:RdG):za_:=(br,prO (vp bw 0) g.v1 g.v2):: (bw,wrO s g.a g.e):: (g.b4, .cells (zr_ g.q).toArray 114 (0,0)):: (g.D1++ (g.D2++g.DG))
def aps_ (s:List UInt8) (n a0:Nat) (e0:Int) (br bw:Nat) (v:Value) (D:za_):Prop:=
 v= .tuple #[]∧ ∃v1 v2 D',D=(br,prO (vp bw 0) v1 v2):: (bw,wrO s (zX_ s n 0 a0 e0).2.2.1 (zX_ s n 0 a0 e0).2.2.2)::D'∧
  GrI D' 114 3 v1 (zX_ s n 0 a0 e0).1.length ((zX_ s n 0 a0 e0).1.map zr_).flatten∧GrI D' 3 1 v2 (zX_ s n 0 a0 e0).2.1.length ((zX_ s n 0 a0 e0).2.1.map Vc_).flatten
theorem afz_ (br bw:Nat) (s:List UInt8) (n a0:Nat) (e0:Int) (w:World) (hs:s.length<9223372036854775808) (hn:n≤1000000) (ha:a0≤s.length) (hne:br≠bw) (ho:w.heap[br]? =some (prO (vp bw 0) (.slice none 0 0) (.slice none 0 0))) (hr:w.heap[bw]? =some (wrO s a0 e0)):
  Rets Tryz.prog 73 #[vp br 0,vi n] w (XS w [(br,prO (vp bw 0) (.slice none 0 0) (.slice none 0 0)),(bw,wrO s a0 e0)] (aps_ s n a0 e0 br bw)):=by
 have hbr:br<w.heap.size:=(Array.getElem?_eq_some_iff.1 ho).1
 have hbw:bw<w.heap.size:=(Array.getElem?_eq_some_iff.1 hr).1
 refine Rets.enterX Tryz.func73 rfl (rs:= []) Tryz.results73 Tryz.ntmps73 (ahb_ ho hr) (by simp[keys,hne]) ?_
 refine kf ?_
 first|with_reducible refine ks [] @zS_ ?_|refine kp @zS_ ?_
 refine Cw.scopeL (G:=RdG) (fun g=>RdL g) [4,5,6,7,8,9,10,11,12,13,14,15,16,17,18,19,20,21,22,23,24,25,26,27,28,29,30,31,32,33,34,35,36,37,38,39,40,41,42,43,44,45,46,47,48,49,50,51,52,53,54,55,56,57,58,59,60,61,62,63,64,65,66] (fun g=> [(4,vp g.b4 0)]) (fun g=>RdH br bw s g) (fun g=>RdJ s n a0 e0 w.heap.size g) (fun g=>(if g.lab=1 then n - g.l.length+1 else 0)) ?_ ?_ ?_
 ·intro g
  unfold RdL
  split<;>rfl
 ·intro g j hg
  obtain⟨lab,l,sp,a,e,v1,v2,b4,q,D1,D2,DG⟩:=g
  obtain⟨hw4,hN1,hN2,hNG,hG1,hG2,hsl,hal,hln,hg⟩:=hg
  simp only at hw4 hN1 hN2 hNG hG1 hG2 hsl hal hln
  have hNr:New w.heap.size (D1++ (D2++DG)):=hN1.app (hN2.app hNG)
  have l1:=hG1.len
  rcases hg with hg|hg
  ·obtain⟨hlab,hpr⟩:=hg
   simp only at hlab
   subst hlab
   simp only[RdL,RdH] at hpr ⊢
   by_cases hlen:l.length=n
   ·have d1: ((l.length:Int)==(n:Int))=true:=by rw[hlen];exact beq_self_eq_true _
    simp only[xX_,Qp_,Bool.or_false,Bool.false_or,Bool.or_true,Bool.true_or,Nat.reduceBEq,beq_self_eq_true, ↓reduceIte,Bool.false_eq_true]
    refine kv ?_
    try with_reducible refine qi_ ?_
    first|with_reducible refine ks [] (And.intro @zS_ (And.intro @l1 (@d1))) ?_|refine kp (And.intro @zS_ (And.intro @l1 (@d1))) ?_
    refine Jump.mk ⟨0,l,sp,a,e,v1,v2,b4,q,D1,D2,DG⟩ rfl (by show 0<n - l.length+1;omega) ⟨hw4,hN1,hN2,hNG,hG1,hG2,hsl,hal,hln, .inr ⟨rfl, ?_⟩⟩ rfl rfl
    rw[hpr,hlen,Nat.sub_self]
    simp[zX_]
   ·have d1: ((l.length:Int)==(n:Int))=false:=beq_eq_false_iff_ne.2 (by omega)
    simp only[xX_,Qp_,Bool.or_false,Bool.false_or,Bool.or_true,Bool.true_or,Nat.reduceBEq,beq_self_eq_true, ↓reduceIte,Bool.false_eq_true]
    refine kv ?_
    try with_reducible refine qi_ ?_
    first|with_reducible refine ks [1000007,9] (And.intro @zS_ (And.intro @l1 (@d1))) ?_|refine kp (And.intro @zS_ (And.intro @l1 (@d1))) ?_
    refine Ow.callFV rfl Tryz.call138 (fun w' hw'=>adv_ bw s a e w' (hw'.has _ _ (List.mem_cons_of_mem _ List.mem_cons_self))) ?_
    refine ko @zS_ ?_
    first|with_reducible refine ks [] @zS_ ?_|refine kp @zS_ ?_
    have hle1:=qb_ (s:=s) (a:=a) (e:=e) (most:=200) hal
    have hm1:=qX_ (s:=s) (a:=a) (e:=e) (most:=200) (by omega)
    refine Ow.callM rfl rfl Tryz.call95 (by simp[keys]) (fun w' hw'=>jl_ bw s a e 200 w' hal hs (hw'.has _ _ (List.mem_cons_of_mem _ List.mem_cons_self))) ?_
    have hk:n - l.length=(n - (l.length+1))+1:=by omega
    rw[hk] at hpr
    have hpc:vs_ s l.length a e=(⟨decide (0< (zq_ s a e 200).1),if 0< (zq_ s a e 200).1 then((l.length:Nat):Int) - (zq_ s a e 200).1 else 0,(qz_ s (zq_ s a e 200).2.1 (zq_ s a e 200).2.2 65536).1⟩,(qz_ s (zq_ s a e 200).2.1 (zq_ s a e 200).2.2 65536).2):=rfl
    generalize zq_ s a e 200=x at*
    obtain⟨F,a1,e1⟩:=x
    simp only at hle1 hm1 hpc ⊢
    have hle2:=v2_ (s:=s) (a:=a1) (e:=e1) (most:=65536) hle1.2
    refine kn ?_
    refine ko @zS_ ?_
    first|with_reducible refine ks [] @zS_ ?_|refine kp @zS_ ?_
    refine Ow.callM rfl rfl Tryz.call96 (by simp[keys]) (fun w' hw'=>aat_ bw s a1 e1 65536 w' hle1.2 hs (hw'.has _ _ (List.mem_cons_of_mem _ List.mem_cons_self))) ?_
    generalize qz_ s a1 e1 65536=x at*
    obtain⟨t,a2,e2⟩:=x
    simp only at hle2 hpc ⊢
    refine kn ?_
    refine ko @zS_ ?_
    refine Ow.build (.agg (zr_ ⟨false,0,t⟩).toArray) rfl (Jx_ t) ?_
    have hst:=kU_ ⟨false,0,t⟩ q 114
    have hb4r:b4≠br:=by omega
    have hb4w:b4≠bw:=by omega
    refine ko (And.intro @zS_ @hst) ?_
    first|with_reducible refine ks [] @zS_ ?_|refine kp @zS_ ?_
    refine Ow.callFV rfl Tryz.call137 (fun w' hw'=>xj_ bw s a2 e2 w' (hw'.has _ _ (List.mem_cons_of_mem _ List.mem_cons_self))) ?_
    rw[zX_,hpc] at hpr
    simp only at hpr
    by_cases he:e2=0
    ·subst he
     rw[if_pos rfl] at hpr
     have d2: ((0:Int) !=0)=false:=rfl
     refine ko (And.intro @zS_ @d2) ?_
     obtain⟨p,hp⟩: ∃p,p=(⟨decide (0<F),if 0<F then((l.length:Nat):Int) - F else 0,t⟩:PartL):=⟨_,rfl⟩
     rw[←hp] at hpr
     refine Cw.cut (G:=PartL) 67 (fun g=> [(0,vp br 0),(1,vi n),(2,undef),(3,undef),(4,vp b4 0),(6,vi a)]) (fun g=>(b4, .cells (zr_ g).toArray 114 (0,0)):: (br,prO (vp bw 0) v1 v2):: (bw,wrO s a2 0):: (D1++ (D2++DG))) (fun g=>g=p) ?_ ?_
     ·refine Cw.permL (M:=(b4, .cells (zr_ ⟨false,0,t⟩).toArray 114 (0,0)):: (br,prO (vp bw 0) v1 v2):: (bw,wrO s a2 0):: (D1++ (D2++DG))) (by classical exact List.perm_iff_count.2 fun a=>by simp only[List.count_append,List.count_cons,List.count_nil]<;>omega) ?_
      by_cases hF:0<F
      ·have d3:decide ((0:Int)<F)=true:=decide_eq_true hF
       first|with_reducible refine ks [] (And.intro @zS_ @d3) ?_|refine kp (And.intro @zS_ @d3) ?_
       refine Cw.regionG [br] [10] 11 (by kernel_rfl) rfl ?_
       simp only[List.replicate_succ,List.replicate_zero]
       refine OwG.run [0,1,2,3,4,5,6,7] [true,true,true,true,true,true,true,true,false,false,false] 3 rfl (by kernel_rfl) (by kernel_rfl) fun k hk=> ?_
       simp only[zk_, ↓ze_, ↓zc_, ↓zt_, ↓zs_,zb_]
       simp(disch:=(first|assumption|omega| (simp only[jW_,jX_,UInt64.reduceToNat];try omega))) only[↓Sx.S0,Sx.S1,Tryz.fx,zS_,Nat.reduceAdd,Nat.reducePow,Int.reducePow,Nat.reduceBEq, ↓reduceIte,UInt8.reduceToNat,UInt16.reduceToNat,UInt32.reduceToNat,UInt64.reduceToNat,Int.reduceToNat,Md.next_sofnil,l1]
       (with_reducible refine hk _ _ _ ?_);clear hk k
       refine OwG.one 8 _ (by kernel_rfl) rfl ?_
       refine ko @zS_ ?_
       refine⟨(fun r hr=>by rw[List.mem_singleton] at hr;subst hr;simp(disch:=omega) only[zC_,zz_]), ?_⟩
       refine OwG.rest [9,10] rfl (by kernel_rfl) (by kernel_rfl) ?_
       simp only[zk_, ↓ze_, ↓zc_, ↓zt_, ↓zs_,zb_]
       refine kq @zS_ ?_
       refine Ow.store rfl rfl rfl (ke @zS_) ?_
       refine ko @zS_ ?_
       refine CutM.mk _ ?_ rfl rfl
       rw[hp,decide_eq_true hF,if_pos hF]
      ·have d3:decide ((0:Int)<F)=false:=decide_eq_false hF
       first|with_reducible refine ks [] (And.intro @zS_ @d3) ?_|refine kp (And.intro @zS_ @d3) ?_
       refine CutM.mk _ ?_ rfl rfl
       rw[hp,decide_eq_false hF,if_neg hF]
     ·intro g j hg
      simp only[adx_,adB_,pin,qx_,qB_,Nat.reduceAdd]
      subst hg
      clear hp
      generalize hpp:g=p at*
      obtain⟨O4,hO4⟩: ∃O,O=Obj.cells (zr_ p).toArray 114 (0,0):=⟨_,rfl⟩
      first|with_reducible refine ks [] @zS_ ?_|refine kp @zS_ ?_
      refine Cw.regionG [br,b4] [18,21] 22 (by kernel_rfl) rfl ?_
      simp only[List.replicate_succ,List.replicate_zero]
      refine OwG.run [0,1,2,3,4,5,6,9,10,11,12,13] [true,true,true,true,true,true,true,false,false,true,true,true,true,true,false,false,false,false,false,false,false,false] 10 rfl (by kernel_rfl) (by kernel_rfl) fun k hk=> ?_
      simp only[zk_, ↓ze_, ↓zc_, ↓zt_, ↓zs_,zb_]
      simp(disch:=(first|assumption|omega| (simp only[jW_,jX_,UInt64.reduceToNat];try omega))) only[↓Sx.S0,Sx.S1,Tryz.fx,zS_,Nat.reduceAdd,Nat.reducePow,Int.reducePow,Nat.reduceBEq, ↓reduceIte,UInt8.reduceToNat,UInt16.reduceToNat,UInt32.reduceToNat,UInt64.reduceToNat,Int.reduceToNat,Md.next_sofnil,Md.next_sofnil]
      (with_reducible refine hk _ _ _ ?_);clear hk k
      rw[←hO4]
      refine OwG.two 7 14 _ _ (by kernel_rfl) rfl rfl ?_ ?_
      ·refine Ow.buildSlice (e:=114) (zr_ p).toArray rfl rfl (qA_ (cs:=zr_ p) Tryz.underlying22 Tryz.ag114 w0_ (by decide) rfl) fun ba hba hwa=> ?_
       with_reducible refine Ow.nil ?_
       refine⟨qv_ (by simp[keys]), ?_⟩
       simp only[List.set_cons_zero,List.set_cons_succ,zL_,qx_,qB_]
       refine OwG.two 8 14 _ _ (by kernel_rfl) rfl rfl ?_ ?_
       ·refine Ow.permL (M:=D1++ ((b4,O4):: (br,prO (vp bw 0) v1 v2):: (bw,wrO s a2 0):: (D2++ (DG++ [(ba, .cells (zr_ p).toArray 114 (0,0))])))) (by classical exact List.perm_iff_count.2 fun a=>by simp only[List.count_append,List.count_cons,List.count_nil]<;>omega) ?_
        refine Ow.appendXG (e:=114) (k:=1) (new:=zr_ p) (X:=D1) v1 rfl rfl rfl rfl Tryz.underlying22 Tryz.ag114 (by kernel_rfl) w0_ (by rw[qa_];rfl) Tryz.underlying22 (by intro k h;cases h) hG1 (fun w' hw'=>AppX.one1 (hw'.has ba (.cells (zr_ p).toArray 114 (0,0)) (by simp)) (jP_ _) (wY_ _)) (by omega) (fun B4 v4 D4 hA4 hB4 hG4 hk41 hk42 hlk4=> ?_)
        have hN4:New w.heap.size D4:=New.of_le fun q hq=>by
         rcases hk42 q hq with h|h
         ·exact hN1.le q h
         ·omega
        refine Ow.permL (M:=(b4,O4):: (br,prO (vp bw 0) v1 v2):: (bw,wrO s a2 0):: (D4++ (D2++ (DG++ [(ba, .cells (zr_ p).toArray 114 (0,0))])))) (by classical exact List.perm_iff_count.2 fun a=>by simp only[List.count_append,List.count_cons,List.count_nil]<;>omega) ?_
        with_reducible refine Ow.nil ?_
        refine⟨(fun r hr=>by simp only[List.mem_cons,List.not_mem_nil,or_false] at hr;rcases hr with rfl|rfl<;>simp(disch:=omega) only[List.cons_append,List.nil_append,zC_,zz_]), ?_⟩
        simp only[List.set_cons_zero,List.set_cons_succ,zL_,qx_,qB_]
        refine OwG.one 14 _ (by kernel_rfl) rfl ?_
        refine Ow.buildSlice (e:=3) #[vi a] rfl rfl (by kernel_rfl) fun bc hbc hwc=> ?_
        with_reducible refine Ow.nil ?_
        refine⟨qv_ (by simp[keys]), ?_⟩
        simp only[List.set_cons_zero,List.set_cons_succ,zL_,qx_,qB_]
        refine OwG.permL (M:=(b4,O4):: (br,prO (vp bw 0) v1 v2):: (bw,wrO s a2 0):: (D4++ (D2++ (DG++ [(ba, .cells (zr_ p).toArray 114 (0,0)),(bc, .cells #[vi a] 3 (0,0))])))) (by classical exact List.perm_iff_count.2 fun a=>by simp only[List.count_append,List.count_cons,List.count_nil]<;>omega) (fun r hr=>by simp only[List.mem_cons,List.not_mem_nil,or_false] at hr;rcases hr with rfl|rfl<;>simp(disch:=omega) only[List.cons_append,List.nil_append,zC_,zz_]) ?_
        refine OwG.rest [15,16,17,18,19,20,21] rfl (by kernel_rfl) (by kernel_rfl) ?_
        simp only[zk_, ↓ze_, ↓zc_, ↓zt_, ↓zs_,zb_]
        refine Ow.soft rfl rfl rfl ?_
        refine Ow.permL (M:=D2++ ((b4,O4):: (br,prO (vp bw 0) v1 v2):: (bw,wrO s a2 0):: (D4++ (DG++ [(ba, .cells (zr_ p).toArray 114 (0,0)),(bc, .cells #[vi a] 3 (0,0))])))) (by classical exact List.perm_iff_count.2 fun a=>by simp only[List.count_append,List.count_cons,List.count_nil]<;>omega) ?_
        refine Ow.appendXG (e:=3) (k:=1) (new:=Vc_ a) (X:=D2) v2 rfl rfl rfl rfl Tryz.underlying28 (id (by kernel_rfl):zW_ Tryz.prog 3=some (false,1)) (by kernel_rfl) (id (by kernel_rfl):zK_ Tryz.prog 3=some (vi 0)) rfl Tryz.underlying28 (by intro k h;cases h) hG2 (fun w' hw'=>AppX.one1 (hw'.has bc (.cells #[vi a] 3 (0,0)) (by simp)) (Zf_ a) rfl) (by omega) (fun B5 v5 D5 hA5 hB5 hG5 hk51 hk52 hlk5=> ?_)
        have hN5:New w.heap.size D5:=New.of_le fun q hq=>by
         rcases hk52 q hq with h|h
         ·exact hN2.le q h
         ·omega
        refine Ow.permL (M:=(br,prO (vp bw 0) v1 v2):: (bw,wrO s a2 0):: (b4,O4):: (D4++ (D5++ (DG++ [(ba, .cells (zr_ p).toArray 114 (0,0)),(bc, .cells #[vi a] 3 (0,0))])))) (by classical exact List.perm_iff_count.2 fun a=>by simp only[List.count_append,List.count_cons,List.count_nil]<;>omega) ?_
        with_reducible refine Ow.nil ?_
        refine⟨(fun r hr=>by simp only[List.mem_cons,List.not_mem_nil,or_false] at hr;rcases hr with rfl|rfl<;>simp(disch:=omega) only[zC_,zz_]), ?_⟩
        have st4: ∀a,zl_ (some (a,1)) (some (prO (vp bw 0) v1 v2)) 1 v4=some (prO (vp bw 0) v4 v2):=fun a=>JL_ _ v1 v2 v4 a hG4.cell
        have st5: ∀a,zl_ (some (a,1)) (some (prO (vp bw 0) v4 v2)) 2 v5=some (prO (vp bw 0) v4 v5):=fun a=>Q0_ _ v4 v2 v5 a hG5.cell
        refine kq @zS_ ?_
        refine Ow.store rfl rfl rfl (ke (And.intro @zS_ @st4)) ?_
        refine ko (And.intro @zS_ @st5) ?_
        subst hO4
        refine Jump.mk ⟨1,l++ [p],sp++ [a],a2,0,v4,v5,b4,p,D4,D5,DG++ [(ba, .cells (zr_ p).toArray 114 (0,0)),(bc, .cells #[vi a] 3 (0,0))]⟩ rfl (by show n - (l++ [p]).length+1<n - l.length+1;simp;omega) ⟨hw4,hN4,hN5,hNG.app ⟨hwa,hwc,trivial⟩,by simpa using hG4,by simpa using hG5,by simp[hsl],hle2.2,by simp;omega, .inl ⟨rfl, ?_⟩⟩ rfl rfl
        rw[hpr]
        simp
       ·refine Ow.buildSlice (e:=3) #[vi a] rfl rfl (by kernel_rfl) fun bc hbc hwc=> ?_
        with_reducible refine Ow.nil ?_
        refine⟨qv_ (by simp[keys]), ?_⟩
        simp only[List.set_cons_zero,List.set_cons_succ,zL_,qx_,qB_]
        refine OwG.one 8 _ (by kernel_rfl) rfl ?_
        refine Ow.permL (M:=D1++ ((b4,O4):: (br,prO (vp bw 0) v1 v2):: (bw,wrO s a2 0):: (D2++ (DG++ [(ba, .cells (zr_ p).toArray 114 (0,0)),(bc, .cells #[vi a] 3 (0,0))])))) (by classical exact List.perm_iff_count.2 fun a=>by simp only[List.count_append,List.count_cons,List.count_nil]<;>omega) ?_
        refine Ow.appendXG (e:=114) (k:=1) (new:=zr_ p) (X:=D1) v1 rfl rfl rfl rfl Tryz.underlying22 Tryz.ag114 (by kernel_rfl) w0_ (by rw[qa_];rfl) Tryz.underlying22 (by intro k h;cases h) hG1 (fun w' hw'=>AppX.one1 (hw'.has ba (.cells (zr_ p).toArray 114 (0,0)) (by simp)) (jP_ _) (wY_ _)) (by omega) (fun B4 v4 D4 hA4 hB4 hG4 hk41 hk42 hlk4=> ?_)
        have hN4:New w.heap.size D4:=New.of_le fun q hq=>by
         rcases hk42 q hq with h|h
         ·exact hN1.le q h
         ·omega
        refine Ow.permL (M:=(b4,O4):: (br,prO (vp bw 0) v1 v2):: (bw,wrO s a2 0):: (D4++ (D2++ (DG++ [(ba, .cells (zr_ p).toArray 114 (0,0)),(bc, .cells #[vi a] 3 (0,0))])))) (by classical exact List.perm_iff_count.2 fun a=>by simp only[List.count_append,List.count_cons,List.count_nil]<;>omega) ?_
        with_reducible refine Ow.nil ?_
        refine⟨(fun r hr=>by simp only[List.mem_cons,List.not_mem_nil,or_false] at hr;rcases hr with rfl|rfl<;>simp(disch:=omega) only[List.cons_append,List.nil_append,zC_,zz_]), ?_⟩
        simp only[List.set_cons_zero,List.set_cons_succ,zL_,qx_,qB_]
        refine OwG.permL (M:=(b4,O4):: (br,prO (vp bw 0) v1 v2):: (bw,wrO s a2 0):: (D4++ (D2++ (DG++ [(ba, .cells (zr_ p).toArray 114 (0,0)),(bc, .cells #[vi a] 3 (0,0))])))) (by classical exact List.perm_iff_count.2 fun a=>by simp only[List.count_append,List.count_cons,List.count_nil]<;>omega) (fun r hr=>by simp only[List.mem_cons,List.not_mem_nil,or_false] at hr;rcases hr with rfl|rfl<;>simp(disch:=omega) only[List.cons_append,List.nil_append,zC_,zz_]) ?_
        refine OwG.rest [15,16,17,18,19,20,21] rfl (by kernel_rfl) (by kernel_rfl) ?_
        simp only[zk_, ↓ze_, ↓zc_, ↓zt_, ↓zs_,zb_]
        refine Ow.soft rfl rfl rfl ?_
        refine Ow.permL (M:=D2++ ((b4,O4):: (br,prO (vp bw 0) v1 v2):: (bw,wrO s a2 0):: (D4++ (DG++ [(ba, .cells (zr_ p).toArray 114 (0,0)),(bc, .cells #[vi a] 3 (0,0))])))) (by classical exact List.perm_iff_count.2 fun a=>by simp only[List.count_append,List.count_cons,List.count_nil]<;>omega) ?_
        refine Ow.appendXG (e:=3) (k:=1) (new:=Vc_ a) (X:=D2) v2 rfl rfl rfl rfl Tryz.underlying28 (id (by kernel_rfl):zW_ Tryz.prog 3=some (false,1)) (by kernel_rfl) (id (by kernel_rfl):zK_ Tryz.prog 3=some (vi 0)) rfl Tryz.underlying28 (by intro k h;cases h) hG2 (fun w' hw'=>AppX.one1 (hw'.has bc (.cells #[vi a] 3 (0,0)) (by simp)) (Zf_ a) rfl) (by omega) (fun B5 v5 D5 hA5 hB5 hG5 hk51 hk52 hlk5=> ?_)
        have hN5:New w.heap.size D5:=New.of_le fun q hq=>by
         rcases hk52 q hq with h|h
         ·exact hN2.le q h
         ·omega
        refine Ow.permL (M:=(br,prO (vp bw 0) v1 v2):: (bw,wrO s a2 0):: (b4,O4):: (D4++ (D5++ (DG++ [(ba, .cells (zr_ p).toArray 114 (0,0)),(bc, .cells #[vi a] 3 (0,0))])))) (by classical exact List.perm_iff_count.2 fun a=>by simp only[List.count_append,List.count_cons,List.count_nil]<;>omega) ?_
        with_reducible refine Ow.nil ?_
        refine⟨(fun r hr=>by simp only[List.mem_cons,List.not_mem_nil,or_false] at hr;rcases hr with rfl|rfl<;>simp(disch:=omega) only[zC_,zz_]), ?_⟩
        have st4: ∀a,zl_ (some (a,1)) (some (prO (vp bw 0) v1 v2)) 1 v4=some (prO (vp bw 0) v4 v2):=fun a=>JL_ _ v1 v2 v4 a hG4.cell
        have st5: ∀a,zl_ (some (a,1)) (some (prO (vp bw 0) v4 v2)) 2 v5=some (prO (vp bw 0) v4 v5):=fun a=>Q0_ _ v4 v2 v5 a hG5.cell
        refine kq @zS_ ?_
        refine Ow.store rfl rfl rfl (ke (And.intro @zS_ @st4)) ?_
        refine ko (And.intro @zS_ @st5) ?_
        subst hO4
        refine Jump.mk ⟨1,l++ [p],sp++ [a],a2,0,v4,v5,b4,p,D4,D5,DG++ [(ba, .cells (zr_ p).toArray 114 (0,0)),(bc, .cells #[vi a] 3 (0,0))]⟩ rfl (by show n - (l++ [p]).length+1<n - l.length+1;simp;omega) ⟨hw4,hN4,hN5,hNG.app ⟨hwa,hwc,trivial⟩,by simpa using hG4,by simpa using hG5,by simp[hsl],hle2.2,by simp;omega, .inl ⟨rfl, ?_⟩⟩ rfl rfl
        rw[hpr]
        simp
      ·refine Ow.buildSlice (e:=3) #[vi a] rfl rfl (by kernel_rfl) fun bc hbc hwc=> ?_
       with_reducible refine Ow.nil ?_
       refine⟨qv_ (by simp[keys]), ?_⟩
       simp only[List.set_cons_zero,List.set_cons_succ,zL_,qx_,qB_]
       refine OwG.one 7 _ (by kernel_rfl) rfl ?_
       refine Ow.buildSlice (e:=114) (zr_ p).toArray rfl rfl (qA_ (cs:=zr_ p) Tryz.underlying22 Tryz.ag114 w0_ (by decide) rfl) fun ba hba hwa=> ?_
       with_reducible refine Ow.nil ?_
       refine⟨qv_ (by simp[keys]), ?_⟩
       simp only[List.set_cons_zero,List.set_cons_succ,zL_,qx_,qB_]
       refine OwG.one 8 _ (by kernel_rfl) rfl ?_
       refine Ow.permL (M:=D1++ ((b4,O4):: (br,prO (vp bw 0) v1 v2):: (bw,wrO s a2 0):: (D2++ (DG++ [(ba, .cells (zr_ p).toArray 114 (0,0)),(bc, .cells #[vi a] 3 (0,0))])))) (by classical exact List.perm_iff_count.2 fun a=>by simp only[List.count_append,List.count_cons,List.count_nil]<;>omega) ?_
       refine Ow.appendXG (e:=114) (k:=1) (new:=zr_ p) (X:=D1) v1 rfl rfl rfl rfl Tryz.underlying22 Tryz.ag114 (by kernel_rfl) w0_ (by rw[qa_];rfl) Tryz.underlying22 (by intro k h;cases h) hG1 (fun w' hw'=>AppX.one1 (hw'.has ba (.cells (zr_ p).toArray 114 (0,0)) (by simp)) (jP_ _) (wY_ _)) (by omega) (fun B4 v4 D4 hA4 hB4 hG4 hk41 hk42 hlk4=> ?_)
       have hN4:New w.heap.size D4:=New.of_le fun q hq=>by
        rcases hk42 q hq with h|h
        ·exact hN1.le q h
        ·omega
       refine Ow.permL (M:=(b4,O4):: (br,prO (vp bw 0) v1 v2):: (bw,wrO s a2 0):: (D4++ (D2++ (DG++ [(ba, .cells (zr_ p).toArray 114 (0,0)),(bc, .cells #[vi a] 3 (0,0))])))) (by classical exact List.perm_iff_count.2 fun a=>by simp only[List.count_append,List.count_cons,List.count_nil]<;>omega) ?_
       with_reducible refine Ow.nil ?_
       refine⟨(fun r hr=>by simp only[List.mem_cons,List.not_mem_nil,or_false] at hr;rcases hr with rfl|rfl<;>simp(disch:=omega) only[List.cons_append,List.nil_append,zC_,zz_]), ?_⟩
       simp only[List.set_cons_zero,List.set_cons_succ,zL_,qx_,qB_]
       refine OwG.permL (M:=(b4,O4):: (br,prO (vp bw 0) v1 v2):: (bw,wrO s a2 0):: (D4++ (D2++ (DG++ [(ba, .cells (zr_ p).toArray 114 (0,0)),(bc, .cells #[vi a] 3 (0,0))])))) (by classical exact List.perm_iff_count.2 fun a=>by simp only[List.count_append,List.count_cons,List.count_nil]<;>omega) (fun r hr=>by simp only[List.mem_cons,List.not_mem_nil,or_false] at hr;rcases hr with rfl|rfl<;>simp(disch:=omega) only[List.cons_append,List.nil_append,zC_,zz_]) ?_
       refine OwG.rest [15,16,17,18,19,20,21] rfl (by kernel_rfl) (by kernel_rfl) ?_
       simp only[zk_, ↓ze_, ↓zc_, ↓zt_, ↓zs_,zb_]
       refine Ow.soft rfl rfl rfl ?_
       refine Ow.permL (M:=D2++ ((b4,O4):: (br,prO (vp bw 0) v1 v2):: (bw,wrO s a2 0):: (D4++ (DG++ [(ba, .cells (zr_ p).toArray 114 (0,0)),(bc, .cells #[vi a] 3 (0,0))])))) (by classical exact List.perm_iff_count.2 fun a=>by simp only[List.count_append,List.count_cons,List.count_nil]<;>omega) ?_
       refine Ow.appendXG (e:=3) (k:=1) (new:=Vc_ a) (X:=D2) v2 rfl rfl rfl rfl Tryz.underlying28 (id (by kernel_rfl):zW_ Tryz.prog 3=some (false,1)) (by kernel_rfl) (id (by kernel_rfl):zK_ Tryz.prog 3=some (vi 0)) rfl Tryz.underlying28 (by intro k h;cases h) hG2 (fun w' hw'=>AppX.one1 (hw'.has bc (.cells #[vi a] 3 (0,0)) (by simp)) (Zf_ a) rfl) (by omega) (fun B5 v5 D5 hA5 hB5 hG5 hk51 hk52 hlk5=> ?_)
       have hN5:New w.heap.size D5:=New.of_le fun q hq=>by
        rcases hk52 q hq with h|h
        ·exact hN2.le q h
        ·omega
       refine Ow.permL (M:=(br,prO (vp bw 0) v1 v2):: (bw,wrO s a2 0):: (b4,O4):: (D4++ (D5++ (DG++ [(ba, .cells (zr_ p).toArray 114 (0,0)),(bc, .cells #[vi a] 3 (0,0))])))) (by classical exact List.perm_iff_count.2 fun a=>by simp only[List.count_append,List.count_cons,List.count_nil]<;>omega) ?_
       with_reducible refine Ow.nil ?_
       refine⟨(fun r hr=>by simp only[List.mem_cons,List.not_mem_nil,or_false] at hr;rcases hr with rfl|rfl<;>simp(disch:=omega) only[zC_,zz_]), ?_⟩
       have st4: ∀a,zl_ (some (a,1)) (some (prO (vp bw 0) v1 v2)) 1 v4=some (prO (vp bw 0) v4 v2):=fun a=>JL_ _ v1 v2 v4 a hG4.cell
       have st5: ∀a,zl_ (some (a,1)) (some (prO (vp bw 0) v4 v2)) 2 v5=some (prO (vp bw 0) v4 v5):=fun a=>Q0_ _ v4 v2 v5 a hG5.cell
       refine kq @zS_ ?_
       refine Ow.store rfl rfl rfl (ke (And.intro @zS_ @st4)) ?_
       refine ko (And.intro @zS_ @st5) ?_
       subst hO4
       refine Jump.mk ⟨1,l++ [p],sp++ [a],a2,0,v4,v5,b4,p,D4,D5,DG++ [(ba, .cells (zr_ p).toArray 114 (0,0)),(bc, .cells #[vi a] 3 (0,0))]⟩ rfl (by show n - (l++ [p]).length+1<n - l.length+1;simp;omega) ⟨hw4,hN4,hN5,hNG.app ⟨hwa,hwc,trivial⟩,by simpa using hG4,by simpa using hG5,by simp[hsl],hle2.2,by simp;omega, .inl ⟨rfl, ?_⟩⟩ rfl rfl
       rw[hpr]
       simp
    ·have d2: (e2 !=0)=true:=bne_iff_ne.2 he
     rw[if_neg he] at hpr
     refine ko (And.intro @zS_ @d2) ?_
     first|with_reducible refine ks [] (And.intro @zS_ @d2) ?_|refine kp (And.intro @zS_ @d2) ?_
     refine Jump.mk ⟨0,l,sp,a2,e2,v1,v2,b4,_,D1,D2,DG⟩ rfl (by show 0<n - l.length+1;omega) ⟨hw4,hN1,hN2,hNG,hG1,hG2,hsl,hle2.2,hln, .inr ⟨rfl, ?_⟩⟩ rfl rfl
     rw[hpr]
     simp
  ·obtain⟨hlab,hpr⟩:=hg
   simp only at hlab
   subst hlab
   simp only[RdL,RdH] at hpr ⊢
   simp only[xX_,Qp_,Bool.or_false,Bool.false_or,Bool.or_true,Bool.true_or,Nat.reduceBEq,beq_self_eq_true, ↓reduceIte,Bool.false_eq_true]
   refine kv ?_
   try with_reducible refine qi_ ?_
   first|with_reducible refine ks [] @zS_ ?_|refine kp @zS_ ?_
   refine⟨_,(ke @zS_), ?_⟩
   refine⟨abC_ ⟨hw4,hNr⟩,rfl,v1,v2,_,by rw[hpr], ?_, ?_⟩
   ·rw[hpr];exact Gr.i hG1 fun c hc=>by simp[hc]
   ·rw[hpr];exact Gr.i hG2 fun c hc=>by simp[hc]
 ·intro key
  repeat ((try with_reducible refine Cw.go [999999] ?_);(simp(disch:=(first|assumption|omega| (simp only[jW_,jX_,UInt64.reduceToNat];try omega))) only[↓Sx.S0,Sx.S1,Tryz.fx,zS_,Nat.reduceAdd,Nat.reducePow,Int.reducePow,Nat.reduceBEq, ↓reduceIte,UInt8.reduceToNat,UInt16.reduceToNat,UInt32.reduceToNat,UInt64.reduceToNat,Int.reduceToNat]))
  refine Ow.alloc rfl rfl w0_ fun b4 hb4 hw4=> ?_
  simp only[zd_,List.nil_append,List.cons_append]
  refine ko @zS_ ?_
  repeat ((try with_reducible refine Cw.go [999999] ?_);(simp(disch:=(first|assumption|omega| (simp only[jW_,jX_,UInt64.reduceToNat];try omega))) only[↓Sx.S0,Sx.S1,Tryz.fx,zS_,Nat.reduceAdd,Nat.reducePow,Int.reducePow,Nat.reduceBEq, ↓reduceIte,UInt8.reduceToNat,UInt16.reduceToNat,UInt32.reduceToNat,UInt64.reduceToNat,Int.reduceToNat]))
  have key0:=fun f'=>key (⟨1,[],[],a0,e0, .slice none 0 0, .slice none 0 0,b4,z1_,[],[],[]⟩) f'
  simp only[xX_,Qp_,Bool.or_false,Bool.false_or,Bool.or_true,Bool.true_or,Nat.reduceBEq,beq_self_eq_true, ↓reduceIte,Bool.false_eq_true] at key0
  clear key
  refine Cw.label ?_
  refine key0 _ ⟨hw4,trivial,trivial,trivial,Gr.nl,Gr.nl,rfl,ha,Nat.zero_le _, .inl ⟨rfl, ?_⟩⟩ ?_
  ·rfl
  ·rfl
end Go.Proofs
end
section
open Go Go.Proofs Go.Sx Go.StP Go.Flo
namespace Go.Proofs
set_option maxRecDepth 10000
set_option maxHeartbeats 400000
set_option linter.unusedSimpArgs false
abbrev aoB_ (w:World) (v:Value) (l:List Nat):Prop:=SlV 1 Vc_ 0 w v l
abbrev ObSl (w:World) (v:Value) (l:List ObL):Prop:=SlV 2 obC ob0 w v l
def PackIn (w:World) (bp:Nat) (l:List PartL) (sp:List Nat) (ids:List IdL) (os:List ObL):Prop:=
 ∃v0 v1 v2 v3,w.heap[bp]? =some (pkO v0 v1 v2 v3)∧kO_ w v0 l∧aoB_ w v1 sp∧IdS w v2 ids∧ObSl w v3 os
def PackD (D:za_) (bp:Nat) (l:List PartL) (sp:List Nat) (ids:List IdL) (os:List ObL):Prop:=
 ∃v0 v1 v2 v3,(bp,pkO v0 v1 v2 v3)∈D∧GrI D 114 3 v0 l.length (l.map zr_).flatten∧GrI D 3 1 v1 sp.length (sp.map Vc_).flatten∧GrI D 37 32 v2 ids.length (ids.map w3_).flatten∧GrI D 43 2 v3 os.length (os.map obC).flatten
theorem PackD.mono {D D':za_} {bp:Nat} {l:List PartL} {sp:List Nat} {ids:List IdL} {os:List ObL} (h:PackD D bp l sp ids os) (hD: ∀p,p∈D→p∈D'):PackD D' bp l sp ids os:=by
 obtain⟨v0,v1,v2,v3,h1,h2,h3,h4,h5⟩:=h
 exact⟨v0,v1,v2,v3,hD _ h1,h2.mono hD,h3.mono hD,h4.mono hD,h5.mono hD⟩
theorem PackD.inW {w0 w:World} {D L:za_} {bp:Nat} {l:List PartL} {sp:List Nat} {ids:List IdL} {os:List ObL} (h:PackD D bp l sp ids os) (hD: ∀p,p∈D→p∈L) (hw:Hp w0 L w):PackIn w bp l sp ids os:=by
 obtain⟨v0,v1,v2,v3,h1,h2,h3,h4,h5⟩:=h.mono hD
 exact⟨v0,v1,v2,v3,hw.has _ _ h1,h2.slV hw rfl rfl jP_,h3.slV hw rfl rfl Zf_,h4.slV hw rfl rfl xi_,h5.slV hw rfl rfl Kx_⟩
theorem PackIn.old {w w':World} {L:za_} {bp:Nat} {l:List PartL} {sp:List Nat} {ids:List IdL} {os:List ObL} (h:PackIn w bp l sp ids os) (hw:Hp w L w') (hn:New w.heap.size L):PackIn w' bp l sp ids os:=by
 obtain⟨v0,v1,v2,v3,h1,h2,h3,h4,h5⟩:=h
 exact⟨v0,v1,v2,v3,by rw[hw.old bp (Array.getElem?_eq_some_iff.1 h1).1 (hn.not (Array.getElem?_eq_some_iff.1 h1).1)];exact h1,h2.oldN hw hn,h3.oldN hw hn,h4.oldN hw hn,h5.oldN hw hn⟩
theorem apw_ (b o:Nat):qu_ Tryz.prog .eql 38 (vp b o) (.pointer none)=some (.bool false):=by
 simp[qu_,eqX,qm_,qt_,Tryz.underlying38,vp]
theorem aki_ {w:World} {v:Value} {l:List Nat} {b off:Nat} {arr:Array Value} {E:TypeId} {fz:Nat×Nat} (h:RowS 1 Vc_ 0 w v l b off arr E fz) {k:Nat} (hk:k<l.length) (n:Nat):
  zo_ (some (false,n)) (some (.cells arr E fz)) (off+k)=some (vi (l.getD k 0)):=by
 have:=h.cell (j:=0) (n:=n) hk (by omega)
 rwa [Nat.mul_one,Nat.add_zero] at this
set_option linter.defProp false
def qj_:=And.intro (And.intro (And.intro (@zg_) (And.intro (@zf_) (@Vf_))) (And.intro (@acM_) (And.intro (@adE_) (@ac3_)))) (And.intro (And.intro (@apw_) (And.intro (@qQ_) (@qh_))) (And.intro (@qf_) (And.intro (@qn_) (@ji_))))
theorem VN_ (bp:Nat) (l:List PartL) (sp:List Nat) (ids:List IdL) (os:List ObL) (w:World) (h:PackIn w bp l sp ids os):
  Rets Tryz.prog 20 #[vp bp 0] w (fun v D=>v=vi l.length∧D= []):=by
 obtain⟨v0,v1,v2,v3,h1,h2,h3,h4,h5⟩:=h
 have ln:=h2.len
 refine Rets.enterV Tryz.func20 rfl (rs:= [.tmp 2]) Tryz.results20 Tryz.ntmps20 ?_
 refine kf ?_
 first|with_reducible refine ks [] (And.intro @qj_ (And.intro @h1 (@ln))) ?_|refine kp (And.intro @qj_ (And.intro @h1 (@ln))) ?_
 refine⟨_,(ke @qj_),trivial, ?_⟩
 rfl
def hasV (l:List PartL) (i:Int):Bool:=decide (0≤i)&&decide (i< (l.length:Int))
theorem Wf_ (bp:Nat) (i:Int) (l:List PartL) (sp:List Nat) (ids:List IdL) (os:List ObL) (w:World) (h:PackIn w bp l sp ids os):
  Rets Tryz.prog 77 #[vp bp 0,vi i] w (fun v D=>v= .bool (hasV l i)∧D= []):=by
 refine Rets.enterV Tryz.func77 rfl (rs:= [.tmp 4]) Tryz.results77 Tryz.ntmps77 ?_
 refine kf ?_
 unfold hasV
 by_cases hi:0≤i
 ·have d1:decide (0≤i)=true:=decide_eq_true hi
  rw[d1,Bool.true_and]
  first|with_reducible refine ks [] (And.intro @qj_ @d1) ?_|refine kp (And.intro @qj_ @d1) ?_
  refine Ow.callFV rfl Tryz.call20 (fun w' hw'=>VN_ bp l sp ids os w' (h.old hw' trivial)) ?_
  refine ko (And.intro @qj_ @d1) ?_
  first|with_reducible refine ks [] @qj_ ?_|refine kp @qj_ ?_
  refine⟨_,(ke @qj_),trivial, ?_⟩
  rfl
 ·have d1:decide (0≤i)=false:=decide_eq_false hi
  rw[d1,Bool.false_and]
  first|with_reducible refine ks [] (And.intro @qj_ @d1) ?_|refine kp (And.intro @qj_ @d1) ?_
  refine⟨_,(ke @qj_),trivial, ?_⟩
  rfl
theorem XM_ (bp:Nat) (i:Int) (l:List PartL) (sp:List Nat) (ids:List IdL) (os:List ObL) (w:World) (h:PackIn w bp l sp ids os) (hsp:sp.length=l.length):
  Rets Tryz.prog 23 #[vp bp 0,vi i] w (fun v D=>v=vi (if hasV l i then((sp.getD i.toNat 0:Nat):Int) else 0)∧D= []):=by
 obtain⟨v0,v1,v2,v3,h1,h2,h3,h4,h5⟩:=id h
 obtain⟨b,off,arr,E,fz,hr⟩:=h3.row
 refine Rets.enterV Tryz.func23 rfl (rs:= [.tmp 4]) Tryz.results23 Tryz.ntmps23 ?_
 refine kf ?_
 first|with_reducible refine ks [] @qj_ ?_|refine kp @qj_ ?_
 refine Ow.callFV rfl Tryz.call77 (fun w' hw'=>Wf_ bp i l sp ids os w' (h.old hw' trivial)) ?_
 cases hc:hasV l i with
 |false=>
  refine ko @qj_ ?_
  first|with_reducible refine ks [] @qj_ ?_|refine kp @qj_ ?_
  refine⟨_,(ke @qj_),trivial, ?_⟩
  rfl
 |true=>
  unfold hasV at hc
  simp only[Bool.and_eq_true,decide_eq_true_eq] at hc
  obtain⟨k,rfl⟩: ∃k:Nat,i=(k:Int):=⟨i.toNat,by omega⟩
  have hk:k<sp.length:=by omega
  have hx:=hr.has (by omega)
  have ix:=hr.idx false k hk
  rw[Nat.mul_one] at ix
  have ld:=aki_ hr hk
  refine ko @qj_ ?_
  first|with_reducible refine ks [] (And.intro @qj_ (And.intro @h1 (And.intro @hx (And.intro @ix (@ld))))) ?_|refine kp (And.intro @qj_ (And.intro @h1 (And.intro @hx (And.intro @ix (@ld))))) ?_
  refine⟨_,(ke @qj_),trivial, ?_⟩
  rfl
theorem acZ_ (bp:Nat) (i:Int) (l:List PartL) (sp:List Nat) (ids:List IdL) (os:List ObL) (w:World) (h:PackIn w bp l sp ids os) (hsp:ids.length=l.length):
  Rets Tryz.prog 22 #[vp bp 0,vi i] w (fun v D=>v= .agg (a8 (if hasV l i then ids.getD i.toNat id0 else id0).l)∧D= []):=by
 obtain⟨v0,v1,v2,v3,h1,h2,h3,h4,h5⟩:=id h
 obtain⟨b,off,arr,E,fz,hr⟩:=h4.row
 have hi0:=id0.h
 refine Rets.enterV Tryz.func22 rfl (rs:= [.cell 4 37]) Tryz.results22 Tryz.ntmps22 ?_
 refine kf ?_
 first|with_reducible refine ks [] @qj_ ?_|refine kp @qj_ ?_
 refine Ow.alloc rfl rfl QS_ fun b4 hb4 hw4=> ?_
 simp only[zd_,List.nil_append,List.cons_append]
 refine ko @qj_ ?_
 first|with_reducible refine ks [] @qj_ ?_|refine kp @qj_ ?_
 refine Ow.callFV rfl Tryz.call77 (fun w' hw'=>Wf_ bp i l sp ids os w' (h.old hw' ⟨hw4,trivial⟩)) ?_
 cases hc:hasV l i with
 |false=>
  refine ko @qj_ ?_
  first|with_reducible refine ks [] @qj_ ?_|refine kp @qj_ ?_
  refine Ow.build (.agg (a8 id0.l)) rfl V2_ ?_
  refine ko @qj_ ?_
  first|with_reducible refine ks [] @qj_ ?_|refine kp @qj_ ?_
  refine⟨_,(ke @qj_),⟨hw4,trivial⟩, ?_⟩
  rfl
 |true=>
  unfold hasV at hc
  simp only[Bool.and_eq_true,decide_eq_true_eq] at hc
  obtain⟨k,rfl⟩: ∃k:Nat,i=(k:Int):=⟨i.toNat,by omega⟩
  have hk:k<ids.length:=by omega
  have hx:=hr.has (by omega)
  have hbl:=hr.lt (by omega)
  have hbp:=(Array.getElem?_eq_some_iff.1 h1).1
  have hn4:b4≠b:=by omega
  have hn4p:b4≠bp:=by omega
  have ix:=hr.idx true k hk
  have ld:=air_ hr hk
  have hil:=(ids.getD k id0).h
  refine ko @qj_ ?_
  first|with_reducible refine ks [] (And.intro @qj_ (And.intro @h1 (And.intro @hx (And.intro @ix (@ld))))) ?_|refine kp (And.intro @qj_ (And.intro @h1 (And.intro @hx (And.intro @ix (@ld))))) ?_
  refine⟨_,(ke @qj_),⟨hw4,trivial⟩, ?_⟩
  rfl
theorem afc_ (bp:Nat) (x:IdL) (l:List PartL) (sp:List Nat) (ids:List IdL) (os:List ObL) (w:World) (h:PackIn w bp l sp ids os) (hl:ids.length<1000000):
  Rets Tryz.prog 24 #[vp bp 0, .agg (a8 x.l)] w (fun v D=>v=vi (idxG x ids 0)∧D= []):=by
 obtain⟨v0,v1,v2,v3,h1,h2,h3,h4,h5⟩:=id h
 have hbp:=(Array.getElem?_eq_some_iff.1 h1).1
 refine Rets.enterV Tryz.func24 rfl (rs:= [.tmp 4]) Tryz.results24 Tryz.ntmps24 ?_
 refine kf ?_
 first|with_reducible refine ks [] @qj_ ?_|refine kp @qj_ ?_
 refine Ow.box rfl rfl fun b1 hb1 hw1=> ?_
 simp only[qy_,qr_,qs_,zd_,List.nil_append]
 have hn:b1≠bp:=by omega
 refine ko @qj_ ?_
 first|with_reducible refine ks [] @qj_ ?_|refine kp @qj_ ?_
 refine Cw.regionS [b1,bp] [0,1,2,3,4,5,6] [] (by kernel_rfl) (by kernel_rfl) (by kernel_rfl) ?_
 simp only[zk_, ↓ze_, ↓zc_, ↓zt_, ↓zs_,zb_]
 refine kq (And.intro @qj_ @h1) ?_
 refine Ow.callFV rfl Tryz.call79 (fun w' hw'=>Z3_ v2 ids x w' (h4.oldN hw' ⟨hw1,trivial⟩) hl) ?_
 refine kq @qj_ ?_
 first|with_reducible refine ks [] @qj_ ?_|refine kp @qj_ ?_
 refine⟨_,(ke @qj_),⟨hw1,trivial⟩, ?_⟩
 rfl
end Go.Proofs
end
section
open Go Go.Proofs Go.Sx Go.StP Go.Flo
namespace Go.Proofs
set_option maxRecDepth 10000
set_option maxHeartbeats 400000
set_option linter.unusedSimpArgs false
theorem ql_ {w0:World} {L X D:za_} (hC:Came w0 L X D) (hX:New w0.heap.size X):New w0.heap.size D:=New.of_le fun c hc=>by
 rcases hC.new c hc with h| ⟨-,h⟩
 ·exact hX.le c h
 ·exact h
theorem GlobC.newP {w0 w:World} {L:za_} (hg:GlobC w0) (h:Hp w0 L w) (hn:New w0.heap.size L):GlobC w:=
 hg.of h (hn.not (by obtain⟨e,f,h⟩:=hg;exact(Array.getElem?_eq_some_iff.1 h).1))
theorem zrPk:zK_ Tryz.prog 117=some (.agg #[.slice none 0 0, .slice none 0 0, .slice none 0 0, .slice none 0 0]):=id (by kernel_rfl)
theorem ag4_ {w:World} {v0:Value} {l:List PartL} (hv:kO_ w v0 l):qV_ (vo_ Tryz.prog 117) (zK_ Tryz.prog 117) [(0,v0)]=some (.agg #[v0, .slice none 0 0, .slice none 0 0, .slice none 0 0]):=by
 rw[show vo_ Tryz.prog 117=some [(0,1),(1,1),(2,1),(3,1)] from id (by kernel_rfl),zrPk]
 obtain⟨b,off,c,arr,E,fz,hr,hc,⟨rfl,rfl,rfl⟩ | ⟨rfl,hb,hsz⟩⟩:=hv<;>rfl
theorem aoe_ {α:Type} {m:Nat} {enc:α→List Value} {z:α} {w:World} {v:Value} {l:List α} (hv:SlV m enc z w v l) {b:Nat} (hb:slB v=some b):b<w.heap.size:=by
 obtain⟨bb,off,c,arr,E,fz,hr,hc,⟨rfl,-,-⟩ | ⟨rfl,h,-⟩⟩:=hv
 ·cases hb
 ·cases hb;exact(Array.getElem?_eq_some_iff.1 h).1
theorem wI_: ∀ (l:List PartL) (i g:Nat),g<l.length→qT_ i (l.take (g+1))=qT_ i (l.take g)++kE_ (i+g) (l.getD g z1_)
 | [],_,_,h=>absurd h (Nat.not_lt_zero _)
 |p::r,i,0,_=>by simp[qT_]
 |p::r,i,g+1,h=>by
  have:=wI_ r (i+1) g (by simpa using h)
  rw[List.take_succ_cons,qT_,this,List.take_succ_cons,qT_,List.getD_cons_succ,List.append_assoc,show i+1+g=i+ (g+1) by omega]
def SmallP (l:List PartL):Prop:= ∀g,g<l.length→(l.getD g z1_).x.length≤17000000
theorem ZV_ {l:List PartL} {q:List IdL×List ObL} (h:fillV l=some q):SmallP l:=by
 unfold fillV at h
 cases ha:ZJ_ l with
 |error e=>rw[ha] at h;cases h
 |ok ts=>
  unfold ZJ_ at ha
  split at ha
  ·cases ha
  ·intro k hk
   have hp:=vg_ _ _ ha k hk
   unfold partV at hp
   cases hq:j4_ l (k:Nat) with
   |error e=>rw[hq] at hp;cases hp
   |ok p=>
    rw[hq] at hp
    change wW_ l p= .ok _ at hp
    have hpk: ∃r,p=k::r:=by
     rcases j3_ hk hq with⟨rfl,-⟩ | ⟨b,q,rfl,-⟩
     ·exact⟨[],rfl⟩
     ·exact⟨q,rfl⟩
    obtain⟨r,rfl⟩:=hpk
    unfold wW_ at hp
    cases hf:wW_ l r with
    |error e=>rw[hf] at hp;cases hp
    |ok t=>
     rw[hf] at hp
     change(if(jB_ (l.getD k z1_) t).2=0 then _ else _)=_ at hp
     split at hp
     ·rename_i h0
      unfold jB_ at h0
      split at h0
      ·unfold xu_ at h0
       split at h0
       ·exact absurd (show(2:Int)=0 from h0) (by decide)
       ·rename_i p' hd;exact aer_ hd
      ·split at h0
       ·exact absurd (show(19:Int)=0 from h0) (by decide)
       ·omega
     ·cases hp
theorem SmallP.bnd {l:List PartL} (h:SmallP l):BndL l:=fun g hg=>Nat.lt_of_le_of_lt (h g hg) (by omega)
theorem ae2_ {i:Nat} {p:PartL} (h:p.x.length≤17000000): (kE_ i p).length≤17000012:=by
 have h1:=zp_ (Qr_ i p)
 have h2:=zp_ (p.x.length:Int)
 unfold kE_ xq_
 rw[List.length_append,List.length_append]
 omega
theorem v5_ {l:List PartL} (h:SmallP l): ∀g,g≤l.length→(qT_ 0 (l.take g)).length≤g*17000012
 |0,_=>by simp[qT_]
 |g+1,hg=>by
  rw[wI_ l 0 g hg,List.length_append]
  have:=v5_ h g (by omega)
  have:=ae2_ (i:=0+g) (h g hg)
  omega
theorem af7_ {l:List PartL} {q:List IdL×List ObL} (h:fillV l=some q) {k:Nat} (hk:k<l.length) (hd: (l.getD k z1_).d=true):0≤ (l.getD k z1_).b∧(l.getD k z1_).b<k:=by
 unfold fillV at h
 cases ha:ZJ_ l with
 |error e=>rw[ha] at h;cases h
 |ok ts=>
  unfold ZJ_ at ha
  split at ha
  ·cases ha
  ·have hp:=vg_ _ _ ha k hk
   unfold partV at hp
   cases hq:j4_ l (k:Nat) with
   |error e=>rw[hq] at hp;cases hp
   |ok p=>
    rcases j3_ hk hq with⟨-,hd',-⟩ | ⟨b,q,-,-,hb,hlt,-⟩
    ·rw[hd] at hd';cases hd'
    ·rw[hb];omega
structure PwG where
 k:Nat
 D:za_
set_option linter.defProp false
def qp_:=And.intro (And.intro (And.intro (@zg_) (@zf_)) (And.intro (@Vf_) (And.intro (@jd_) (@jg_)))) (And.intro (And.intro (@jh_) (And.intro (@wh_) (@qa_))) (And.intro (@kU_) (And.intro (@Sx.tup2_0) (@Sx.tup2_1))))
theorem Jq_ (v0:Value) (l:List PartL) (w:World) (hv:kO_ w v0 l) (hG:GlobE w) (hC:GlobC w) (hb:BndL l) (hl:l.length<1000000):
  Rets Tryz.prog 14 #[v0] w (fun v D=>v= .tuple #[vs (wU_ l).1,vi (wU_ l).2]∧D= []):=by
 have hgr:3<w.heap.size:=by obtain⟨e0,e1,f0,f1,h0,h1⟩:=hG;exact(Array.getElem?_eq_some_iff.1 h1).1
 obtain⟨b1,off,arr,E,fz,hr⟩:=hv.row
 have ln:=hv.len
 refine Rets.enterV Tryz.func14 rfl (rs:= [.tmp 2, .tmp 3]) Tryz.results14 Tryz.ntmps14 ?_
 refine kf ?_
 first|with_reducible refine ks [4,1000011] @qp_ ?_|refine kp @qp_ ?_
 refine Ow.build (.agg #[v0, .slice none 0 0, .slice none 0 0, .slice none 0 0]) rfl (ag4_ hv) ?_
 refine ko @qp_ ?_
 refine Ow.box rfl rfl fun b4 hb4 hw4=> ?_
 simp only[qy_,qr_,qs_,zd_,List.nil_append]
 refine Ow.permL (M:= [(b4,pkO v0 (.slice none 0 0) (.slice none 0 0) (.slice none 0 0))]) (List.Perm.refl _) ?_
 refine ko @qp_ ?_
 first|with_reducible refine ks [] @qp_ ?_|refine kp @qp_ ?_
 refine Ow.callX (Y:= []) (by simp) rfl rfl Tryz.call59 (fun w' hw' hX hn=>VK_ b4 v0 (.slice none 0 0) l w' (hv.oldN hw' ⟨hw4,trivial⟩) (hG.new hw' ⟨hw4,trivial⟩) hb hl (hX _ List.mem_cons_self) (fun h=>by have:=aoe_ hv h;omega) (by omega)) (fun v13 D13 hC13 hS13=> ?_)
 have hN13:New w.heap.size D13:=ql_ hC13 ⟨hw4,trivial⟩
 rw[List.append_nil]
 unfold ab8_ at hS13
 unfold wU_
 cases hf:fillV l with
 |none=>
  rw[hf] at hS13
  have hS13':v13= .bool false:=hS13
  subst hS13'
  refine ko @qp_ ?_
  first|with_reducible refine ks [] @qp_ ?_|refine kp @qp_ ?_
  refine⟨_,(ke @qp_),hN13, ?_⟩
  rfl
 |some q=>
  rw[hf] at hS13
  obtain⟨rfl,-⟩:=hS13
  have hx:=ZV_ hf
  have hll:l.length≤200:=by
   unfold fillV at hf
   cases ha:ZJ_ l with
   |error e=>rw[ha] at hf;cases hf
   |ok ts=>exact(K0_ ha).2.1
  refine ko @qp_ ?_
  refine Cw.forgetN [] (by exact hN13) (by intro p hp;simp only[List.mem_cons,List.not_mem_nil,or_false] at hp ⊢;all_goals (first| (rcases hp with rfl|hp<;>simp_all) | (subst hp;simp) |simp_all)) (by simp[keys]<;>omega) ?_
  first|with_reducible refine ks [] @qp_ ?_|refine kp @qp_ ?_
  refine Ow.alloc rfl rfl Tryz.zr123 fun b5 hb5 hw5=> ?_
  refine ko @qp_ ?_
  have hZ:BldAt b5 [] [(b5, .cells #[.pointer none, .slice none 0 0] 123 (0,0))]:=BldAt.zeroK b5 (zP_ _ _ _)
  refine Ow.buildSlice (e:=9) #[vs [83,80,75,49]] rfl rfl (by kernel_rfl) fun b15 hb15 hw15=> ?_
  have h515:b5<b15:=zm_ hb15 (by simp[keys])
  refine ko @qp_ ?_
  refine Ow.callX (Y:= [(b15, .cells #[vs [83,80,75,49]] 9 (0,0))]) (by simp) rfl rfl Tryz.call60 (fun w' hw' hX hn=>kP_ b5 [(b5, .cells #[.pointer none, .slice none 0 0] 123 (0,0))] [] _ b15 0 [[83,80,75,49]] _ _ _ w' hZ hX hn (StrS.lit [[83,80,75,49]] rfl rfl (hw'.has _ _ (List.mem_cons_of_mem _ List.mem_cons_self))) (fun _ hm=>by simp[keys] at hm;omega) (by simp) (by simp)) (fun v16 D16 hC16 hS16=> ?_)
  obtain⟨rfl,hB16⟩:=hS16
  have hN16:New w.heap.size D16:=ql_ hC16 ⟨hw5,trivial⟩
  refine ko @qp_ ?_
  first|with_reducible refine ks [] (And.intro @qp_ @ln) ?_|refine kp (And.intro @qp_ @ln) ?_
  refine Ow.buildSlice (e:=3) #[vi l.length] rfl rfl (by kernel_rfl) fun b19 hb19 hw19=> ?_
  refine ko @qp_ ?_
  rw[List.append_assoc]
  refine Ow.callX (Y:= [(b15, .cells #[vs [83,80,75,49]] 9 (0,0)),(b19, .cells #[vi l.length] 3 (0,0))]) (by simp) rfl rfl Tryz.call61 (fun w' hw' hX hn=>jF_ b5 D16 _ _ b19 0 [(l.length:Int)] _ _ _ w' hB16 hX hn (OneS.lit [(l.length:Int)] rfl rfl (hw'.has b19 (.cells #[vi l.length] 3 (0,0)) (by simp))) (fun _ hm=>Nat.lt_irrefl _ (zm_ hb19 (by rw[zi_];exact List.mem_append_left _ hm))) (by simp)) (fun v20 D20 hC20 hS20=> ?_)
  obtain⟨rfl,hB20⟩:=hS20
  rw[wS_] at hB20
  have hN20:New w.heap.size D20:=ql_ hC20 hN16
  have hB0:BldAt b5 (magB++ (qS_ (zJ_ (l.length:Int))++qT_ 0 (l.take 0))) (D20++ [(b15, .cells #[vs [83,80,75,49]] 9 (0,0)),(b19, .cells #[vi l.length] 3 (0,0))]):=by
   have:=hB20.app (Y:= [(b15,Obj.cells #[vs [83,80,75,49]] 9 (0,0)),(b19, .cells #[vi l.length] 3 (0,0))])
   simpa [magB,qT_] using this
  refine ko @qp_ ?_
  first|with_reducible refine ks [] (And.intro @qp_ @ln) ?_|refine kp (And.intro @qp_ @ln) ?_
  have hnl:=zp_ (l.length:Int)
  refine Cw.loopG (G:=PwG) [24,25,26,27,7,6,8,28,29,30,31,32,33,34,35,36,37,38,39,40,41,23] (fun g=> [(23,vi g.k)]) (fun g=>g.D) (fun g=>g.k≤l.length∧New w.heap.size g.D∧BldAt b5 (magB++ (qS_ (zJ_ (l.length:Int))++qT_ 0 (l.take g.k))) g.D) (fun g=>l.length - g.k) ⟨0,D20++ [(b15, .cells #[vs [83,80,75,49]] 9 (0,0)),(b19, .cells #[vi l.length] 3 (0,0))]⟩ rfl rfl ?_ ?_
  ·exact⟨Nat.zero_le _,hN20.app ⟨hw15,hw19,trivial⟩,hB0⟩
  intro g j hg
  refine kv ?_
  obtain⟨k,D⟩:=g
  simp only at hg ⊢
  obtain⟨hk,hN,hB⟩:=hg
  by_cases hlt:k<l.length
  ·have d1:decide ((k:Int)< (l.length:Int))=true:=decide_eq_true (by omega)
   have hb1:=hr.has (by omega)
   have hb1l:=hr.lt (by omega)
   have ix:=hr.idx true k hlt
   have ld:=hr.load jP_ (by omega) hlt
   have rd:zB_ w D b1=some (.cells arr E fz):=by rw[q9_ (hN.not hb1l)];exact hb1
   have hpl:=hx k hlt
   have hpt:=v5_ hx k hk
   have hsn:=wI_ l 0 k hlt
   have hpb:=af7_ hf hlt
   generalize hp:l.getD k z1_=p at*
   have hst:=kU_ p z1_ 114
   first|with_reducible refine ks [1000011] (And.intro @qp_ (And.intro @d1 (And.intro @ix (And.intro @rd (@ld))))) ?_|refine kp (And.intro @qp_ (And.intro @d1 (And.intro @ix (And.intro @rd (@ld))))) ?_
   refine Ow.alloc rfl rfl w0_ fun b7 hb7 hw7=> ?_
   simp only[zd_,List.nil_append,List.cons_append]
   refine Ow.permL (M:=(b7, .cells (zr_ z1_).toArray 114 (0,0))::D) (by classical exact List.perm_iff_count.2 fun a=>by simp only[List.count_append,List.count_cons,List.count_nil]<;>omega) ?_
   refine ko (And.intro @qp_ @hst) ?_
   have hN7:New w.heap.size ((b7,Obj.cells (zr_ p).toArray 114 (0,0))::D):=⟨hw7,hN⟩
   refine Cw.cutO (G:=Unit) [8,28,29,30,31,32,33] (fun g=> [(8,vi (Qr_ k p))]) (fun g=>(b7, .cells (zr_ p).toArray 114 (0,0))::D) (fun g=>True) ?_ ?_
   ·cases hd:p.d with
    |true=>
     have hf:Qr_ k p=(k:Int) - p.b:=by unfold Qr_;rw[if_pos hd]
     have hb2:=hpb hd
     first|with_reducible refine ks [] (And.intro @qp_ @hd) ?_|refine kp (And.intro @qp_ @hd) ?_
     refine CutO.mk () trivial rfl ?_
     rw[hf];rfl
    |false=>
     have hf:Qr_ k p=0:=by unfold Qr_;rw[if_neg (by rw[hd];decide)]
     first|with_reducible refine ks [] (And.intro @qp_ @hd) ?_|refine kp (And.intro @qp_ @hd) ?_
     refine CutO.mk () trivial rfl ?_
     rw[hf];rfl
   ·intro u ju hu
    refine kv ?_
    first|with_reducible refine ks [] @qp_ ?_|refine kp @qp_ ?_
    have hfl:=zp_ (Qr_ k p)
    have hxl:=zp_ (p.x.length:Int)
    have htx:xY_ [p.x]=xq_ p.x:=by simp[xY_]
    have htl: (xq_ p.x).length=(qS_ (zJ_ p.x.length)).length+p.x.length:=by unfold xq_;rw[List.length_append]
    have hml: (magB++ (qS_ (zJ_ (l.length:Int))++qT_ 0 (l.take k))).length=4+ ((qS_ (zJ_ (l.length:Int))).length+ (qT_ 0 (l.take k)).length):=by rw[List.length_append,List.length_append];rfl
    refine Ow.buildSlice (e:=3) #[vi (Qr_ k p)] rfl rfl (by kernel_rfl) fun b35 hb35 hw35=> ?_
    refine ko @qp_ ?_
    refine Ow.permL (M:=D++ [(b7,Obj.cells (zr_ p).toArray 114 (0,0)),(b35, .cells #[vi (Qr_ k p)] 3 (0,0))]) (by classical exact List.perm_iff_count.2 fun a=>by simp only[List.count_append,List.count_cons,List.count_nil]<;>omega) ?_
    refine Ow.callX (Y:= [(b7,Obj.cells (zr_ p).toArray 114 (0,0)),(b35, .cells #[vi (Qr_ k p)] 3 (0,0))]) (by simp) rfl rfl Tryz.call61 (fun w' hw' hX hn=>jF_ b5 D _ _ b35 0 [Qr_ k p] _ _ _ w' hB hX hn (OneS.lit [Qr_ k p] rfl rfl (hw'.has b35 (.cells #[vi (Qr_ k p)] 3 (0,0)) (by simp))) (fun _ hm=>Nat.lt_irrefl _ (zm_ hb35 (by simp[keys] at hm ⊢;exact .inr hm))) (by rw[hml];simp;omega)) (fun v36 D36 hC36 hS36=> ?_)
    obtain⟨rfl,hB36⟩:=hS36
    rw[wS_] at hB36
    have hN36:New w.heap.size D36:=ql_ hC36 hN
    refine Ow.permL (M:=(b7,Obj.cells (zr_ p).toArray 114 (0,0)):: (D36++ [(b35, .cells #[vi (Qr_ k p)] 3 (0,0))])) (by classical exact List.perm_iff_count.2 fun a=>by simp only[List.count_append,List.count_cons,List.count_nil]<;>omega) ?_
    refine ko @qp_ ?_
    first|with_reducible refine ks [] @qp_ ?_|refine kp @qp_ ?_
    refine Ow.buildSlice (e:=9) #[vs p.x] rfl rfl (by kernel_rfl) fun b39 hb39 hw39=> ?_
    refine ko @qp_ ?_
    refine Ow.permL (M:=D36++ [(b7,Obj.cells (zr_ p).toArray 114 (0,0)),(b35, .cells #[vi (Qr_ k p)] 3 (0,0)),(b39, .cells #[vs p.x] 9 (0,0))]) (by classical exact List.perm_iff_count.2 fun a=>by simp only[List.count_append,List.count_cons,List.count_nil]<;>omega) ?_
    refine Ow.callX (Y:= [(b7,Obj.cells (zr_ p).toArray 114 (0,0)),(b35, .cells #[vi (Qr_ k p)] 3 (0,0)),(b39, .cells #[vs p.x] 9 (0,0))]) (by simp) rfl rfl Tryz.call62 (fun w' hw' hX hn=>XP_ b5 D36 _ _ b39 0 [p.x] _ _ _ w' hB36 hX hn (StrS.lit [p.x] rfl rfl (hw'.has b39 (.cells #[vs p.x] 9 (0,0)) (by simp))) (fun _ hm=>Nat.lt_irrefl _ (zm_ hb39 (by simp[keys] at hm ⊢;exact .inr (.inl hm)))) (by rw[htx,List.length_append,hml,htl];omega) (by simp)) (fun v40 D40 hC40 hS40=> ?_)
    obtain⟨rfl,hB40⟩:=hS40
    rw[htx] at hB40
    have hN40:New w.heap.size D40:=ql_ hC40 hN36
    refine ko @qp_ ?_
    first|with_reducible refine ks [] @qp_ ?_|refine kp @qp_ ?_
    refine Again.mk ⟨k+1,D40++ [(b7,Obj.cells (zr_ p).toArray 114 (0,0)),(b35, .cells #[vi (Qr_ k p)] 3 (0,0)),(b39, .cells #[vs p.x] 9 (0,0))]⟩ (by show l.length - (k+1)<l.length - k;omega) ⟨hlt,hN40.app ⟨hw7,hw35,hw39,trivial⟩, ?_⟩ rfl rfl
    show BldAt b5 (magB++ (qS_ (zJ_ (l.length:Int))++qT_ 0 (l.take (k+1)))) _
    rw[hsn]
    have:=hB40.app (Y:= [(b7,Obj.cells (zr_ p).toArray 114 (0,0)),(b35, .cells #[vi (Qr_ k p)] 3 (0,0)),(b39, .cells #[vs p.x] 9 (0,0))])
    rw[Nat.zero_add]
    simpa [kE_] using this
  ·obtain rfl:k=l.length:=by omega
   have d1:decide ((l.length:Int)< (l.length:Int))=false:=decide_eq_false (by omega)
   have hpt:=v5_ hx l.length (Nat.le_refl _)
   rw[List.take_length] at hpt hB
   have hpl: (kq_ l).length<34359738368:=by
    unfold kq_
    rw[List.length_append,List.length_append,show magB.length=4 from rfl]
    omega
   first|with_reducible refine ks [] (And.intro @qp_ @d1) ?_|refine kp (And.intro @qp_ @d1) ?_
   refine Ow.callX (Y:= []) (by simp) rfl rfl Tryz.call64 (fun w' hw' hX hn=>kf_ b5 D (kq_ l) w' hB hX hn hpl) (fun v42 D42 hC42 hS42=> ?_)
   subst hS42
   have hN42:New w.heap.size D42:=ql_ hC42 hN
   rw[List.append_nil]
   refine ko @qp_ ?_
   refine Ow.callFV rfl Tryz.call63 (fun w' hw'=>ZP_ (kq_ l) w' (hC.newP hw' hN42) (by omega)) ?_
   refine ko @qp_ ?_
   first|with_reducible refine ks [] @qp_ ?_|refine kp @qp_ ?_
   refine⟨_,(ke @qp_),hN42, ?_⟩
   rfl
end Go.Proofs
end
namespace Go.Sx
open Go
def tmpR:ResultVar→Bool
 | .tmp _=>true
 | .cell _ _=>false
theorem Jl_ {P:Program} {w0 w1:World} {L M:za_} {f:Fr}: ∀ {rs:List ResultVar},rs.all tmpR=true→kH_ P w0 L f rs=kH_ P w1 M f rs
 | [],_=>rfl
 | .tmp t::r,h=>by
  simp only[List.all_cons,Bool.and_eq_true] at h
  rw[wb_,wb_,Jl_ (w1:=w1) (M:=M) h.2];rfl
 | .cell a t::r,h=>by simp[tmpR] at h
theorem Hp.later {w0 w1 w2:World} {L D:za_} (h:Hp w0 L w1) (k:Hp w1 D w2) (hD:New w1.heap.size D):Hp w0 (L++D) w2:=
 Mrg.fresh hD.le w1 w2 rfl h k
theorem Cw.rebase {P:Program} {w0:World} {c:Code} {f:Fr} {L:za_} {K:xs_} {K1:World→xs_} (h: ∀w1,Hp w0 L w1→Cw P w1 c f [] (K1 w1)) (hK: ∀w1 e f D,Hp w0 L w1→K1 w1 e f D→New w1.heap.size D∧K e f (L++D)):Cw P w0 c f L K:=by
 intro w hw
 refine wp_mono (h w hw w (Hp.refl w)) ?_
 rintro e a w' ⟨hd,D,hp,hk⟩
 obtain⟨h1,h2⟩:=hK w e _ D hw hk
 exact⟨hd,L++D,hw.later hp h1,h2⟩
theorem Cw.rebaseV {P:Program} {w0:World} {c:Code} {f:Fr} {L:za_} {rs:List ResultVar} {S:Value→Prop} (hN:New w0.heap.size L) (ht:rs.all tmpR=true)
  (h: ∀w1,Hp w0 L w1→Cw P w1 c f [] (retV P w1 rs S)):Cw P w0 c f L (retV P w0 rs S):=by
 refine Cw.rebase (K1:=fun w1=>retV P w1 rs S) h ?_
 intro w1 e f D hw hk
 have key: (∃vs,kH_ P w1 D f rs=some vs∧New w1.heap.size D∧S (wj_ vs))→New w1.heap.size D∧ ∃vs,kH_ P w0 (L++D) f rs=some vs∧New w0.heap.size (L++D)∧S (wj_ vs):=by
  rintro⟨vs,h1,h2,h3⟩
  exact⟨h2,vs,by rw[Jl_ (w1:=w1) (M:=D) ht];exact h1,hN.app (h2.mono hw.size),h3⟩
 cases e<;>first
  |exact key hk
  |exact hk.elim
theorem Cw.rebaseX {P:Program} {w0:World} {c:Code} {f:Fr} {L X:za_} {rs:List ResultVar} {S S1:Value→za_→Prop} (ht:rs.all tmpR=true)
  (h: ∀w1,Hp w0 L w1→Cw P w1 c f [] (retK P w1 rs (XS w1 [] S1))) (hS: ∀v D,New w0.heap.size D→S1 v D→XS w0 X S v (L++D)):Cw P w0 c f L (retK P w0 rs (XS w0 X S)):=by
 refine Cw.rebase (K1:=fun w1=>retK P w1 rs (XS w1 [] S1)) h ?_
 intro w1 e f D hw hk
 have key: (∃vs,kH_ P w1 D f rs=some vs∧XS w1 [] S1 (wj_ vs) D)→New w1.heap.size D∧ ∃vs,kH_ P w0 (L++D) f rs=some vs∧XS w0 X S (wj_ vs) (L++D):=by
  rintro⟨vs,h1,h2,h3⟩
  exact⟨h2.new0,vs,by rw[Jl_ (w1:=w1) (M:=D) ht];exact h1,hS _ D (h2.new0.mono hw.size) h3⟩
 cases e<;>first
  |exact key hk
  |exact hk.elim
theorem Ow.world {P:Program} {w0:World} {ops:Array Oper} {l:List Oper} {f:Fr} {L:za_} {N:Fr→za_→Prop} (h: ∀w,Hp w0 L w→Ow P w0 ops .seq l f L N):Ow P w0 ops .seq l f L N:=fun w hw=>h w hw w hw
theorem Rets.chunk {P:Program} {k:FuncId} {args:Array Value} {w:World} {S:Value→Obj→Prop} {X:za_} {b:Nat} (hX: ∀p,p∈X→w.heap[p.1]? =some p.2) (hn: (keys X).Nodup) (hb:b∈keys X)
  (h:Rets P k args w (fun v D=> ∃o,D= [(b,o)]∧S v o)):Rets P k args w (XS w X (fun v D=> ∃o,D=setB X b o∧S v o)):=
 Calls.mono h fun e w' ⟨v,D,he,hp,o,hD,hS⟩=>⟨v,setB X b o,he,by subst hD;exact Mrg.set hb w w' rfl ((Hp.refl w).ownX hX hn) hp,(Ext.refl w X).setB,o,rfl,hS⟩
theorem Rets.chunkV {P:Program} {k:FuncId} {args:Array Value} {w:World} {S:Value→Prop} {X:za_} (hX: ∀p,p∈X→w.heap[p.1]? =some p.2) (hn: (keys X).Nodup)
  (h:Rets P k args w (fun v D=>S v∧D= [])):Rets P k args w (XS w X (fun v D=>D=X∧S v)):=
 Calls.mono h fun e w' ⟨v,D,he,hp,hS,hD⟩=>⟨v,X,he,by subst hD;exact((Hp.refl w).ownX hX hn).trans_nil hp,Ext.refl w X,rfl,hS⟩
theorem Rets.toX {P:Program} {k:FuncId} {a:Array Value} {w:World} {S:Value→Prop} (h:Rets P k a w (fun v D=>S v∧D= [])):Rets P k a w (XS w [] (fun v D=>D= []∧S v)):=
 h.mono fun v D ⟨h1,h2⟩=>⟨by subst h2;exact Ext.refl w [],h2,h1⟩
theorem Gr.rowL {α:Type} {m:Nat} {enc:α→List Value} {z:α} {w0 w:World} {v:Value} {l:List α} {L:za_} {E:TypeId} {n:Nat} (h:Gr L E m v n (l.map enc).flatten) (hn:l.length=n) (hw:Hp w0 L w) (hm: ∀x,(enc x).length=m):
  ∃b off arr F fz,RowS m enc z w v l b off arr F fz∧(0<l.length→look L b=some (.cells arr F fz)):=by
 obtain⟨b,off,c,arr,F,fz,hr,hc,⟨rfl,rfl,rfl⟩ | ⟨rfl,hb,hsz⟩⟩:=h.slV (z:=z) hw hn rfl hm
 ·exact⟨b,off,arr,F,fz,hr,fun h0=>absurd h0 (by simp)⟩
 ·refine⟨b,off,arr,F,fz,hr,fun _=> ?_⟩
  obtain⟨o,ho⟩:=Vx_ (h.key (b:=b) rfl)
  have:=hw.has _ _ (zF_ ho)
  rw[hb] at this
  rw[ho,this]
theorem GrI.rowL {α:Type} {m:Nat} {enc:α→List Value} {z:α} {w0 w:World} {v:Value} {l:List α} {D:za_} {E:TypeId} {n:Nat} (h:GrI D E m v n (l.map enc).flatten) (hn:l.length=n) (hw:Hp w0 D w) (hm: ∀x,(enc x).length=m):
  ∃b off arr F fz,RowS m enc z w v l b off arr F fz∧(0<l.length→look D b=some (.cells arr F fz)):=by
 obtain⟨X,hX,h⟩:=h
 obtain⟨b,off,c,arr,F,fz,hr,hc,⟨rfl,rfl,rfl⟩ | ⟨rfl,hb,hsz⟩⟩:=h.slM (z:=z) (fun b o hm=>hw.has b o (hX _ hm)) hn rfl hm
 ·exact⟨b,off,arr,F,fz,hr,fun h0=>absurd h0 (by simp)⟩
 ·refine⟨b,off,arr,F,fz,hr,fun _=> ?_⟩
  obtain⟨o,ho⟩:=Vx_ (h.key (b:=b) rfl)
  have hm:=hX _ (zF_ ho)
  have:=hw.has _ _ hm
  rw[hb] at this
  rw[x4_ hw.nodup hm,this]
end Go.Sx
section
open Go Go.Proofs Go.Sx Go.StP Go.Flo
namespace Go.Proofs
set_option maxRecDepth 10000
set_option maxHeartbeats 400000
set_option linter.unusedSimpArgs false
set_option linter.defProp false
def J9_:=And.intro (@zg_) (@zf_)
theorem acP_ (b o n c:Nat):qu_ Tryz.prog .eql 81 (vsl b o n c) (.slice none 0 0)=some (.bool false):=by
 simp[qu_,eqX,qm_,qt_,Tryz.underlying81,vsl]
theorem Kt_:qu_ Tryz.prog .eql 81 (.slice none 0 0) (.slice none 0 0)=some (.bool true):=by
 simp[qu_,eqX,qm_,qt_,Tryz.underlying81]
theorem Qk_ (v:Value) (ls:List RwL) (w:World) (hv:RwSl w v ls) (hl:ls.length<1000000):
  Rets Tryz.prog 107 #[v] w (XS w [] (fun v D=>Gr D 104 34 v ls.length (ls.map rwC).flatten)):=by
 obtain⟨b,off,c,arr,E,fz,hr,hc,⟨rfl,rfl,rfl⟩ | ⟨rfl,hb,hsz⟩⟩:=hv
 ·refine Rets.enterX Tryz.func107 rfl (rs:= [.tmp 2]) Tryz.results107 Tryz.ntmps107 (fun p hp=>by cases hp) (by simp[keys]) ?_
  refine kf ?_
  first|with_reducible refine ks [] (And.intro @J9_ (And.intro @acP_ (@Kt_))) ?_|refine kp (And.intro @J9_ (And.intro @acP_ (@Kt_))) ?_
  refine⟨_,(ke @J9_), ?_⟩
  exact⟨Ext.refl _ _,Gr.nl⟩
 ·have hbl:=(Array.getElem?_eq_some_iff.1 hb).1
  have hv:RwSl w (vsl b off ls.length c) ls:=⟨b,off,c,arr,E,fz,hr,hc, .inr ⟨rfl,hb,hsz⟩⟩
  refine Rets.enterX Tryz.func107 rfl (rs:= [.tmp 2]) Tryz.results107 Tryz.ntmps107 (fun p hp=>by cases hp) (by simp[keys]) ?_
  refine kf ?_
  first|with_reducible refine ks [] (And.intro @J9_ (And.intro @acP_ (@Kt_))) ?_|refine kp (And.intro @J9_ (And.intro @acP_ (@Kt_))) ?_
  refine Ow.buildSlice (e:=104) #[] rfl rfl (by kernel_rfl) fun b1 hb1 hw1=> ?_
  refine ko @J9_ ?_
  refine Ow.appendG (e:=104) (k:=ls.length) (new:=(ls.map rwC).flatten) (vsl b1 0 0 0) rfl rfl rfl Tryz.underlying81 Tryz.ag104 (by kernel_rfl) Vq_ (by rw[qR_,List.size_toArray,zG_]) Tryz.underlying81 (by intro k h;cases h) (.inr ⟨rfl,rfl,b1,rfl,QK_ hb1⟩) (fun w' hw'=>(hv.oldN hw' ⟨hw1,trivial⟩).appX zG_ ZX_) (Vb_ zG_ ls) (by omega) (fun v2 L2 hB hB2 hG hS=> ?_)
  rw[Nat.zero_add,List.nil_append] at hB
  refine ko @J9_ ?_
  first|with_reducible refine ks [] @J9_ ?_|refine kp @J9_ ?_
  refine⟨_,(ke @J9_), ?_⟩
  exact⟨((Ext.refl w []).app (o:=Obj.cells #[] 104 (0,0)) hw1).grew hG,hB⟩
theorem ahI_ (v:Value) (X:za_) (l:List RwL) (w:World) (hG:Gr X 104 34 v l.length (l.map rwC).flatten) (hX: ∀p,p∈X→w.heap[p.1]? =some p.2) (hn: (keys X).Nodup) (hl:l.length<1000000):
  Rets Tryz.prog 108 #[v,qJ_] w (XS w X (fun v' D=>v'= .tuple #[]∧ ∃Z,rws_SortOf l Z∧Gr D 104 34 v l.length (Z.map rwC).flatten)):=by
 rcases hG with hS| ⟨h0,h1,rb,rfl,hlk⟩
 ·rcases hS.inv with⟨rfl,h0,h1⟩ | ⟨rb,c,rest,rfl,hlk,-,hc,hc0,hr⟩
  ·obtain rfl:l= []:=List.eq_nil_of_length_eq_zero h0
   refine(Rets.chunkV hX hn (ZB_ w)).mono ?_
   rintro v' D ⟨hE,rfl,hv⟩
   exact⟨hE,hv,[],⟨rfl,List.Pairwise.nil,StP.St.refl _ _⟩,Gr.nl⟩
  ·refine(Rets.chunk hX hn (zu_ hlk) (xW_ rb l.length c l rest w rfl hl (hX _ (zF_ hlk)))).mono ?_
   rintro v' D ⟨hE,o,rfl,hv,Z,rfl,z1,z2,z3⟩
   refine⟨hE,hv,Z,⟨z1,z2,z3⟩, .inl ?_⟩
   rw[←z1]
   exact Buf.at_ (x2_ hlk) (by rw[Vb_ zG_]) (by rw[z1];exact hr) (by omega) hc0
 ·obtain rfl:l= []:=List.eq_nil_of_length_eq_zero h0
  refine(Rets.chunk hX hn (zu_ hlk) (xW_ rb 0 0 [] [] w rfl (by omega) (hX _ (zF_ hlk)))).mono ?_
  rintro v' D ⟨hE,o,rfl,hv,Z,rfl,z1,z2,z3⟩
  obtain rfl:Z= []:=List.eq_nil_of_length_eq_zero z1
  exact⟨hE,hv,[],⟨rfl,List.Pairwise.nil,StP.St.refl _ _⟩, .inr ⟨rfl,rfl,rb,rfl,x2_ hlk⟩⟩
theorem Kj_ (l:List RwL) {g:Nat} (h:g<l.length):x7_ (l.take (g+1))=x7_ (l.take g)++rowB (l.getD g rw0):=by
 rw[StP.take_snoc (z:=rw0) h];simp[x7_]
theorem acT_ (r:RwL): (rowB r).length≤44:=by
 have h1:=zp_ r.place
 have h2:=zp_ r.spot
 have h3:=r.id.h
 unfold rowB
 rw[List.length_append,List.length_append];omega
theorem vy_ (l:List RwL): ∀g,g≤l.length→(x7_ (l.take g)).length≤g*44
 |0,_=>by simp[x7_]
 |g+1,h=>by
  rw[Kj_ l h,List.length_append]
  have:=vy_ l g (by omega)
  have:=acT_ (l.getD g rw0)
  omega
theorem vv_: ∀ (l:List Int),(xE_ l).length≤l.length*6
 | []=>by simp[xE_]
 |n::l=>by
  have h1:=vv_ l
  have h2:=zp_ n
  have e:xE_ (n::l)=qS_ (zJ_ n)++xE_ l:=by simp[xE_]
  rw[e,List.length_append,List.length_cons];omega
theorem x3_ (F:List Nat): (Qs_ F).length=F.length:=by simp[Qs_]
theorem ak9_ {w:World} {b:Nat} {s:List UInt8} {v1:Value} {F:List Nat} (h:w.heap[b]? =some (ixO s v1 F)) (c:Nat):OneS vi 0 w (vsl b 2 F.length c) (Qs_ F) b 2 ([vs s,v1]++ (F.map fun(n:Nat)=>vi (n:Int))).toArray 178 (0,0):=by
 refine OneS.sl (by rw[x3_]) h fun k hk=> ?_
 rw[x3_] at hk
 rw[List.getElem?_toArray,List.getElem?_append_right (by simp),show 2+k - [vs s,v1].length=k from by simp,List.getElem?_map,List.getElem?_eq_getElem hk]
 unfold Qs_
 rw[List.getD_eq_getElem?_getD,List.getElem?_map,List.getElem?_eq_getElem hk];rfl
structure IwG where
 k:Nat
 D:za_
set_option linter.defProp false
def z5_:=And.intro (And.intro (And.intro (@zg_) (@zf_)) (And.intro (@qR_) (And.intro (@kw_) (@vY_)))) (And.intro (And.intro (@wX_) (@wR_)) (And.intro (@ju_) (And.intro (@Sx.tup2_0) (@Sx.tup2_1))))
theorem kW_ (s:List UInt8) (v:Value) (l:List RwL) (w:World) (hC:GlobC w) (hv:RwSl w v l) (hl:l.length<1000000) (hs:s.length<1099511627776):
  Rets Tryz.prog 42 #[vs s,v] w (fun v' D=>(∃Z,rws_SortOf l Z∧v'= .tuple #[vs (xw_ s Z).1,vi (xw_ s Z).2])∧D= []):=by
 refine Rets.enterV Tryz.func42 rfl (rs:= [.tmp 4, .tmp 5]) Tryz.results42 Tryz.ntmps42 ?_
 refine kf ?_
 first|with_reducible refine ks [1000006] @z5_ ?_|refine kp @z5_ ?_
 refine Ow.callX (Y:= []) (by simp) rfl rfl Tryz.call107 (fun w' hw' hX hn=>Qk_ v l w' (hv.oldN hw' trivial) hl) (fun v12 D12 hC12 hS12=> ?_)
 have hN12:New w.heap.size D12:=ql_ hC12 trivial
 rw[List.append_nil]
 refine ko @z5_ ?_
 first|with_reducible refine ks [] @z5_ ?_|refine kp @z5_ ?_
 refine Ow.callX (Y:= []) (by simp) rfl rfl Tryz.call108 (fun w' hw' hX hn=>ahI_ v12 D12 l w' hS12 hX hn hl) (fun v14 D14 hC14 hS14=> ?_)
 obtain⟨rfl,Z,hZ,hG⟩:=hS14
 have hN14:New w.heap.size D14:=ql_ hC14 hN12
 have hZl:=hZ.1
 rw[List.append_nil]
 refine ko @z5_ ?_
 first|with_reducible refine ks [] @z5_ ?_|refine kp @z5_ ?_
 refine Ow.callC rfl rfl Tryz.call110 (fun w' hw'=>acV_ s v12 Z w' (hG.slV hw' hZl rfl zG_) (by omega)) (fun B1 v18 D18 hA18 hB18 hN18 hS18=> ?_)
 have hN:New w.heap.size (D14++D18):=hN14.app (hN18.mono hB18)
 unfold OfIS at hS18
 by_cases hok:wQ_ Z Z.length=true
 ·rw[if_pos hok] at hS18
  obtain⟨bi,rfl,hbi⟩:=hS18
  have hri: (decide (s.length=4)&&decide (Z.length≤200))=q3_ s Z:=by unfold q3_;rw[hok,Bool.true_and]
  rw[hri]
  cases hr:q3_ s Z with
  |false=>
   refine ko @z5_ ?_
   first|with_reducible refine ks [] @z5_ ?_|refine kp @z5_ ?_
   refine⟨_,(ke @z5_),hN, ?_⟩
   exact⟨Z,hZ,by unfold xw_;rw[hr];rfl⟩
  |true=>
   obtain⟨-,hs4,hl2⟩:=jQ_ hr
   refine ko @z5_ ?_
   refine Cw.rebaseV hN (by rfl) fun w1 hw1=> ?_
   have hC1:=hC.newP hw1 hN
   have hb1:w1.heap[bi]? =some (ixO s v12 (x9_ Z)):=hw1.has _ _ (List.mem_append_right _ hbi)
   have hv1:RwSl w1 v12 Z:=(hG.app (M:=D18)).slV hw1 hZl rfl zG_
   clear hw1 hG hbi hN hN18 hA18 hS12 hC14 hC12
   obtain⟨rb,off,arr,E,fz,hro⟩:=hv1.row
   have ln:=hv1.len
   first|with_reducible refine ks [] @z5_ ?_|refine kp @z5_ ?_
   refine Ow.alloc rfl rfl Tryz.zr123 fun b5 hb5 hw5=> ?_
   refine ko @z5_ ?_
   first|with_reducible refine ks [] @z5_ ?_|refine kp @z5_ ?_
   have hZ5:BldAt b5 [] [(b5, .cells #[.pointer none, .slice none 0 0] 123 (0,0))]:=BldAt.zeroK b5 (zP_ _ _ _)
   refine Ow.buildSlice (e:=9) #[vs [83,73,88,49],vs s] rfl rfl (by kernel_rfl) fun b15 hb15 hw15=> ?_
   have h515:b5<b15:=zm_ hb15 (by simp[keys])
   refine ko @z5_ ?_
   refine Ow.callX (Y:= [(b15, .cells #[vs [83,73,88,49],vs s] 9 (0,0))]) (by simp) rfl rfl Tryz.call60 (fun w' hw' hX hn=>kP_ b5 [(b5, .cells #[.pointer none, .slice none 0 0] 123 (0,0))] [] _ b15 0 [[83,73,88,49],s] _ _ _ w' hZ5 hX hn (StrS.lit [[83,73,88,49],s] rfl rfl (hw'.has _ _ (List.mem_cons_of_mem _ List.mem_cons_self))) (fun _ hm=>by simp[keys] at hm;omega) (by simp;omega) (by simp)) (fun v16 D16 hC16 hS16=> ?_)
   obtain⟨rfl,hB16⟩:=hS16
   have hN16:New w1.heap.size D16:=ql_ hC16 ⟨hw5,trivial⟩
   refine ko @z5_ ?_
   first|with_reducible refine ks [] (And.intro @z5_ @ln) ?_|refine kp (And.intro @z5_ @ln) ?_
   refine Ow.buildSlice (e:=3) #[vi Z.length] rfl rfl (by kernel_rfl) fun b19 hb19 hw19=> ?_
   refine ko @z5_ ?_
   rw[List.append_assoc]
   refine Ow.callX (Y:= [(b15, .cells #[vs [83,73,88,49],vs s] 9 (0,0)),(b19, .cells #[vi Z.length] 3 (0,0))]) (by simp) rfl rfl Tryz.call61 (fun w' hw' hX hn=>jF_ b5 D16 _ _ b19 0 [(Z.length:Int)] _ _ _ w' hB16 hX hn (OneS.lit [(Z.length:Int)] rfl rfl (hw'.has b19 (.cells #[vi Z.length] 3 (0,0)) (by simp))) (fun _ hm=>Nat.lt_irrefl _ (zm_ hb19 (by rw[zi_];exact List.mem_append_left _ hm))) (by simp;omega)) (fun v20 D20 hC20 hS20=> ?_)
   obtain⟨rfl,hB20⟩:=hS20
   rw[wS_] at hB20
   have hN20:New w1.heap.size D20:=ql_ hC20 hN16
   have hbil:=(Array.getElem?_eq_some_iff.1 hb1).1
   refine ko @z5_ ?_
   first|with_reducible refine ks [] @z5_ ?_|refine kp @z5_ ?_
   have hN20':New w1.heap.size (D20++ [(b15,Obj.cells #[vs [83,73,88,49],vs s] 9 (0,0)),(b19,Obj.cells #[vi Z.length] 3 (0,0))]):=hN20.app ⟨hw15,hw19,trivial⟩
   have hnl:=zp_ (Z.length:Int)
   have hfl: (x9_ Z).length=16:=kl_ Z
   have hfb:=vv_ (Qs_ (x9_ Z))
   rw[x3_,hfl] at hfb
   refine Ow.callX (Y:= [(b15, .cells #[vs [83,73,88,49],vs s] 9 (0,0)),(b19, .cells #[vi Z.length] 3 (0,0))]) (by simp) rfl rfl Tryz.call61 (fun w' hw' hX hn=>jF_ b5 D20 _ (vsl bi 2 16 16) bi 2 (Qs_ (x9_ Z)) _ _ _ w' hB20 hX hn (hfl▸ak9_ (by rw[hw'.old bi hbil (hN20'.not hbil)];exact hb1) 16) (fun _ hm=>by have:=hN20.le _ hm;omega) (by rw[x3_,hfl];simp;omega)) (fun v34 D34 hC34 hS34=> ?_)
   obtain⟨rfl,hB34⟩:=hS34
   have hN34:New w1.heap.size D34:=ql_ hC34 hN20
   obtain⟨Pre,hPre⟩: ∃Pre,Pre=magI++ (s++ (qS_ (zJ_ (Z.length:Int))++kG_ (x9_ Z))):=⟨_,rfl⟩
   have hidx:v8_ s Z=Pre++x7_ Z:=by rw[hPre];unfold v8_;simp only[List.append_assoc]
   have hPl:Pre.length≤200:=by rw[hPre];simp only[List.length_append];unfold kG_;rw[show magI.length=4 from rfl];omega
   have hB0:BldAt b5 (Pre++x7_ (Z.take 0)) (D34++ [(b15,Obj.cells #[vs [83,73,88,49],vs s] 9 (0,0)),(b19, .cells #[vi Z.length] 3 (0,0))]):=by
    have:=hB34.app (Y:= [(b15,Obj.cells #[vs [83,73,88,49],vs s] 9 (0,0)),(b19, .cells #[vi Z.length] 3 (0,0))])
    rw[hPre]
    simpa [magI,x7_,kG_] using this
   clear hPre
   refine ko @z5_ ?_
   first|with_reducible refine ks [] (And.intro @z5_ @ln) ?_|refine kp (And.intro @z5_ @ln) ?_
   refine Cw.loopG (G:=IwG) [38,39,40,10,41,42,43,44,45,46,47,48,49,50,51,37] (fun g=> [(37,vi g.k)]) (fun g=>g.D) (fun g=>g.k≤Z.length∧New w1.heap.size g.D∧BldAt b5 (Pre++x7_ (Z.take g.k)) g.D) (fun g=>Z.length - g.k) ⟨0,D34++ [(b15,Obj.cells #[vs [83,73,88,49],vs s] 9 (0,0)),(b19, .cells #[vi Z.length] 3 (0,0))]⟩ rfl rfl ?_ ?_
   ·exact⟨Nat.zero_le _,hN34.app ⟨hw15,hw19,trivial⟩,hB0⟩
   intro g j hg
   refine kv ?_
   obtain⟨k,D⟩:=g
   simp only at hg ⊢
   obtain⟨hk,hN,hB⟩:=hg
   have hrl:=vy_ Z k hk
   by_cases hlt:k<Z.length
   ·have d1:decide ((k:Int)< (Z.length:Int))=true:=decide_eq_true (by omega)
    have hb1:=hro.has (by omega)
    have hb1l:=hro.lt (by omega)
    have ix:=hro.idx true k hlt
    have ld:=hro.load zG_ (by omega) hlt
    have rd:zB_ w1 D rb=some (.cells arr E fz):=by rw[q9_ (hN.not hb1l)];exact hb1
    have hsn:=Kj_ Z hlt
    generalize hp:Z.getD k rw0=r at*
    first|with_reducible refine ks [1000013] (And.intro @z5_ (And.intro @d1 (And.intro @ix (And.intro @rd (@ld))))) ?_|refine kp (And.intro @z5_ (And.intro @d1 (And.intro @ix (And.intro @rd (@ld))))) ?_
    refine Ow.alloc rfl rfl Vq_ fun b7 hb7 hw7=> ?_
    simp only[zd_,List.nil_append,List.cons_append]
    refine Ow.permL (M:=(b7, .cells (rwC rw0).toArray 104 (0,0))::D) (by classical exact List.perm_iff_count.2 fun a=>by simp only[List.count_append,List.count_cons,List.count_nil]<;>omega) ?_
    refine ko @z5_ ?_
    first|with_reducible refine ks [] @z5_ ?_|refine kp @z5_ ?_
    have hrb:=acT_ r
    have hru:rowB r=r.id.l++ (qS_ (zJ_ r.place)++qS_ (zJ_ r.spot)):=rfl
    have hru2: (rowB r).length=32+ ((qS_ (zJ_ r.place)).length+ (qS_ (zJ_ r.spot)).length):=by rw[hru];simp only[List.length_append,r.id.h]
    refine Ow.buildSlice (e:=37) (a8 r.id.l) rfl rfl (afn_ r.id) fun b35 hb35 hw35=> ?_
    refine ko @z5_ ?_
    refine Ow.permL (M:=D++ [(b7,Obj.cells (rwC r).toArray 104 (0,0)),(b35, .cells (a8 r.id.l) 37 (0,0))]) (by classical exact List.perm_iff_count.2 fun a=>by simp only[List.count_append,List.count_cons,List.count_nil]<;>omega) ?_
    refine Ow.callX (Y:= [(b7,Obj.cells (rwC r).toArray 104 (0,0)),(b35, .cells (a8 r.id.l) 37 (0,0))]) (by simp) rfl rfl Tryz.call111 (fun w' hw' hX hn=>aks_ b5 D _ _ b35 0 [r.id] _ _ _ w' hB hX hn (aio_ r.id (hw'.has b35 (.cells (a8 r.id.l) 37 (0,0)) (by simp))) (fun _ hm=>Nat.lt_irrefl _ (zm_ hb35 (by simp[keys] at hm ⊢;exact .inr hm))) (by rw[List.length_append];simp;omega)) (fun v36 D36 hC36 hS36=> ?_)
    obtain⟨rfl,hB36⟩:=hS36
    have hN36:New w1.heap.size D36:=ql_ hC36 hN
    refine Ow.permL (M:=(b7,Obj.cells (rwC r).toArray 104 (0,0)):: (D36++ [(b35, .cells (a8 r.id.l) 37 (0,0))])) (by classical exact List.perm_iff_count.2 fun a=>by simp only[List.count_append,List.count_cons,List.count_nil]<;>omega) ?_
    refine ko @z5_ ?_
    first|with_reducible refine ks [] @z5_ ?_|refine kp @z5_ ?_
    refine Ow.buildSlice (e:=3) #[vi r.place,vi r.spot] rfl rfl (by kernel_rfl) fun b39 hb39 hw39=> ?_
    refine ko @z5_ ?_
    refine Ow.permL (M:=D36++ [(b7,Obj.cells (rwC r).toArray 104 (0,0)),(b35, .cells (a8 r.id.l) 37 (0,0)),(b39, .cells #[vi r.place,vi r.spot] 3 (0,0))]) (by classical exact List.perm_iff_count.2 fun a=>by simp only[List.count_append,List.count_cons,List.count_nil]<;>omega) ?_
    refine Ow.callX (Y:= [(b7,Obj.cells (rwC r).toArray 104 (0,0)),(b35, .cells (a8 r.id.l) 37 (0,0)),(b39, .cells #[vi r.place,vi r.spot] 3 (0,0))]) (by simp) rfl rfl Tryz.call61 (fun w' hw' hX hn=>jF_ b5 D36 _ _ b39 0 [r.place,r.spot] _ _ _ w' hB36 hX hn (OneS.lit [r.place,r.spot] rfl rfl (hw'.has b39 (.cells #[vi r.place,vi r.spot] 3 (0,0)) (by simp))) (fun _ hm=>Nat.lt_irrefl _ (zm_ hb39 (by simp[keys] at hm ⊢;exact .inr (.inl hm)))) (by simp[idsL,r.id.h];omega)) (fun v40 D40 hC40 hS40=> ?_)
    obtain⟨rfl,hB40⟩:=hS40
    have hN40:New w1.heap.size D40:=ql_ hC40 hN36
    refine ko @z5_ ?_
    first|with_reducible refine ks [] @z5_ ?_|refine kp @z5_ ?_
    refine Again.mk ⟨k+1,D40++ [(b7,Obj.cells (rwC r).toArray 104 (0,0)),(b35, .cells (a8 r.id.l) 37 (0,0)),(b39, .cells #[vi r.place,vi r.spot] 3 (0,0))]⟩ (by show Z.length - (k+1)<Z.length - k;omega) ⟨hlt,hN40.app ⟨hw7,hw35,hw39,trivial⟩, ?_⟩ rfl rfl
    show BldAt b5 (Pre++x7_ (Z.take (k+1))) _
    rw[hsn]
    have:=hB40.app (Y:= [(b7,Obj.cells (rwC r).toArray 104 (0,0)),(b35, .cells (a8 r.id.l) 37 (0,0)),(b39, .cells #[vi r.place,vi r.spot] 3 (0,0))])
    simpa [rowB,idsL,xE_] using this
   ·obtain rfl:k=Z.length:=by omega
    have d1:decide ((Z.length:Int)< (Z.length:Int))=false:=decide_eq_false (by omega)
    rw[List.take_length] at hrl hB
    rw[←hidx] at hB
    have hpl: (v8_ s Z).length<34359738368:=by rw[hidx,List.length_append];omega
    first|with_reducible refine ks [] (And.intro @z5_ @d1) ?_|refine kp (And.intro @z5_ @d1) ?_
    refine Ow.callX (Y:= []) (by simp) rfl rfl Tryz.call64 (fun w' hw' hX hn=>kf_ b5 D (v8_ s Z) w' hB hX hn hpl) (fun v42 D42 hC42 hS42=> ?_)
    subst hS42
    have hN42:New w1.heap.size D42:=ql_ hC42 hN
    rw[List.append_nil]
    refine ko @z5_ ?_
    refine Ow.callFV rfl Tryz.call63 (fun w' hw'=>ZP_ (v8_ s Z) w' (hC1.newP hw' hN42) (by omega)) ?_
    refine ko @z5_ ?_
    first|with_reducible refine ks [] @z5_ ?_|refine kp @z5_ ?_
    refine⟨_,(ke @z5_),hN42, ?_⟩
    exact⟨Z,hZ,by unfold xw_;rw[hr];rfl⟩
 ·rw[if_neg hok] at hS18
  subst hS18
  refine ko @z5_ ?_
  first|with_reducible refine ks [] @z5_ ?_|refine kp @z5_ ?_
  refine⟨_,(ke @z5_),hN, ?_⟩
  exact⟨Z,hZ,by unfold xw_ q3_;rw[Bool.eq_false_iff.2 hok];rfl⟩
end Go.Proofs
end
section
open Go Go.Proofs Go.Sx Go.StP Go.Flo
namespace Go.Proofs
set_option maxRecDepth 10000
set_option maxHeartbeats 400000
set_option linter.unusedSimpArgs false
theorem eqDi (a b:Int):eqD Tryz.prog 7 3 (vi a) (vi b)=some (a==b):=by unfold eqD;rw[Tryz.underlying3];rfl
theorem eqDs (a b:List UInt8):eqD Tryz.prog 7 9 (vs a) (vs b)=some (a==b):=by unfold eqD;rw[Tryz.underlying9];simp only[vs,adJ_]
theorem eqDb (a b:Bool):eqD Tryz.prog 7 4 (.bool a) (.bool b)=some (a==b):=by unfold eqD;rw[Tryz.underlying4];rfl
theorem agI:zW_ Tryz.prog 3=some (false,1):=id (by kernel_rfl)
theorem agS:zW_ Tryz.prog 9=some (false,1):=id (by kernel_rfl)
theorem agB:zW_ Tryz.prog 4=some (false,1):=id (by kernel_rfl)
theorem anS_ (a b:ObL):eqD Tryz.prog 8 43 (obV a.k a.t) (obV b.k b.t)=some (decide (a=b)):=by
 have p0: ∀o:ObL,Sx.partV (false,1) #[vi o.k,vs o.t] 0=some (vi o.k):=fun _=>rfl
 have p1: ∀o:ObL,Sx.partV (false,1) #[vi o.k,vs o.t] 1=some (vs o.t):=fun _=>rfl
 unfold eqD obV
 rw[Tryz.underlying43]
 simp only
 rw[show Tryz.prog.stoodInHeld 43=false by kernel_rfl]
 simp only[Bool.false_eq_true, ↓reduceIte,xo_,x1_,agI,agS,p0,p1,eqDi,eqDs]
 obtain⟨k,t⟩:=a
 obtain⟨k',t'⟩:=b
 have e:decide ((⟨k,t⟩:ObL)=⟨k',t'⟩)=((k==k')&& (t==t')):=by rw[Bool.eq_iff_iff];simp
 rw[e]
 cases(k==k')<;>cases(t==t')<;>rfl
theorem anH_ (a b:ObL):qu_ Tryz.prog .eql 43 (obV a.k a.t) (obV b.k b.t)=some (.bool (decide (a=b))):=by
 have h:=anS_ a b
 unfold qu_ eqX obV at*;rw[show Tryz.prog.eqGuardType Tryz.prog.depth 43=false by kernel_rfl];simp[qm_,h]
theorem apx_ (a b:ObL):qu_ Tryz.prog .neq 43 (obV a.k a.t) (obV b.k b.t)=some (.bool (!decide (a=b))):=by
 have h:=anS_ a b
 unfold qu_ eqX obV at*;rw[show Tryz.prog.eqGuardType Tryz.prog.depth 43=false by kernel_rfl];simp[qm_,h]
instance:DecidableEq PartL:=fun a b=>if h:a.d=b.d∧a.b=b.b∧a.x=b.x then .isTrue (by cases a;cases b;simp only at h;obtain⟨rfl,rfl,rfl⟩:=h;rfl) else .isFalse (fun e=>h (by rw[e];exact⟨rfl,rfl,rfl⟩))
theorem alo_ (a b:PartL):eqD Tryz.prog 8 114 (.agg (zr_ a).toArray) (.agg (zr_ b).toArray)=some (decide (a=b)):=by
 have p0: ∀o:PartL,Sx.partV (false,1) (zr_ o).toArray 0=some (.bool o.d):=fun _=>rfl
 have p1: ∀o:PartL,Sx.partV (false,1) (zr_ o).toArray 1=some (vi o.b):=fun _=>rfl
 have p2: ∀o:PartL,Sx.partV (false,1) (zr_ o).toArray 2=some (vs o.x):=fun _=>rfl
 unfold eqD
 rw[Tryz.underlying114]
 simp only
 rw[show Tryz.prog.stoodInHeld 114=false by kernel_rfl]
 simp only[Bool.false_eq_true, ↓reduceIte,xo_,x1_,agI,agS,agB,p0,p1,p2,eqDi,eqDs,eqDb]
 obtain⟨d,k,t⟩:=a
 obtain⟨d',k',t'⟩:=b
 have e:decide ((⟨d,k,t⟩:PartL)=⟨d',k',t'⟩)=((d==d')&& ((k==k')&& (t==t'))):=by rw[Bool.eq_iff_iff];simp
 rw[e]
 simp only[ne_eq,String.reduceEq,not_false_eq_true, ↓reduceIte]
 cases(d==d')<;>cases(k==k')<;>cases(t==t')<;>rfl
theorem amy_ (a b:PartL):qu_ Tryz.prog .neq 114 (.agg (zr_ a).toArray) (.agg (zr_ b).toArray)=some (.bool (!decide (a=b))):=by
 have h:=alo_ a b
 unfold qu_ eqX;rw[show Tryz.prog.eqGuardType Tryz.prog.depth 114=false by kernel_rfl];simp[qm_,h]
def idxO (x:ObL):List ObL→Nat→Int
 | [],_=> -1
 |y::r,i=>if x=y then(i:Int) else idxO x r (i+1)
set_option linter.defProp false
def aq8_:=And.intro (And.intro (@anH_) (And.intro (@qQ_) (@qh_))) (And.intro (@qf_) (And.intro (@zg_) (@zf_)))
end Go.Proofs
end
section
open Go Go.Proofs Go.Sx Go.StP Go.Flo
namespace Go.Proofs
set_option maxRecDepth 10000
set_option maxHeartbeats 400000
set_option linter.unusedSimpArgs false
theorem ahc_ (s:List UInt8): ∃n:Nat,(j1_ s).1=n∧n≤200:=by
 unfold j1_
 split
 ·have:=qX_ (s:=s) (a:=(jq_ s 0 0 4).2.1) (e:=(jq_ s 0 0 4).2.2) (most:=200) (by omega)
  exact⟨(zq_ s (jq_ s 0 0 4).2.1 (jq_ s 0 0 4).2.2 200).1.toNat,by simp only;omega,by omega⟩
 ·exact⟨0,rfl,by omega⟩
theorem acL_ (s:List UInt8): (j1_ s).2.2.1≤s.length:=by
 have h1:=x0_ (s:=s) (a:=0) (e:=0) (n:=4) (Nat.zero_le _)
 unfold j1_
 split
 ·exact(qb_ (e:=(jq_ s 0 0 4).2.2) (most:=200) h1.2).2
 ·exact h1.2
theorem aee_ (s:List UInt8) (a:Nat) (e most:Int) (hm:0≤most): ((qz_ s a e most).1.length:Int)≤most:=by
 have h1:=qX_ (s:=s) (a:=a) (e:=e) (most:=most) hm
 have h2: ∀ (b:Nat) (e n:Int),0≤n→((jq_ s b e n).1.length:Int)≤n:=by
  intro b e n hn
  unfold jq_
  split
  ·simpa using hn
  ·split
   ·simpa using hn
   ·split
    ·simpa using hn
    ·simp only[List.length_take,List.length_drop];omega
 unfold qz_
 simp only
 split
 ·simpa using hm
 ·have:=h2 (zq_ s a e most).2.1 (zq_ s a e most).2.2 (zq_ s a e most).1 h1.1
  omega
theorem W2_ {s:List UInt8}: ∀ (k i a:Nat) (e:Int) (p:PartL),p∈ (zX_ s k i a e).1→p.x.length≤65536
 |0,i,a,e,p,h=>by cases h
 |k+1,i,a,e,p,h=>by
  unfold zX_ at h
  split at h
  ·rcases List.mem_cons.1 h with rfl|h
   ·have:=aee_ s (zq_ s a e 200).2.1 (zq_ s a e 200).2.2 65536 (by omega)
    show(qz_ s (zq_ s a e 200).2.1 (zq_ s a e 200).2.2 65536).1.length≤65536
    omega
   ·exact W2_ k _ _ _ p h
  ·cases h
theorem JN_ (s:List UInt8):SmallP (jH_ s).1:=fun g hg=>Nat.le_trans (W2_ _ _ _ _ _ (Vz_ hg)) (by omega)
theorem WX_ (s:List UInt8): (jH_ s).1.length≤200∧(jH_ s).2.1.length=(jH_ s).1.length:=by
 obtain⟨n,hn,hle⟩:=ahc_ s
 have:=Jt_ (s:=s) (j1_ s).1.toNat 0 (j1_ s).2.2.1 (j1_ s).2.2.2
 unfold jH_
 rw[hn,Int.toNat_natCast] at this ⊢
 omega
theorem amj_ {D:za_} {E:TypeId} {m n:Nat} {v:Value} {cs:List Value} (h:GrI D E m v n cs) {b:Nat} (hb:slB v=some b):b∈keys D:=by
 obtain⟨X,hX,h⟩:=h
 obtain⟨p,hp,rfl⟩:=List.mem_map.1 (h.key hb)
 exact List.mem_map.2 ⟨p,hX p hp,rfl⟩
theorem acH_ {D:za_} {E:TypeId} {m n:Nat} {v:Value} {cs:List Value} (h:GrI D E m v n cs):Value.oneCell' v=true∧v.cells= #[v]:=by
 obtain⟨X,hX,h⟩:=h;exact h.cell
theorem agJ_ {v0 v1:Value} (h0:Value.oneCell' v0=true∧v0.cells= #[v0]) (h1:Value.oneCell' v1=true∧v1.cells= #[v1]):qV_ (vo_ Tryz.prog 117) (zK_ Tryz.prog 117) [(0,v0),(1,v1)]=some (.agg #[v0,v1, .slice none 0 0, .slice none 0 0]):=by
 rw[show vo_ Tryz.prog 117=some [(0,1),(1,1),(2,1),(3,1)] from id (by kernel_rfl),zrPk]
 simp[qV_,Sx.fillV,h0.2,h1.2,wf_]
theorem zrPr:zK_ Tryz.prog 137=some (.agg #[.pointer none, .slice none 0 0, .slice none 0 0]):=id (by kernel_rfl)
theorem ajv_ (b:Nat):qV_ (vo_ Tryz.prog 137) (zK_ Tryz.prog 137) [(0,vp b 0)]=some (.agg #[vp b 0, .slice none 0 0, .slice none 0 0]):=by
 rw[show vo_ Tryz.prog 137=some [(0,1),(1,1),(2,1)] from id (by kernel_rfl),zrPr];rfl
def ajV_ (b:List UInt8) (v:Value) (D:za_):Prop:=match wB_ b with
 |some q=> ∃bp,v= .tuple #[vp bp 0,vi 0]∧PackD D bp q.1 q.2.1 q.2.2.1 q.2.2.2
 |none=>v= .tuple #[.pointer none,vi 2]
set_option linter.defProp false
def qI_:=And.intro (And.intro (@zg_) (And.intro (@zf_) (@KH_))) (And.intro (And.intro (@K5_) (@KT_)) (And.intro (@Sx.tup2_0) (@Sx.tup2_1)))
theorem Kb_ (b:List UInt8) (w:World) (hG:GlobE w) (hC:GlobC w) (hb:b.length<1099511627776):
  Rets Tryz.prog 17 #[vs b] w (XS w [] (ajV_ b)):=by
 have hgr:3<w.heap.size:=by obtain⟨e0,e1,f0,f1,h0,h1⟩:=hG;exact(Array.getElem?_eq_some_iff.1 h1).1
 refine Rets.enterX Tryz.func17 rfl (rs:= [.tmp 2, .tmp 3]) Tryz.results17 Tryz.ntmps17 (fun p hp=>by cases hp) (by simp[keys]) ?_
 refine kf ?_
 first|with_reducible refine ks [8] @qI_ ?_|refine kp @qI_ ?_
 refine Ow.callFV rfl Tryz.call70 (fun w' hw'=>Qn_ b w' (hC.newP hw' trivial) (by omega)) ?_
 have hun: (zn_ b).1.length≤b.length:=by
  unfold zn_
  split
  ·simp
  ·split
   ·simp only[List.length_take];omega
   ·simp
 unfold ajV_ wB_
 generalize zn_ b=u at*
 obtain⟨s,ok⟩:=u
 simp only at hun ⊢
 cases ok with
 |false=>
  rw[if_neg (by simp)]
  refine ko @qI_ ?_
  first|with_reducible refine ks [] @qI_ ?_|refine kp @qI_ ?_
  refine⟨_,(ke @qI_), ?_⟩
  exact⟨Ext.refl _ _,rfl⟩
 |true=>
  refine ko @qI_ ?_
  first|with_reducible refine ks [] @qI_ ?_|refine kp @qI_ ?_
  refine Ow.callF rfl rfl Tryz.call71 (S:=fun B v D=> ∃b',B≤b'∧v=vp b' 0∧D= [(b',wrO s 0 0)]) (fun w' hw'=>vq_ s w') ?_
  rintro B v D hab hB ⟨bw,hbw,rfl,rfl⟩
  have hww:w.heap.size≤bw:=by omega
  refine⟨_,Mrg.fresh (by intro q hq;simp only[keys,List.map_cons,List.map_nil,List.mem_singleton] at hq;omega), ?_⟩
  rw[List.nil_append]
  refine ko @qI_ ?_
  refine Ow.build (.agg #[vp bw 0, .slice none 0 0, .slice none 0 0]) rfl (ajv_ bw) ?_
  refine ko @qI_ ?_
  refine Ow.box rfl rfl fun br hbr hwr=> ?_
  simp only[qy_,qr_,qs_,zd_]
  have hwbr:bw<br:=zm_ hbr (by simp[keys])
  refine Ow.permL (M:= [(br,prO (vp bw 0) (.slice none 0 0) (.slice none 0 0)),(bw,wrO s 0 0)]) (List.Perm.swap _ _ _) ?_
  refine ko @qI_ ?_
  first|with_reducible refine ks [] @qI_ ?_|refine kp @qI_ ?_
  refine Ow.callX (Y:= []) (by simp) rfl rfl Tryz.call72 (fun w' hw' hX hn=>ahp_ br bw s (.slice none 0 0) (.slice none 0 0) w' (by omega) (by omega) (hX _ List.mem_cons_self) (hX _ (List.mem_cons_of_mem _ List.mem_cons_self))) (fun v22 D22 hC22 hS22=> ?_)
  obtain⟨rfl,rfl⟩:=hS22
  clear hC22
  obtain⟨n,hn,hn2⟩:=ahc_ s
  have hle:=acL_ s
  have hrp:jH_ s=zX_ s n 0 (j1_ s).2.2.1 (j1_ s).2.2.2:=by unfold jH_;rw[hn,Int.toNat_natCast]
  have hrl:=WX_ s
  have hrs:=JN_ s
  rw[hn,List.append_nil]
  refine ko @qI_ ?_
  first|with_reducible refine ks [] @qI_ ?_|refine kp @qI_ ?_
  refine Ow.callX (Y:= []) (by simp) rfl rfl Tryz.call73 (fun w' hw' hX hn=>afz_ br bw s n (j1_ s).2.2.1 (j1_ s).2.2.2 w' (by omega) (by omega) hle (by omega) (hX _ List.mem_cons_self) (hX _ (List.mem_cons_of_mem _ List.mem_cons_self))) (fun v27 D27 hC27 hS27=> ?_)
  obtain⟨rfl,v1,v2,D',rfl,hg1,hg2⟩:=hS27
  rw[←hrp] at hg1 hg2
  rw[←hrp]
  generalize (j1_ s).2.1=okh
  generalize jH_ s=r at*
  obtain⟨l,sp,a,e⟩:=r
  simp only at hg1 hg2 hrl hrs ⊢
  have hN:New w.heap.size D':=New.of_le fun c hc=>by
   rcases hC27.new c (by simp only[keys,List.map_cons,List.mem_cons];exact .inr (.inr hc)) with h|h
   ·simp[keys] at h;omega
   ·exact h.2
  rw[List.append_nil]
  refine ko @qI_ ?_
  first|with_reducible refine ks [] @qI_ ?_|refine kp @qI_ ?_
  refine Cw.regionS [br] [0,1,2,4,5,6,3,7,8,9,10] [] (by kernel_rfl) (by kernel_rfl) (by kernel_rfl) ?_
  simp only[zk_, ↓ze_, ↓zc_, ↓zt_, ↓zs_,zb_]
  refine kq @qI_ ?_
  refine Ow.build (.agg #[v1,v2, .slice none 0 0, .slice none 0 0]) rfl (agJ_ (acH_ hg1) (acH_ hg2)) ?_
  refine kq @qI_ ?_
  refine Ow.soft rfl rfl rfl ?_
  refine Ow.box rfl rfl fun bk hbk hwk=> ?_
  simp only[qy_,qr_,qs_,zd_]
  have hbrk:br<bk:=zm_ hbk (by simp[keys])
  have hDk: ∀c,c∈keys D'→c<bk:=fun c hc=>zm_ hbk (by simp only[keys,List.map_cons,List.mem_cons];exact .inr (.inr hc))
  refine Ow.permL (M:=(bk, .cells #[v1,v2, .slice none 0 0, .slice none 0 0] 117 (0,0)):: ((br,prO (vp bw 0) v1 v2):: (bw,wrO s a e)::D')) (by classical exact List.perm_iff_count.2 fun a=>by simp only[List.count_append,List.count_cons,List.count_nil]<;>omega) ?_
  refine Ow.permL (M:=(bk,pkO v1 v2 (.slice none 0 0) (.slice none 0 0)):: ((br,prO (vp bw 0) v1 v2):: (bw,wrO s a e)::D')) (List.Perm.refl _) ?_
  with_reducible refine Ow.nil ?_
  refine⟨(fun r hr=>by rw[List.mem_singleton] at hr;subst hr;simp(disch:=omega) only[zC_,zz_]), ?_⟩
  refine kq @qI_ ?_
  have hN2:New w.heap.size ((br,prO (vp bw 0) v1 v2):: (bw,wrO s a e)::D'):=⟨hwr,hww,hN⟩
  have hN3:New w.heap.size ((bk,pkO v1 v2 (.slice none 0 0) (.slice none 0 0)):: (br,prO (vp bw 0) v1 v2):: (bw,wrO s a e)::D'):=⟨hwk,hN2⟩
  obtain hok|hok:okh=false∨okh=true:=by cases okh<;>simp
  ·subst hok
   rw[if_neg (by simp)]
   first|with_reducible refine ks [] @qI_ ?_|refine kp @qI_ ?_
   refine⟨_,(ke @qI_), ?_⟩
   exact⟨Ext.of_new hN3,rfl⟩
  ·subst hok
   first|with_reducible refine ks [] @qI_ ?_|refine kp @qI_ ?_
   refine Ow.callFV rfl Tryz.call74 (fun w' hw'=>xI_ bw s a e w' (hw'.has _ _ (List.mem_cons_of_mem _ (List.mem_cons_of_mem _ List.mem_cons_self)))) ?_
   by_cases he:kB_ s a e=0
   ·have e1: (kB_ s a e !=0)=false:=by simp[he]
    rw[if_pos ⟨rfl,rfl,he⟩]
    refine ko (And.intro @qI_ @e1) ?_
    refine Ow.callX (Y:=(br,prO (vp bw 0) v1 v2):: (bw,wrO s a e)::D') (by simp) rfl rfl Tryz.call59 (fun w' hw' hX hn=>VK_ bk v1 v2 l w' ((hg1.mono (fun q hq=>by simp[hq])).slV hw' rfl rfl jP_) (hG.new hw' hN3) hrs.bnd (by omega) (hX _ List.mem_cons_self) (fun h=>by have:=hDk _ (amj_ hg1 h);omega) (by omega)) (fun v50 D50 hC50 hS50=> ?_)
    have hN50:New w.heap.size D50:=ql_ hC50 ⟨hwk,trivial⟩
    unfold ab8_ at hS50
    cases hf:fillV l with
    |none=>
     rw[hf] at hS50
     have hS50':v50= .bool false:=hS50
     subst hS50'
     refine ko @qI_ ?_
     first|with_reducible refine ks [] @qI_ ?_|refine kp @qI_ ?_
     refine⟨_,(ke @qI_), ?_⟩
     exact⟨Ext.of_new (hN50.app hN2),rfl⟩
    |some q=>
     rw[hf] at hS50
     obtain⟨rfl,x2,x3,D'',rfl,hg3,hg4⟩:=hS50
     refine ko @qI_ ?_
     first|with_reducible refine ks [] @qI_ ?_|refine kp @qI_ ?_
     refine⟨_,(ke @qI_), ?_⟩
     refine⟨Ext.of_new (hN50.app hN2),bk,rfl,v1,v2,x2,x3, ?_, ?_, ?_, ?_, ?_⟩
     ·simp
     ·exact hg1.mono fun p hp=>by simp[hp]
     ·exact hg2.mono fun p hp=>by simp[hp]
     ·exact hg3.mono fun p hp=>by simp[hp]
     ·exact hg4.mono fun p hp=>by simp[hp]
   ·have e1: (kB_ s a e !=0)=true:=bne_iff_ne.2 he
    rw[if_neg (fun h=>he h.2.2)]
    refine ko (And.intro @qI_ @e1) ?_
    first|with_reducible refine ks [] @qI_ ?_|refine kp @qI_ ?_
    refine⟨_,(ke @qI_), ?_⟩
    exact⟨Ext.of_new hN3,rfl⟩
end Go.Proofs
end
section
open Go Go.Proofs Go.Sx Go.StP Go.Flo
namespace Go.Proofs
set_option maxRecDepth 10000
set_option maxHeartbeats 400000
set_option linter.unusedSimpArgs false
theorem abv_ (r:RwL):qV_ (vo_ Tryz.prog 104) (zK_ Tryz.prog 104) [(0,Value.agg (a8 r.id.l))]=some (.agg (rwC ⟨r.id,0,0⟩).toArray):=by
 have hp:vo_ Tryz.prog 104=some [(0,32),(32,1),(33,1)]:=id (by kernel_rfl)
 rw[hp,Vq_]
 have e0: (rwC rw0).toArray=(([]:List Value)++ ((rw0.id.l.map v8)++ ([vi rw0.place]++ ([vi rw0.spot])))).toArray:=by congr 1<;>simp only[rwC,List.append_assoc,List.nil_append,List.append_nil]
 have q0:wf_ (([]:List Value)++ ((rw0.id.l.map v8)++ ([vi rw0.place]++ ([vi rw0.spot])))).toArray 0 (r.id.l.map v8)=(([]:List Value)++ ((r.id.l.map v8)++ ([vi rw0.place]++ ([vi rw0.spot])))).toArray:=Vj_ _ _ _ _ (by simp) (by simp[rw0.id.h,r.id.h])
 have s0: (([]:List Value)++ ((rw0.id.l.map v8)++ ([vi rw0.place]++ ([vi rw0.spot])))).toArray.size=34:=by simp[r.id.h,rw0.id.h]
 have z0: (Value.cells (Value.agg (a8 r.id.l))).toList=r.id.l.map v8:=by rw[zd_];rfl
 have y0: (Value.cells (Value.agg (a8 r.id.l))).size=32:=by rw[←Array.length_toList,z0];simp[r.id.h]
 have eZ: (([]:List Value)++ ((r.id.l.map v8)++ ([vi rw0.place]++ ([vi rw0.spot])))).toArray=(rwC ⟨r.id,0,0⟩).toArray:=by congr 1
 simp only[qV_]
 rw[e0]
 unfold Sx.fillV
 simp only[List.getElem?_cons_zero,List.getElem?_cons_succ,z0,y0]
 rw[if_pos ⟨trivial,by rw[s0];decide⟩,q0]
 rw[eZ];rfl
def IxD (D:za_) (bi:Nat) (s:List UInt8) (l:List RwL):Prop:= ∃x,(bi,ixO s x (x9_ l))∈D∧GrI D 104 34 x l.length (l.map rwC).flatten
def IxIn (w:World) (bi:Nat) (s:List UInt8) (l:List RwL):Prop:= ∃x,w.heap[bi]? =some (ixO s x (x9_ l))∧RwSl w x l
theorem IxD.mono {D D':za_} {bi:Nat} {s:List UInt8} {l:List RwL} (h:IxD D bi s l) (hD: ∀p,p∈D→p∈D'):IxD D' bi s l:=by
 obtain⟨x,h1,h2⟩:=h;exact⟨x,hD _ h1,h2.mono hD⟩
theorem IxD.inW {w0 w:World} {D:za_} {bi:Nat} {s:List UInt8} {l:List RwL} (h:IxD D bi s l) (hw:Hp w0 D w):IxIn w bi s l:=by
 obtain⟨x,h1,h2⟩:=h;exact⟨x,hw.has _ _ h1,h2.slV hw rfl rfl zG_⟩
theorem IxIn.old {w w':World} {L:za_} {bi:Nat} {s:List UInt8} {l:List RwL} (h:IxIn w bi s l) (hw:Hp w L w') (hn:New w.heap.size L):IxIn w' bi s l:=by
 obtain⟨x,h1,h2⟩:=h
 exact⟨x,by rw[hw.old bi (Array.getElem?_eq_some_iff.1 h1).1 (hn.not (Array.getElem?_eq_some_iff.1 h1).1)];exact h1,h2.oldN hw hn⟩
theorem adC_ (s:List UInt8) (v1:Value) (F:List Nat) (n:Nat):zo_ (some (false,n)) (some (ixO s v1 F)) 0=some (vs s):=by
 rfl
theorem ajy_ (s:List UInt8) (v1:Value) (F:List Nat) (n:Nat):zo_ (some (false,n)) (some (ixO s v1 F)) 1=some v1:=by
 rfl
theorem aih_ (b:Nat) (s:List UInt8) (a:Nat) (e:Int) (w:World) (ha:a≤s.length) (hs:s.length<9223372036854775808) (ho:w.heap[b]? =some (wrO s a e)):
  Rets Tryz.prog 97 #[vp b 0] w (fun v D=> ∃o,D= [(b,o)]∧v= .agg (a8 (idR s a e).1)∧o=wrO s (idR s a e).2.1 (idR s a e).2.2):=QH_ b s a e w ha hs ho
def Ki_ (b:List UInt8) (v:Value) (D:za_):Prop:=match abZ_ b with
 |some q=> ∃bi,v= .tuple #[vp bi 0,vi 0]∧IxD D bi q.1 q.2
 |none=>v= .tuple #[.pointer none,vi 2]
theorem Je_ (b:List UInt8): (zn_ b).1.length≤b.length:=by
 unfold zn_
 split
 ·simp
 ·split
  ·simp only[List.length_take];omega
  ·simp
theorem alV_ {s:List UInt8} {a:Nat} {e:Int} (ha:a≤s.length): (idR s a e).2.1≤s.length:=(x0_ ha).2
theorem acJ_ {s:List UInt8} {l Z:List RwL} (h:q3_ s l=true) (hZ:rws_SortOf l Z):xw_ s Z=(qE_ (v8_ s l),0):=by
 have e:Z=l:=hZ.eq (Wj_ (jQ_ h).1)
 subst e
 unfold xw_;rw[if_pos h]
theorem ai2_ {b s:List UInt8} {l:List RwL} {a:Nat} {e:Int} (h:kX_ (zn_ b).1 id=(s,l,a,e)):abZ_ b=if kB_ (zn_ b).1 a e=0∧q3_ s l=true∧qE_ (v8_ s l)=b then some (s,l) else none:=by
 unfold abZ_;rw[h]
theorem WP_ {s:List UInt8} {m:Int}: ∀ (k:Nat) (q:Nat×Int),q.2≠0→Zb_ s m k q=q
 |0,_,_=>rfl
 |k+1,q,h=>by
  unfold Zb_
  rw[w8_ h]
  exact WP_ k (q.1,q.2) h
theorem aiy_ {s:List UInt8} {a:Nat} {e:Int} (h:e≠0): (Kd_ s a e).2=(a,e):=by
 unfold Kd_ numP
 simp only[an3_ h,w8_ h]
structure OiG where
 k:Nat
 q:Nat×Int
structure OrG where
 l:List RwL
 q:Nat×Int
 v:Value
 D1:za_
 DG:za_
set_option linter.defProp false
def zR_:=And.intro (And.intro (And.intro (@zg_) (And.intro (@zf_) (@qR_))) (And.intro (@kw_) (And.intro (@vY_) (@wX_)))) (And.intro (And.intro (@wR_) (And.intro (@ju_) (@agU_))) (And.intro (And.intro (@afA_) (@Sx.tup2_0)) (And.intro (@Sx.tup2_1) (@adC_))))
theorem vX_ (b:List UInt8) (w:World) (hC:GlobC w) (hb:b.length<1099511627776):
  Rets Tryz.prog 49 #[vs b] w (XS w [] (Ki_ b)):=by
 refine Rets.enterX Tryz.func49 rfl (rs:= [.tmp 2, .tmp 3]) Tryz.results49 Tryz.ntmps49 (fun p hp=>by cases hp) (by simp[keys]) ?_
 refine kf ?_
 first|with_reducible refine ks [1000021] @zR_ ?_|refine kp @zR_ ?_
 refine Ow.callFV rfl Tryz.call70 (fun w' hw'=>Qn_ b w' (hC.newP hw' trivial) (by omega)) ?_
 have hun: (zn_ b).1.length≤b.length:=Je_ b
 unfold Ki_
 obtain⟨r,hr⟩: ∃r,r=kX_ (zn_ b).1 id:=⟨_,rfl⟩
 obtain⟨rs,rl,ra,re⟩:=r
 rw[ai2_ hr.symm]
 generalize zn_ b=u at*
 obtain⟨s,ok⟩:=u
 simp only at hun hr ⊢
 refine ko @zR_ ?_
 first|with_reducible refine ks [] @zR_ ?_|refine kp @zR_ ?_
 refine Ow.callF rfl rfl Tryz.call71 (S:=fun B v D=> ∃b',B≤b'∧v=vp b' 0∧D= [(b',wrO s 0 0)]) (fun w' hw'=>vq_ s w') ?_
 rintro B v D hab hB ⟨bw,hbw,rfl,rfl⟩
 have hww:w.heap.size≤bw:=by omega
 refine⟨_,Mrg.fresh (by intro q hq;simp only[keys,List.map_cons,List.map_nil,List.mem_singleton] at hq;omega), ?_⟩
 rw[List.nil_append]
 refine ko @zR_ ?_
 first|with_reducible refine ks [] @zR_ ?_|refine kp @zR_ ?_
 refine Ow.callM rfl rfl Tryz.call94 (by simp[keys]) (fun w' hw'=>X0_ bw s 0 0 8 w' (Nat.zero_le _) (by omega) (hw'.has _ _ List.mem_cons_self)) ?_
 have r1:=x0_ (s:=s) (a:=0) (e:=0) (n:=8) (Nat.zero_le _)
 unfold kX_ at hr
 have hr8: (jq_ s 0 0 8).2.2=0→(jq_ s 0 0 8).1.length=8:=fun h=>(ad1_ (Nat.zero_le _) h).2.1
 generalize jq_ s 0 0 8=p at*
 obtain⟨hd,a1,e1⟩:=p
 simp only at r1 hr hr8 ⊢
 refine kn ?_
 refine ko @zR_ ?_
 first|with_reducible refine ks [] @zR_ ?_|refine kp @zR_ ?_
 refine Ow.callM rfl rfl Tryz.call95 (by simp[keys]) (fun w' hw'=>jl_ bw s a1 e1 200 w' r1.2 (by omega) (hw'.has _ _ List.mem_cons_self)) ?_
 have r2:=qb_ (s:=s) (a:=a1) (e:=e1) (most:=200) r1.2
 have m2:=qX_ (s:=s) (a:=a1) (e:=e1) (most:=200) (by omega)
 have f2:e1≠0→(zq_ s a1 e1 200).2.2≠0:=fun h=>by rw[w8_ h];exact h
 generalize zq_ s a1 e1 200=p at*
 obtain⟨n0,a2,e2⟩:=p
 simp only at r2 m2 hr f2 ⊢
 obtain⟨n,rfl⟩: ∃n:Nat,n0=(n:Int):=⟨n0.toNat,by omega⟩
 rw[Int.toNat_natCast] at hr
 refine kn ?_
 refine ko @zR_ ?_
 first|with_reducible refine ks [] @zR_ ?_|refine kp @zR_ ?_
 have hrq: (rs,rl,ra,re)=(hd.drop 4,vK_ s n (Zb_ s (n:Int) 16 (a2,e2))):=hr
 clear hr
 refine Cw.loopG (G:=OiG) [27,28,29,30,31,26] (fun g=> [(26,vi g.k)]) (fun g=> [(bw,wrO s g.q.1 g.q.2)]) (fun g=>g.k≤16∧g.q.1≤s.length∧Zb_ s (n:Int) 16 (a2,e2)=Zb_ s (n:Int) (16 - g.k) g.q) (fun g=>16 - g.k) ⟨0,(a2,e2)⟩ rfl rfl ?_ ?_
 ·exact⟨Nat.zero_le _,r2.2,rfl⟩
 intro g j hg
 refine kv ?_
 obtain⟨k,q⟩:=g
 simp only at hg ⊢
 obtain⟨hk,hq,hf⟩:=hg
 by_cases hlt:k<16
 ·have d1:decide ((k:Int)<16)=true:=decide_eq_true (by omega)
  have hf2:Zb_ s (n:Int) (16 - k) q=Zb_ s (n:Int) (16 - (k+1)) (zq_ s q.1 q.2 n).2:=by
   rw[show 16 - k=(16 - (k+1))+1 by omega];rfl
  first|with_reducible refine ks [] (And.intro @zR_ @d1) ?_|refine kp (And.intro @zR_ @d1) ?_
  refine Ow.callM rfl rfl Tryz.call95 (by simp[keys]) (fun w' hw'=>jl_ bw s q.1 q.2 n w' hq (by omega) (hw'.has _ _ List.mem_cons_self)) ?_
  refine kn ?_
  refine ko @zR_ ?_
  first|with_reducible refine ks [] @zR_ ?_|refine kp @zR_ ?_
  exact Again.mk ⟨k+1,(zq_ s q.1 q.2 n).2⟩ (by show 16 - (k+1)<16 - k;omega) ⟨hlt,(qb_ hq).2,hf.trans hf2⟩ rfl rfl
 obtain rfl:k=16:=by omega
 have d1:decide (((16:Nat):Int)<16)=false:=rfl
 have hf3:Zb_ s (n:Int) 16 (a2,e2)=q:=hf
 have g2:q.2=0→e1=0:=fun h=>Decidable.byContradiction fun hh=>by
  have:=WP_ (s:=s) (m:=n) 16 (a2,e2) (f2 hh)
  rw[hf3] at this
  rw[this] at h
  exact f2 hh h
 rw[hf3] at hrq
 clear hf hf3 r2 f2
 obtain⟨q0,hq0⟩: ∃q0,q0=q:=⟨q,rfl⟩
 rw[←hq0] at hrq
 first|with_reducible refine ks [] (And.intro @zR_ @d1) ?_|refine kp (And.intro @zR_ @d1) ?_
 refine Cw.permL (M:=(bw,wrO s q.1 q.2):: ([]++ [])) (List.Perm.refl _) ?_
 refine Cw.loopG (G:=OrG) [34,35,36,37,10,38,39,40,41,42,43,44,45,46,47,9,48,33] (fun g=> [(9,g.v),(33,vi g.l.length)]) (fun g=>(bw,wrO s g.q.1 g.q.2):: (g.D1++g.DG)) (fun g=>g.l.length≤n∧g.q.1≤s.length∧New w.heap.size g.D1∧New w.heap.size g.DG∧Gr g.D1 104 34 g.v g.l.length (g.l.map rwC).flatten∧(g.q.2=0→q.2=0)∧vK_ s n q0=(g.l++ (vK_ s (n - g.l.length) g.q).1,(vK_ s (n - g.l.length) g.q).2)) (fun g=>n - g.l.length) ⟨[],q, .slice none 0 0,[],[]⟩ rfl rfl ?_ ?_
 ·exact⟨Nat.zero_le _,hq,trivial,trivial,Gr.nl,id,by rw[hq0];rfl⟩
 intro g j hg
 refine kv ?_
 obtain⟨l,qq,v,D1,DG⟩:=g
 simp only at hg ⊢
 obtain⟨hln,hqq,hN1,hNG,hG1,hez,hrr⟩:=hg
 by_cases hlt:l.length<n
 ·have d1:decide ((l.length:Int)< (n:Int))=true:=decide_eq_true (by omega)
  obtain⟨a,e⟩:=qq
  have hpr:vK_ s n q0=(l++ [(Kd_ s a e).1]++ (vK_ s (n - (l++ [(Kd_ s a e).1]).length) (Kd_ s a e).2).1,(vK_ s (n - (l++ [(Kd_ s a e).1]).length) (Kd_ s a e).2).2):=by
   rw[hrr,show n - l.length=(n - (l++ [(Kd_ s a e).1]).length)+1 by simp;omega]
   generalize n - (l++ [(Kd_ s a e).1]).length=m
   show(l++ ((Kd_ s a e).1:: (vK_ s m (Kd_ s a e).2).1),(vK_ s m (Kd_ s a e).2).2)=_
   rw[List.append_assoc];rfl
  have herr: (Kd_ s a e).2.2=0→e=0:=fun h=>Decidable.byContradiction fun hh=>by
   rw[aiy_ hh] at h;exact hh h
  have hrow:Kd_ s a e=(⟨wD_ (idR s a e).1,(zq_ s (idR s a e).2.1 (idR s a e).2.2 1099511627775).1,(numP s (zq_ s (idR s a e).2.1 (idR s a e).2.2 1099511627775).2).1⟩,(numP s (zq_ s (idR s a e).2.1 (idR s a e).2.2 1099511627775).2).2):=rfl
  have hNr:New w.heap.size ((bw,wrO s a e):: (D1++DG)):=⟨hww,hN1.app hNG⟩
  first|with_reducible refine ks [] (And.intro @zR_ @d1) ?_|refine kp (And.intro @zR_ @d1) ?_
  refine Ow.callM rfl rfl Tryz.call97 (by simp[keys]) (fun w' hw'=>aih_ bw s a e w' hqq (by omega) (hw'.has _ _ List.mem_cons_self)) ?_
  obtain⟨i,hi⟩: ∃i,i=wD_ (idR s a e).1:=⟨_,rfl⟩
  have hil: (idR s a e).1=i.l:=by rw[hi];exact(QB_ (KW_ s a e)).symm
  have hle1:=alV_ (e:=e) hqq
  rw[←hi] at hrow
  generalize idR s a e=p at*
  obtain⟨p1,a3,e3⟩:=p
  simp only at hil hrow hle1 ⊢
  subst hil
  clear hi
  refine kn ?_
  refine ko @zR_ ?_
  refine Ow.build (.agg (rwC ⟨i,0,0⟩).toArray) rfl (abv_ ⟨i,0,0⟩) ?_
  refine ko @zR_ ?_
  refine Ow.alloc rfl rfl Vq_ fun b10 hb10 hw10=> ?_
  simp only[zd_,List.nil_append,List.cons_append]
  have h10:bw<b10:=zm_ hb10 (by simp[keys])
  refine Ow.permL (M:=(b10, .cells (rwC rw0).toArray 104 (0,0)):: (bw,wrO s a3 e3):: (D1++DG)) (by classical exact List.perm_iff_count.2 fun a=>by simp only[List.count_append,List.count_cons,List.count_nil]<;>omega) ?_
  refine ko @zR_ ?_
  first|with_reducible refine ks [] @zR_ ?_|refine kp @zR_ ?_
  refine Ow.callM rfl rfl Tryz.call95 (by simp[keys]) (fun w' hw'=>jl_ bw s a3 e3 1099511627775 w' hle1 (by omega) (hw'.has _ _ (List.mem_cons_of_mem _ List.mem_cons_self))) ?_
  have hle2:=(qb_ (e:=e3) (most:=1099511627775) hle1).2
  generalize zq_ s a3 e3 1099511627775=p at*
  obtain⟨x1,a4,e4⟩:=p
  simp only at hrow hle2 ⊢
  refine kn ?_
  refine ko @zR_ ?_
  refine Ow.callM rfl rfl Tryz.call95 (by simp[keys]) (fun w' hw'=>jl_ bw s a4 e4 1099511627775 w' hle2 (by omega) (hw'.has _ _ (List.mem_cons_of_mem _ List.mem_cons_self))) ?_
  have hle3:=(qb_ (e:=e4) (most:=1099511627775) hle2).2
  have hrow2:Kd_ s a e=(⟨i,x1,(zq_ s a4 e4 1099511627775).1⟩,(zq_ s a4 e4 1099511627775).2):=hrow
  clear hrow
  generalize zq_ s a4 e4 1099511627775=p at*
  obtain⟨x2,a5,e5⟩:=p
  simp only at hrow2 hle3 ⊢
  rw[hrow2] at hpr herr
  simp only at hpr herr
  refine kn ?_
  refine ko @zR_ ?_
  first|with_reducible refine ks [] @zR_ ?_|refine kp @zR_ ?_
  generalize (RwL.mk i x1 x2)=r at*
  refine Ow.buildSlice (e:=104) (rwC r).toArray rfl rfl (qA_ Tryz.underlying81 adV_ Vq_ (by decide) (zG_ _)) fun ba hba hwa=> ?_
  refine ko @zR_ ?_
  refine Ow.permL (M:=D1++ ((b10, .cells (rwC r).toArray 104 (0,0)):: (bw,wrO s a5 e5):: (DG++ [(ba, .cells (rwC r).toArray 104 (0,0))]))) (by classical exact List.perm_iff_count.2 fun a=>by simp only[List.count_append,List.count_cons,List.count_nil]<;>omega) ?_
  refine Ow.appendXG (e:=104) (k:=1) (new:=rwC r) (X:=D1) v rfl rfl rfl rfl Tryz.underlying81 adV_ (by kernel_rfl) Vq_ (by rw[qR_,List.size_toArray,zG_]) Tryz.underlying81 (by intro k h;cases h) hG1 (fun w' hw'=>AppX.one1 (hw'.has ba (.cells (rwC r).toArray 104 (0,0)) (by simp)) (zG_ _) (ZX_ _)) (by omega) (fun B4 v4 D4 hA4 hB4 hG4 hk41 hk42 hlk4=> ?_)
  have hN4:New w.heap.size D4:=New.of_le fun q hq=>by
   rcases hk42 q hq with h|h
   ·exact hN1.le q h
   ·omega
  refine Ow.permL (M:=(bw,wrO s a5 e5):: (D4++ ((b10, .cells (rwC r).toArray 104 (0,0)):: (DG++ [(ba, .cells (rwC r).toArray 104 (0,0))])))) (by classical exact List.perm_iff_count.2 fun a=>by simp only[List.count_append,List.count_cons,List.count_nil]<;>omega) ?_
  refine ko @zR_ ?_
  first|with_reducible refine ks [] @zR_ ?_|refine kp @zR_ ?_
  have hl1: (l++ [r]).length=l.length+1:=by simp
  refine Again.mk ⟨l++ [r],(a5,e5),v4,D4,(b10, .cells (rwC r).toArray 104 (0,0)):: (DG++ [(ba, .cells (rwC r).toArray 104 (0,0))])⟩ (by show n - (l++ [r]).length<n - l.length;omega) ⟨by show(l++ [r]).length≤n;omega,hle3,hN4,⟨hw10,hNG.app ⟨hwa,trivial⟩⟩,by simpa using hG4,fun h=>hez (herr h),hpr⟩ rfl (by simp only[hl1];rfl)
 ·obtain rfl:n=l.length:=by omega
  have d1:decide ((l.length:Int)< (l.length:Int))=false:=decide_eq_false (by omega)
  rw[Nat.sub_self] at hrr
  rw[hrr] at hrq
  simp only[vK_,List.append_nil,Prod.mk.injEq] at hrq
  obtain⟨hrs,hrl,hq5⟩:=hrq
  have hqa:ra=qq.1:=congrArg Prod.fst hq5
  have hqe:re=qq.2:=congrArg Prod.snd hq5
  rw[hrs,hrl,hqa,hqe]
  clear hrs hrl hqa hqe hq5 hrr
  have hNr:New w.heap.size ((bw,wrO s qq.1 qq.2):: (D1++DG)):=⟨hww,hN1.app hNG⟩
  first|with_reducible refine ks [] (And.intro @zR_ @d1) ?_|refine kp (And.intro @zR_ @d1) ?_
  refine Ow.callFV rfl Tryz.call74 (fun w' hw'=>xI_ bw s qq.1 qq.2 w' (hw'.has _ _ List.mem_cons_self)) ?_
  by_cases he:kB_ s qq.1 qq.2=0
  ·have e1': (kB_ s qq.1 qq.2 !=0)=false:=by rw[he];rfl
   have h8:hd.length=8:=hr8 (g2 (hez (afb_ he).1))
   have h8':decide ((0:Int)≤4∧(4:Int)≤ (hd.length:Int))=true:=decide_eq_true (by omega)
   refine ko (And.intro @zR_ @e1') ?_
   first|with_reducible refine ks [] @zR_ ?_|refine kp @zR_ ?_
   refine Ow.callC rfl rfl Tryz.call110 (fun w' hw'=>acV_ (hd.drop 4) v l w' ((Gr.i hG1 (fun c hc=>by simp[hc])).slV hw' rfl rfl zG_) (by omega)) (fun B1 v18 D18 hA18 hB18 hN18 hS18=> ?_)
   have hN:New w.heap.size ((bw,wrO s qq.1 qq.2):: (D1++DG)++D18):=New.app (L:=(bw,wrO s qq.1 qq.2):: (D1++DG)) hNr (hN18.mono hB18)
   unfold OfIS at hS18
   by_cases hok:wQ_ l l.length=true
   ·rw[if_pos hok] at hS18
    obtain⟨bi,rfl,hbi⟩:=hS18
    have hri: (decide ((hd.drop 4).length=4)&&decide (l.length≤200))=q3_ (hd.drop 4) l:=by unfold q3_;rw[hok,Bool.true_and]
    rw[hri]
    cases hr:q3_ (hd.drop 4) l with
    |false=>
     rw[if_neg (by simp)]
     refine ko @zR_ ?_
     first|with_reducible refine ks [] @zR_ ?_|refine kp @zR_ ?_
     refine⟨_,(ke @zR_), ?_⟩
     exact⟨Ext.of_new hN,rfl⟩
    |true=>
     refine ko @zR_ ?_
     refine Cw.rebaseX (S1:=fun v D=>v=if qE_ (v8_ (hd.drop 4) l)=b then .tuple #[vp bi 0,vi 0] else .tuple #[.pointer none,vi 2]) (by rfl) (fun w1 hw1=> ?_) (fun v' D' hD' hv'=> ?_)
     ·have hC1:=hC.newP hw1 hN
      have hb1:w1.heap[bi]? =some (ixO (hd.drop 4) v (x9_ l)):=hw1.has _ _ (by simp[hbi])
      have hv1:RwSl w1 v l:=(Gr.i hG1 (fun c hc=>by simp[hc])).slV hw1 rfl rfl zG_
      obtain⟨-,h4,-⟩:=jQ_ hr
      clear hw1
      first|with_reducible refine ks [] (And.intro @zR_ @hb1) ?_|refine kp (And.intro @zR_ @hb1) ?_
      refine Ow.callC rfl rfl Tryz.call42 (fun w' hw'=>Rets.toX (kW_ (hd.drop 4) v l w' (hC1.newP hw' trivial) (hv1.oldN hw' trivial) (by omega) (by omega))) (fun B2 v2 D2 hA2 hB2 hN2 hS2=> ?_)
      obtain⟨rfl,Z,hZ,rfl⟩:=hS2
      rw[acJ_ hr hZ,List.append_nil]
      refine ko @zR_ ?_
      by_cases hbb:qE_ (v8_ (hd.drop 4) l)=b
      ·have d5: (qE_ (v8_ (hd.drop 4) l) !=b)=false:=bne_eq_false_iff_eq.2 hbb
       rw[if_pos hbb]
       first|with_reducible refine ks [] (And.intro @zR_ @d5) ?_|refine kp (And.intro @zR_ @d5) ?_
       refine⟨_,(ke @zR_), ?_⟩
       exact⟨Ext.refl w1 [],rfl⟩
      ·have d5: (qE_ (v8_ (hd.drop 4) l) !=b)=true:=bne_iff_ne.2 hbb
       rw[if_neg hbb]
       first|with_reducible refine ks [] (And.intro @zR_ @d5) ?_|refine kp (And.intro @zR_ @d5) ?_
       refine⟨_,(ke @zR_), ?_⟩
       exact⟨Ext.refl w1 [],rfl⟩
     ·refine⟨Ext.of_new (hN.app hD'), ?_⟩
      by_cases hbb:qE_ (v8_ (hd.drop 4) l)=b
      ·rw[if_pos hbb] at hv'
       rw[if_pos ⟨he,rfl,hbb⟩]
       exact⟨bi,hv',v,(by simp[hbi]),Gr.i hG1 (fun c hc=>by simp[hc])⟩
      ·rw[if_neg hbb] at hv'
       rw[if_neg (fun h=>hbb h.2.2)]
       exact hv'
   ·rw[if_neg hok] at hS18
    subst hS18
    rw[if_neg (fun h=>hok (jQ_ h.2.1).1)]
    refine ko @zR_ ?_
    first|with_reducible refine ks [] @zR_ ?_|refine kp @zR_ ?_
    refine⟨_,(ke @zR_), ?_⟩
    exact⟨Ext.of_new hN,rfl⟩
  ·have e1': (kB_ s qq.1 qq.2 !=0)=true:=bne_iff_ne.2 he
   rw[if_neg (fun h=>he h.1)]
   refine ko (And.intro @zR_ @e1') ?_
   first|with_reducible refine ks [] @zR_ ?_|refine kp @zR_ ?_
   refine⟨_,(ke @zR_), ?_⟩
   exact⟨Ext.of_new hNr,rfl⟩
end Go.Proofs
end
section
open Go Go.Proofs Go.Sx Go.Dig
namespace Go.Proofs
set_option maxRecDepth 10000
set_option maxHeartbeats 1000000
set_option linter.unusedSimpArgs false
set_option linter.defProp false
def j8_:=And.intro (@zg_) (@zf_)
theorem ajz_ (id:List UInt8) (hid:id.length=32) (w:World):Rets Tryz.prog 114 #[.agg (a8 id)] w (fun v D=>v=vs (hexV id)∧D= []):=by
 refine Rets.enterV Tryz.func114 rfl (rs:= [.tmp 2]) Tryz.results114 Tryz.ntmps114 ?_
 refine kf ?_
 first|with_reducible refine ks [] @j8_ ?_|refine kp @j8_ ?_
 refine Ow.box rfl rfl fun b1 hb1 hw1=> ?_
 refine ko @j8_ ?_
 first|with_reducible refine ks [] @j8_ ?_|refine kp @j8_ ?_
 refine Ow.alloc rfl rfl Tryz.zr223 fun b2 hb2 hw2=> ?_
 refine ko @j8_ ?_
 first|with_reducible refine ks [] @j8_ ?_|refine kp @j8_ ?_
 obtain⟨h12,-⟩:=hb2
 refine Cw.loopG (G:=Nat) [8,9,10,4,5,11,12,13,14,15,16,17,18,19,20,21,22,23,24,7] (fun g=> [(7,vi g)]) (fun g=> [(b1, .cells (a8 id) 37),(b2, .cells (a8 (Qh_ id g)) 223)]) (fun g=>g≤32) (fun g=>32 - g) 0 rfl rfl ?_ ?_
 ·omega
 intro g j hg
 refine kv ?_
 by_cases hlt:g<32
 ·have hl:=Za_ id g hid hg
  first|with_reducible refine ks [] @j8_ ?_|refine kp @j8_ ?_
  have h4:=amR_ (id.getD g 0)
  have h15:=ajn_ (id.getD g 0)
  refine Cw.regionO [0,1,2,3,4,5,6,7,8,9,10,11,12,13,14] [12,14] rfl (by kernel_rfl) (by kernel_rfl) ?_
  simp only[zk_, ↓ze_, ↓zc_, ↓zt_, ↓zs_,zb_]
  refine kq @j8_ ?_
  refine Ow.store rfl rfl rfl (ke @j8_) ?_
  refine ko @j8_ ?_
  first|with_reducible refine ks [] @j8_ ?_|refine kp @j8_ ?_
  refine Again.mk (g+1) (by omega) (by omega) ?_ rfl
  exact congrArg (fun l=> [(b1,Obj.cells (a8 id) 37),(b2,Obj.cells (a8 l) 223)]) (ab9_ id g hid hlt _ _ (alW_ _) (akj_ _))
 ·have hg32:g=32:=by omega
  subst hg32
  have hl:=Za_ id 32 hid (by omega)
  first|with_reducible refine ks [] @j8_ ?_|refine kp @j8_ ?_
  exact⟨_,rfl,⟨hw1,hw2,trivial⟩,by show vs _=_;rw[List.drop_zero,List.take_of_length_le (by omega),aeu_ id hid]⟩
theorem Vg_ (s p:List UInt8) (w:World) (hs:s.length<1099511627776):Rets Tryz.prog 151 #[vs s,vs p] w (fun v D=>v= .bool (decide (p.length≤s.length)&& (s.take p.length==p))∧D= []):=by
 refine Rets.enterV Tryz.func151 rfl (rs:= [.tmp 4]) Tryz.results151 Tryz.ntmps151 ?_
 refine kf ?_
 by_cases h:p.length≤s.length
 ·have e1:decide ((p.length:Int)≤ (s.length:Int))=true:=decide_eq_true (by omega)
  first|with_reducible refine ks [] (And.intro @j8_ @e1) ?_|refine kp (And.intro @j8_ @e1) ?_
  refine⟨_,(ke @j8_),trivial, ?_⟩
  simp[wj_,h]
 ·have e1:decide ((p.length:Int)≤ (s.length:Int))=false:=decide_eq_false (by omega)
  first|with_reducible refine ks [] (And.intro @j8_ @e1) ?_|refine kp (And.intro @j8_ @e1) ?_
  refine⟨_,(ke @j8_),trivial, ?_⟩
  simp[wj_,h]
theorem V4_ (s p:List UInt8) (w:World) (hs:s.length<1099511627776):Rets Tryz.prog 113 #[vs s,vs p] w (fun v D=>v= .bool (decide (p.length≤s.length)&& (s.take p.length==p))∧D= []):=by
 refine Rets.enterV Tryz.func113 rfl (rs:= [.tmp 4]) Tryz.results113 Tryz.ntmps113 ?_
 refine kf ?_
 first|with_reducible refine ks [] @j8_ ?_|refine kp @j8_ ?_
 refine Ow.callFV rfl Tryz.call151 (fun w' hw'=>Vg_ s p w' hs) ?_
 refine ko @j8_ ?_
 refine⟨_,(ke @j8_),trivial, ?_⟩
 rfl
end Go.Proofs
end
section
open Go Go.Proofs Go.Sx Go.StP Go.Flo Go.Dig
namespace Go.Proofs
set_option maxRecDepth 10000
set_option maxHeartbeats 400000
set_option linter.unusedSimpArgs false
theorem apz_ (b o:Nat):qu_ Tryz.prog .eql 93 (vp b o) (.pointer none)=some (.bool false):=by
 simp[qu_,eqX,qm_,qt_,Tryz.underlying93,vp]
theorem anz_:qu_ Tryz.prog .eql 93 (.pointer none) (.pointer none)=some (.bool true):=by
 simp[qu_,eqX,qm_,qt_,Tryz.underlying93]
theorem anb_ (v:Value) (n:Nat) (E:TypeId) (fz:Nat×Nat):zo_ (some (false,n)) (some (.cells #[v] E fz)) 0=some v:=(rfl)
theorem aje_:Value.cells (.pointer none)= #[.pointer none]:=(rfl)
theorem aiX_ (b o:Nat):Value.cells (vp b o)= #[vp b o]:=(rfl)
theorem ahP_ (s:List UInt8) (v1:Value) (l:List RwL) (n:Nat):zo_ (some (false,n)) (some (ixO s v1 (x9_ l))) 2=some (vi ((kA_ l 0:Nat):Int)):=by
 have:=Qx_ s v1 (x9_ l) n 0 (by rw[kl_];omega)
 rwa [show(x9_ l).getD 0 0=kA_ l 0 from rfl] at this
theorem ahj_ (l:List RwL) {d:Nat} (h:d<16): (x9_ l).getD d 0=kA_ l d:=by
 unfold x9_
 rw[List.getD_eq_getElem?_getD,List.getElem?_map,List.getElem?_range h];rfl
def Wm_ (p:Nat→Bool) (i j:Nat):Nat:=if i<j then(if p ((i+j) / 2)=true then Wm_ p i ((i+j) / 2) else Wm_ p ((i+j) / 2+1) j) else i
termination_by j - i
decreasing_by all_goals omega
theorem QP_ (p:Nat→Bool): ∀ (n i j:Nat),j - i≤n→i≤j→i≤Wm_ p i j∧Wm_ p i j≤j∧(Wm_ p i j=i∨p (Wm_ p i j - 1)=false)∧(Wm_ p i j=j∨p (Wm_ p i j)=true)
 |0,i,j,h,hij=>by
  rw[Wm_,if_neg (by omega)]
  exact⟨Nat.le_refl _,hij, .inl rfl, .inl (by omega)⟩
 |n+1,i,j,h,hij=>by
  rw[Wm_]
  by_cases hlt:i<j
  ·rw[if_pos hlt]
   cases hp:p ((i+j) / 2) with
   |true=>
    rw[if_pos rfl]
    obtain⟨h1,h2,h3,h4⟩:=QP_ p n i ((i+j) / 2) (by omega) (by omega)
    refine⟨h1,by omega,h3, ?_⟩
    rcases h4 with h4|h4
    ·right;rw[h4];exact hp
    ·exact .inr h4
   |false=>
    rw[if_neg (by simp)]
    obtain⟨h1,h2,h3,h4⟩:=QP_ p n ((i+j) / 2+1) j (by omega) (by omega)
    refine⟨by omega,h2, ?_,h4⟩
    rcases h3 with h3|h3
    ·right;rw[h3,Nat.add_sub_cancel];exact hp
    ·exact .inr h3
  ·rw[if_neg hlt]
   exact⟨Nat.le_refl _,hij, .inl rfl, .inl (by omega)⟩
section
variable {P:Program} {w0:World} {f:Fr} {L:za_} {N:Fr→za_→Prop} {ops:Array Oper} {rest:List Oper} {md:Md} {d:Option Tmp} {ty:TypeId} {ps:String} {af:Array Edge} {g:Option (Nat×Bool)}
theorem Ow.callFn1C {x y:Operand} {ts:Array TypeId} {k:FuncId} {v a:Value} {cap:Array Value} (hs:zh_ ops f ⟨d, .call ⟨.value x, #[y],ts⟩,ty,ps,af,g⟩=false) (hx:ev f x= .func (.func k) #[] cap) (hy:ev f y=a)
  (hk: ∀a w,(callFunc k a).run P w= .ok (.enter k a) w) (hc: ∀w,Hp w0 L w→Rets P k (#[a]++cap) w (fun v' D=>v'=v∧D= [])) (hn:Ow P w0 ops md.next rest (qo_ f d v) L N):
  Ow P w0 ops md (⟨d, .call ⟨.value x, #[y],ts⟩,ty,ps,af,g⟩::rest) f L N:=
 Ow.callV hs hx hk (fun w hw=>by simpa [hy] using hc w hw) hn
end
structure SrG where
 i:Nat
 j:Nat
set_option linter.defProp false
def Vk_:=And.intro (@zg_) (And.intro (@zf_) (@WJ_))
theorem acf_ (p:Nat→Bool) (n k:Nat) (cap:Array Value) (w:World) (hn:n<1000000) (hk: ∀a w,(callFunc k a).run Tryz.prog w= .ok (.enter k a) w) (hc: ∀i,i<n→ ∀w',Hp w [] w'→Rets Tryz.prog k (#[vi (i:Int)]++cap) w' (fun v D=>v= .bool (p i)∧D= [])):
  Rets Tryz.prog 119 #[vi n, .func (.func k) #[] cap] w (fun v D=>v=vi (Wm_ p 0 n:Nat)∧D= []):=by
 refine Rets.enterV Tryz.func119 rfl (rs:= [.tmp 4]) Tryz.results119 Tryz.ntmps119 ?_
 refine kf ?_
 obtain⟨r,hr⟩: ∃r,r=Wm_ p 0 n:=⟨_,rfl⟩
 rw[←hr]
 first|with_reducible refine ks [] @Vk_ ?_|refine kp @Vk_ ?_
 refine Cw.loopG (G:=SrG) [9,10,11,12,13,14,15,16,17,7,18,19,20,21,22,23,5,24,6] (fun g=> [(5,vi g.i),(6,vi g.j)]) (fun g=> []) (fun g=>g.i≤g.j∧g.j≤n∧r=Wm_ p g.i g.j) (fun g=>g.j - g.i) ⟨0,n⟩ rfl rfl ?_ ?_
 ·exact⟨Nat.zero_le _,Nat.le_refl _,hr⟩
 intro g j hg
 refine kv ?_
 obtain⟨i,j⟩:=g
 simp only at hg ⊢
 obtain⟨h1,h2,h3⟩:=hg
 by_cases hlt:i<j
 ·have d1:decide ((i:Int)< (j:Int))=true:=decide_eq_true (by omega)
  rw[Wm_,if_pos hlt] at h3
  first|with_reducible refine ks [] (And.intro @Vk_ @d1) ?_|refine kp (And.intro @Vk_ @d1) ?_
  refine Ow.callFn1C (v:= .bool (p ((i+j) / 2))) rfl rfl rfl hk (fun w' hw'=>by have:=hc ((i+j) / 2) (by omega) w' hw';exact this) ?_
  cases hp:p ((i+j) / 2) with
  |true=>
   rw[hp,if_pos rfl] at h3
   refine ko @Vk_ ?_
   exact Again.mk ⟨i,(i+j) / 2⟩ (by show(i+j) / 2 - i<j - i;omega) ⟨by show i≤ (i+j) / 2;omega,by show(i+j) / 2≤n;omega,h3⟩ rfl rfl
  |false=>
   rw[hp,if_neg (by simp)] at h3
   refine ko @Vk_ ?_
   exact Again.mk ⟨(i+j) / 2+1,j⟩ (by show j - ((i+j) / 2+1)<j - i;omega) ⟨by show(i+j) / 2+1≤j;omega,h2,h3⟩ rfl rfl
 ·have d1:decide ((i:Int)< (j:Int))=false:=decide_eq_false (by omega)
  rw[Wm_,if_neg hlt] at h3
  first|with_reducible refine ks [] (And.intro @Vk_ @d1) ?_|refine kp (And.intro @Vk_ @d1) ?_
  refine⟨_,(ke @Vk_),trivial, ?_⟩
  rw[h3];rfl
set_option linter.defProp false
def zy_:=And.intro (And.intro (And.intro (And.intro (@zg_) (@zf_)) (And.intro (@anb_) (@aje_))) (And.intro (And.intro (@aiX_) (@ji_)) (And.intro (@adC_) (And.intro (@ajy_) (@apz_))))) (And.intro (And.intro (And.intro (@anz_) (@kw_)) (And.intro (@vY_) (@wX_))) (And.intro (And.intro (@wR_) (@qR_)) (And.intro (@ju_) (And.intro (@Sx.tup2_0) (@Sx.tup2_1)))))
theorem kQ_ (bi:Nat) (s:List UInt8) (l:List RwL) (w:World) (h:IxIn w bi s l) (hl:l.length<1000000):
  Rets Tryz.prog 51 #[vp bi 0] w (XS w [] (fun v D=>GrI D 104 34 v l.length (l.map rwC).flatten)):=by
 obtain⟨x,h1,h2⟩:=id h
 refine Rets.enterX Tryz.func51 rfl (rs:= [.tmp 2]) Tryz.results51 Tryz.ntmps51 (fun p hp=>by cases hp) (by simp[keys]) ?_
 refine kf ?_
 first|with_reducible refine ks [] (And.intro @zy_ @h1) ?_|refine kp (And.intro @zy_ @h1) ?_
 refine Ow.callX (Y:= []) (by simp) rfl rfl Tryz.call107 (fun w' hw' hX hn=>Qk_ x l w' (h2.oldN hw' trivial) hl) (fun v2 D2 hC2 hS2=> ?_)
 rw[List.append_nil]
 refine ko @zy_ ?_
 first|with_reducible refine ks [] @zy_ ?_|refine kp @zy_ ?_
 refine⟨_,(ke @zy_), ?_⟩
 exact⟨Ext.of_new (New.of_le fun c hc=>(hC2.new c hc).elim (fun h=>by cases h) fun h=>h.2),Gr.i hS2 fun p hp=>hp⟩
theorem Jo_ (bi:Nat) (s:List UInt8) (l:List RwL) (w:World) (h:IxIn w bi s l):Rets Tryz.prog 52 #[vp bi 0] w (fun v D=>v=vs s∧D= []):=by
 obtain⟨x,h1,h2⟩:=id h
 refine Rets.enterV Tryz.func52 rfl (rs:= [.tmp 2]) Tryz.results52 Tryz.ntmps52 ?_
 refine kf ?_
 first|with_reducible refine ks [] (And.intro @zy_ @h1) ?_|refine kp (And.intro @zy_ @h1) ?_
 refine⟨_,(ke @zy_),trivial, ?_⟩
 rfl
theorem aic_ (bi:Nat) (s:List UInt8) (l:List RwL) (d:Nat) (w:World) (h:IxIn w bi s l) (hd:d<16):
  Rets Tryz.prog 117 #[vp bi 0,vi d] w (fun v D=>v= .tuple #[vi (jk_ l d:Nat),vi (kA_ l d:Nat)]∧D= []):=by
 obtain⟨x,h1,h2⟩:=id h
 refine Rets.enterV Tryz.func117 rfl (rs:= [.tmp 4, .tmp 5]) Tryz.results117 Tryz.ntmps117 ?_
 refine kf ?_
 by_cases h0:d=0
 ·subst h0
  have lf:=ahP_ s x l
  have d1: (((0:Nat):Int)==0)=true:=rfl
  first|with_reducible refine ks [] (And.intro @zy_ @d1) ?_|refine kp (And.intro @zy_ @d1) ?_
  refine Cw.regionS [bi] [0,1,2,3,5,4,6] [] (by kernel_rfl) (by kernel_rfl) (by kernel_rfl) ?_
  simp only[zk_, ↓ze_, ↓zc_, ↓zt_, ↓zs_,zb_]
  refine kq (And.intro @zy_ (And.intro @h1 (@lf))) ?_
  try with_reducible refine Ow.nil ?_
  first|with_reducible refine ks [] @zy_ ?_|refine kp @zy_ ?_
  refine⟨_,(ke @zy_),trivial, ?_⟩
  rfl
 ·have d1: ((d:Int)==0)=false:=beq_eq_false_iff_ne.2 (by omega)
  have e1: (d:Int) - 1=((d - 1:Nat):Int):=by omega
  have lf:=fun n=>Qx_ s x (x9_ l) n d (by rw[kl_];omega)
  have lg:=fun n=>Qx_ s x (x9_ l) n (d - 1) (by rw[kl_];omega)
  rw[ahj_ l hd] at lf
  rw[ahj_ l (by omega)] at lg
  first|with_reducible refine ks [] (And.intro @zy_ @d1) ?_|refine kp (And.intro @zy_ @d1) ?_
  refine Cw.regionS [bi] [0,1,2,3,4,5,7,8,9,10,11,6,13,12,14] [] (by kernel_rfl) (by kernel_rfl) (by kernel_rfl) ?_
  simp only[zk_, ↓ze_, ↓zc_, ↓zt_, ↓zs_,zb_]
  refine kq (And.intro @zy_ (And.intro @h1 (And.intro @e1 (And.intro @lf (@lg))))) ?_
  try with_reducible refine Ow.nil ?_
  first|with_reducible refine ks [] @zy_ ?_|refine kp @zy_ ?_
  refine⟨_,(ke @zy_),trivial, ?_⟩
  unfold jk_;rw[if_neg h0];rfl
def askP (l:List RwL) (x:IdL) (from_:Nat) (k:Nat):Bool:=decide (0≤cmpI (l.getD (from_+k) rw0).id x)
theorem agH_ {w:World} {v:Value} {l:List RwL} {b off:Nat} {arr:Array Value} {E:TypeId} {fz:Nat×Nat} (h:RowS 34 rwC rw0 w v l b off arr E fz) {k:Nat} (hk:k<l.length):ks_ arr (off+k*34) (l.getD k rw0).id.l:=by
 intro j hj
 have hil:=(l.getD k rw0).id.h
 have hj2:j<34:=by rw[hil] at hj;omega
 rw[h.get k hk j hj2]
 generalize l.getD k rw0=r at*
 unfold rwC
 rw[List.getElem?_append_left (by simp only[List.length_map];exact hj),List.getElem?_map,List.getElem?_eq_getElem hj,List.getD_eq_getElem?_getD,List.getElem?_eq_getElem hj]
 rfl
theorem aiz_ (x:IdL):ks_ (a8 x.l) 0 x.l:=by
 intro j hj
 rw[Nat.zero_add]
 show(x.l.map v8).toArray[j]? =_
 rw[List.getElem?_toArray,List.getElem?_map,List.getElem?_eq_getElem hj,List.getD_eq_getElem?_getD,List.getElem?_eq_getElem hj]
 rfl
theorem aeD_ (bi:Nat) (s:List UInt8) (l:List RwL) (x:IdL) (from_ k bx bf bd:Nat) (w:World) (h:IxIn w bi s l) (hk:from_+k<l.length) (hx:w.heap[bx]? =some (.cells #[vp bi 0] 93 (0,0))) (hf:w.heap[bf]? =some (.cells #[vi from_] 3 (0,0))) (hd:w.heap[bd]? =some (.cells (a8 x.l) 37 (0,0))) (hl:l.length<1000000):
  Rets Tryz.prog 120 #[vi (k:Int),vp bx 0,vp bf 0,vp bd 0] w (fun v D=>v= .bool (askP l x from_ k)∧D= []):=by
 obtain⟨v1,h1,h2⟩:=id h
 obtain⟨rb,off,arr,E,fz,hr⟩:=h2.row
 have hb:=hr.has (by omega)
 have e1: (from_:Int)+ (k:Int)=((from_+k:Nat):Int):=by omega
 have ix:=hr.idx true (from_+k) hk
 have hby:=agH_ hr hk
 refine Rets.enterV Tryz.func120 rfl (rs:= [.tmp 5]) Tryz.results120 Tryz.ntmps120 ?_
 refine kf ?_
 first|with_reducible refine ks [] @zy_ ?_|refine kp @zy_ ?_
 refine Cw.regionS [bx,bf,bi] [5,10,0,1,2,3,4,6,7,8,9,11,12,13] [] (by kernel_rfl) (by kernel_rfl) (by kernel_rfl) ?_
 simp only[zk_, ↓ze_, ↓zc_, ↓zt_, ↓zs_,zb_]
 refine kq (And.intro @zy_ (And.intro @hx (And.intro @hf (And.intro @h1 (And.intro @e1 (@ix)))))) ?_
 refine Ow.soft rfl rfl rfl ?_
 refine Ow.callFV rfl Tryz.call121 (fun w' hw'=>ak2_ (x:=(l.getD (from_+k) rw0).id) (y:=x) (by rw[hw'.old rb (Array.getElem?_eq_some_iff.1 hb).1 (by simp[keys])];exact hb) hby (by rw[hw'.old bd (Array.getElem?_eq_some_iff.1 hd).1 (by simp[keys])];exact hd) (aiz_ x)) ?_
 with_reducible refine Ow.nil ?_
 refine⟨by intro b hb;simp only[List.mem_cons,List.not_mem_nil,or_false] at hb;(try subst hb);rfl, ?_⟩
 refine kq @zy_ ?_
 try with_reducible refine Ow.nil ?_
 first|with_reducible refine ks [] @zy_ ?_|refine kp @zy_ ?_
 refine⟨_,(ke @zy_),trivial, ?_⟩
 rfl
theorem aoL_ {n:Nat} {E:za_} {o:Obj} {Q:Nat→Prop} (h:E= []∨ ∃b,E= [(b,o)]∧n≤b∧Q b):New n E:=by
 rcases h with rfl| ⟨b,rfl,h,-⟩
 ·trivial
 ·exact⟨h,trivial⟩
theorem ZQ_ (bi:Nat) (s:List UInt8) (l:List RwL) (x:IdL) (w:World) (h:IxIn w bi s l) (hok:wQ_ l l.length=true) (hl:l.length<1000000):
  Rets Tryz.prog 56 #[vp bi 0, .agg (a8 x.l)] w (fun v D=>v= .tuple #[.agg (rwC (JR_ l x).1).toArray, .bool (JR_ l x).2]∧D= []):=by
 obtain⟨v1,h1,h2⟩:=id h
 obtain⟨rb,off,arr,E,fz,hr⟩:=h2.row
 have hbil:=(Array.getElem?_eq_some_iff.1 h1).1
 have hd16:=acR_ x
 have hfl:=alr_ (l:=l) (zV_ x)
 have hfn:=ag8_ l (zV_ x)
 have hbs:=QP_ (askP l x (jk_ l (zV_ x))) _ 0 (kA_ l (zV_ x) - jk_ l (zV_ x)) (Nat.le_refl _) (Nat.zero_le _)
 generalize hat:Wm_ (askP l x (jk_ l (zV_ x))) 0 (kA_ l (zV_ x) - jk_ l (zV_ x))=at_ at hbs
 have hfa:=amo_ hok x (at_:=jk_ l (zV_ x)+at_) (by omega) (by omega) (by
  rcases hbs.2.2.1 with e|e
  ·left;omega
  ·by_cases h0:at_=0
   ·left;omega
   ·right
    unfold askP at e
    rw[show jk_ l (zV_ x)+at_ - 1=jk_ l (zV_ x)+ (at_ - 1) by omega]
    rw[decide_eq_false_iff_not] at e
    exact cmpI_lt.1 (Int.not_le.1 e)) (by
  rcases hbs.2.2.2 with e|e
  ·left;omega
  ·right
   unfold askP at e
   rw[decide_eq_true_eq] at e
   exact cmpI_ge.1 e)
 rw[hfa]
 refine Rets.enterV Tryz.func56 rfl (rs:= [.cell 4 104, .tmp 5]) Tryz.results56 Tryz.ntmps56 ?_
 refine kf ?_
 first|with_reducible refine ks [] @zy_ ?_|refine kp @zy_ ?_
 refine Ow.box rfl rfl fun b2 hb2 hw2=> ?_
 simp only[qy_,qr_,qs_,zd_,List.nil_append,List.cons_append]
 refine Ow.go rfl ?_
 simp(disch:=(first|assumption|omega| (simp only[jW_,jX_,UInt64.reduceToNat];try omega))) only[↓Sx.S0,Sx.S1,Tryz.fx,zy_,Nat.reduceAdd,Nat.reducePow,Int.reducePow,Nat.reduceBEq, ↓reduceIte,UInt8.reduceToNat,UInt16.reduceToNat,UInt32.reduceToNat,UInt64.reduceToNat,Int.reduceToNat]
 refine Ow.box rfl rfl fun b3 hb3 hw3=> ?_
 simp only[qy_,qr_,qs_,zd_,List.nil_append,List.cons_append]
 refine Ow.go rfl ?_
 simp(disch:=(first|assumption|omega| (simp only[jW_,jX_,UInt64.reduceToNat];try omega))) only[↓Sx.S0,Sx.S1,Tryz.fx,zy_,Nat.reduceAdd,Nat.reducePow,Int.reducePow,Nat.reduceBEq, ↓reduceIte,UInt8.reduceToNat,UInt16.reduceToNat,UInt32.reduceToNat,UInt64.reduceToNat,Int.reduceToNat]
 refine Ow.alloc rfl rfl Vq_ fun b4 hb4 hw4=> ?_
 simp only[zd_,List.nil_append,List.cons_append]
 obtain⟨h23,-⟩:=hb3
 obtain⟨h24,h34,-⟩:=hb4
 refine Ow.permL (M:= [(b4, .cells (rwC rw0).toArray 104 (0,0)),(b2, .cells #[vp bi 0] 93 (0,0)),(b3, .cells (a8 x.l) 37 (0,0))]) (by classical exact List.perm_iff_count.2 fun a=>by simp only[List.count_append,List.count_cons,List.count_nil]<;>omega) ?_
 refine ko @zy_ ?_
 have hN4:New w.heap.size [(b4,Obj.cells (rwC rw0).toArray 104 (0,0)),(b2, .cells #[vp bi 0] 93 (0,0)),(b3, .cells (a8 x.l) 37 (0,0))]:=⟨hw4,hw2,hw3,trivial⟩
 first|with_reducible refine ks [] @zy_ ?_|refine kp @zy_ ?_
 refine Cw.regionD [b2,b3] [8] 7 6 3 9 _ rfl (by kernel_rfl) (by kernel_rfl) rfl (by kernel_rfl) (id (by kernel_rfl):zK_ Tryz.prog 3=some (vi 0)) (fun hD=> ?_)
 simp only[List.replicate_succ,List.replicate_zero]
 refine OwD.run [0,1] [true,true,false,false,false,false,false,false,false,false] 7 rfl hD (by kernel_rfl) fun k hk=> ?_
 simp only[zk_, ↓ze_, ↓zc_, ↓zt_, ↓zs_,zb_]
 simp(disch:=(first|assumption|omega| (simp only[jW_,jX_,UInt64.reduceToNat];try omega))) only[↓Sx.S0,Sx.S1,Tryz.fx,zy_,Nat.reduceAdd,Nat.reducePow,Int.reducePow,Nat.reduceBEq, ↓reduceIte,UInt8.reduceToNat,UInt16.reduceToNat,UInt32.reduceToNat,UInt64.reduceToNat,Int.reduceToNat,Md.next_sofnil,Md.next_sofnil]
 (with_reducible refine hk _ _ _ ?_);clear hk k
 refine OwD.soft 2 _ hD rfl (by kernel_rfl) (fun E hE=> ?_)
 refine Ow.callFV rfl Tryz.call118 (fun w' hw'=>Jm_ x w') ?_
 with_reducible refine Ow.nil ?_
 refine⟨_,List.Perm.refl _,fun _ _=>rfl, ?_⟩
 simp only[List.set_cons_zero,List.set_cons_succ,zL_,qx_,qB_]
 refine OwD.soft 3 _ hD rfl (by kernel_rfl) (fun E2 hE2=> ?_)
 have hN2:=hN4.app (aoL_ hE2)
 refine Ow.callFV rfl Tryz.call117 (fun w' hw'=>aic_ bi s l (zV_ x) w' (h.old hw' hN2) hd16) ?_
 with_reducible refine Ow.nil ?_
 refine⟨_,List.Perm.refl _,fun _ _=>rfl, ?_⟩
 simp only[List.set_cons_zero,List.set_cons_succ,zL_,qx_,qB_]
 refine OwD.run [4,5,6] [true,true,true,true,true,true,true,false,false,false] 2 rfl hD (by kernel_rfl) fun k hk=> ?_
 simp only[zk_, ↓ze_, ↓zc_, ↓zt_, ↓zs_,zb_]
 simp(disch:=(first|assumption|omega| (simp only[jW_,jX_,UInt64.reduceToNat];try omega))) only[↓Sx.S0,Sx.S1,Tryz.fx,zy_,Nat.reduceAdd,Nat.reducePow,Int.reducePow,Nat.reduceBEq, ↓reduceIte,UInt8.reduceToNat,UInt16.reduceToNat,UInt32.reduceToNat,UInt64.reduceToNat,Int.reduceToNat,Md.next_sofnil,Sx.tup2_0,Sx.tup2_1]
 (with_reducible refine hk _ _ _ ?_);clear hk k
 refine OwD.real [8,9] rfl hD (by kernel_rfl) (by kernel_rfl) (by kernel_rfl) (by kernel_rfl) (fun r hr=>by simp only[List.mem_cons,List.not_mem_nil,or_false] at hr;rcases hr with rfl|rfl<;>exact .inl (by simp[keys])) ?_
 simp only[zk_, ↓ze_, ↓zc_, ↓zt_, ↓zs_,zb_]
 intro b6 hw6 hbL
 simp only[qx_,qB_]
 refine Ow.store rfl rfl rfl (L':= [(b4, .cells (rwC rw0).toArray 104 (0,0)),(b2, .cells #[vp bi 0] 93 (0,0)),(b3, .cells (a8 x.l) 37 (0,0))]++ [(b6, .cells #[vi (jk_ l (zV_ x):Nat)] 3 (0,0))]) ?_ ?_
 ·simp only[qy_,qr_,qs_]
  have hst: ∀ (a:Bool) (n:Int),zl_ (some (a,1)) (some (Obj.cells (Value.cells (vi 0)) 3 (0,0))) 0 (vi n)=some (.cells #[vi n] 3 (0,0)):=fun _ _=>rfl
  rw[Tryz.ag3,vF_,Ju_ hbL,hst,w6_,ZH_ hbL]
  exact []
 refine ko @zy_ ?_
 refine Cw.permL (M:= [(b6, .cells #[vi (jk_ l (zV_ x):Nat)] 3 (0,0)),(b4, .cells (rwC rw0).toArray 104 (0,0)),(b2, .cells #[vp bi 0] 93 (0,0)),(b3, .cells (a8 x.l) 37 (0,0))]) (by classical exact List.perm_iff_count.2 fun a=>by simp only[List.count_append,List.count_cons,List.count_nil]<;>omega) ?_
 have h62:b2≠b6:=by simp[keys] at hbL;omega
 have h63:b3≠b6:=by simp[keys] at hbL;omega
 have h64:b4≠b6:=by simp[keys] at hbL;omega
 have hN6:New w.heap.size [(b6,Obj.cells #[vi (jk_ l (zV_ x):Nat)] 3 (0,0)),(b4,Obj.cells (rwC rw0).toArray 104 (0,0)),(b2,Obj.cells #[vp bi 0] 93 (0,0)),(b3,Obj.cells (a8 x.l) 37 (0,0))]:=⟨hw6,hN4⟩
 have ef: ((kA_ l (zV_ x):Nat):Int) - ((jk_ l (zV_ x):Nat):Int)=((kA_ l (zV_ x) - jk_ l (zV_ x):Nat):Int):=by omega
 have hcb: ∀w',Hp w [(b6,Obj.cells #[vi (jk_ l (zV_ x):Nat)] 3 (0,0)),(b4,Obj.cells (rwC rw0).toArray 104 (0,0)),(b2,Obj.cells #[vp bi 0] 93 (0,0)),(b3,Obj.cells (a8 x.l) 37 (0,0))] w'→Rets Tryz.prog 119 #[vi ((kA_ l (zV_ x) - jk_ l (zV_ x):Nat):Int), .func (.func 120) #[] #[vp b2 0,vp b6 0,vp b3 0]] w' (fun v D=>v=vi (Wm_ (askP l x (jk_ l (zV_ x))) 0 (kA_ l (zV_ x) - jk_ l (zV_ x)):Nat)∧D= []):=fun w' hw'=>
  acf_ (askP l x (jk_ l (zV_ x))) (kA_ l (zV_ x) - jk_ l (zV_ x)) 120 #[vp b2 0,vp b6 0,vp b3 0] w' (by omega) Tryz.call120 fun i hi w2 hw2=>by
   have hh: ∀b o,(b,o)∈ [(b6,Obj.cells #[vi (jk_ l (zV_ x):Nat)] 3 (0,0)),(b4,Obj.cells (rwC rw0).toArray 104 (0,0)),(b2,Obj.cells #[vp bi 0] 93 (0,0)),(b3,Obj.cells (a8 x.l) 37 (0,0))]→w2.heap[b]? =some o:=fun b o hm=>(hw'.trans_nil hw2).has b o hm
   exact aeD_ bi s l x (jk_ l (zV_ x)) i b2 b6 b3 w2 (h.old (hw'.trans_nil hw2) hN6) (by omega) (hh b2 _ (by simp)) (hh b6 _ (by simp)) (hh b3 _ (by simp)) hl
 first|with_reducible refine ks [] @zy_ ?_|refine kp @zy_ ?_
 refine Cw.regionS [b6] [1,4,0,2,3,5,6,7] [] (by kernel_rfl) (by kernel_rfl) (by kernel_rfl) ?_
 simp only[zk_, ↓ze_, ↓zc_, ↓zt_, ↓zs_,zb_]
 refine kq (And.intro @zy_ @ef) ?_
 refine Ow.soft rfl rfl rfl ?_
 simp only[List.map_toArray,List.map_cons,List.map_nil,qy_,qr_,qs_]
 refine Ow.callFV rfl Tryz.call119 (fun w' hw'=>hcb w' hw') ?_
 rw[hat]
 with_reducible refine Ow.nil ?_
 refine⟨by intro b hb;simp only[List.mem_cons,List.not_mem_nil,or_false] at hb;(try subst hb);rfl, ?_⟩
 have ea: ((jk_ l (zV_ x):Nat):Int)+ (at_:Int)=((jk_ l (zV_ x)+at_:Nat):Int):=by omega
 refine kq (And.intro @zy_ @ea) ?_
 try with_reducible refine Ow.nil ?_
 have hatn:jk_ l (zV_ x)+at_≤kA_ l (zV_ x):=by omega
 generalize jk_ l (zV_ x)+at_=ap at*
 generalize kA_ l (zV_ x)=tp at*
 by_cases hap:ap=tp
 ·subst hap
  rw[if_neg (fun h=>h.1 rfl)]
  have d1: ((ap:Int)==(ap:Int))=true:=beq_self_eq_true _
  first|with_reducible refine ks [] @zy_ ?_|refine kp @zy_ ?_
  refine Cw.regionS [b2,b3,bi,rb] [0,1,2,3,8,4,5,6,7,9,10,11,12,13,14] [] (by kernel_rfl) (by kernel_rfl) (by kernel_rfl) ?_
  simp only[zk_, ↓ze_, ↓zc_, ↓zt_, ↓zs_,zb_]
  refine kq (And.intro @zy_ @d1) ?_
  try with_reducible refine Ow.nil ?_
  first|with_reducible refine ks [] @zy_ ?_|refine kp @zy_ ?_
  refine Ow.build (.agg (rwC rw0).toArray) rfl (by rw[show vo_ Tryz.prog 104=some [(0,32),(32,1),(33,1)] from id (by kernel_rfl),Vq_];simp[qV_,Sx.fillV]) ?_
  refine Ow.permL (M:= [(b4, .cells (rwC rw0).toArray 104 (0,0)),(b6, .cells #[vi (jk_ l (zV_ x):Nat)] 3 (0,0)),(b2, .cells #[vp bi 0] 93 (0,0)),(b3, .cells (a8 x.l) 37 (0,0))]) (by classical exact List.perm_iff_count.2 fun a=>by simp only[List.count_append,List.count_cons,List.count_nil]<;>omega) ?_
  refine ko @zy_ ?_
  first|with_reducible refine ks [] @zy_ ?_|refine kp @zy_ ?_
  refine⟨_,(ke @zy_),⟨hw4,hw6,hw2,hw3,trivial⟩, ?_⟩
  rfl
 ·have hapl:ap<l.length:=by omega
  have hb:=hr.has (by omega)
  have hrl:=hr.lt (by omega)
  have d1: ((ap:Int)==(tp:Int))=false:=beq_eq_false_iff_ne.2 (by omega)
  have ix:=hr.idx true ap hapl
  have ld:=hr.load zG_ (by omega) hapl
  have ldi:=ah2_ hr hapl
  rw[Nat.add_zero] at ldi
  generalize l.getD ap rw0=r at*
  have hn2:b2≠rb:=by omega
  have hn3:b3≠rb:=by omega
  have hn4:b4≠rb:=by omega
  have hn6:b6≠rb:=by omega
  have hn2':b2≠bi:=by omega
  have hn3':b3≠bi:=by omega
  have hn4':b4≠bi:=by omega
  have hn6':b6≠bi:=by omega
  first|with_reducible refine ks [] @zy_ ?_|refine kp @zy_ ?_
  refine Cw.regionS [b2,b3,bi,rb] [0,1,2,3,8,4,5,6,7,9,10,11,12,13,14] [] (by kernel_rfl) (by kernel_rfl) (by kernel_rfl) ?_
  simp only[zk_, ↓ze_, ↓zc_, ↓zt_, ↓zs_,zb_]
  refine kq (And.intro @zy_ (And.intro @d1 (And.intro @h1 (And.intro @hb (And.intro @ix (And.intro @ldi (@aaV_))))))) ?_
  try with_reducible refine Ow.nil ?_
  by_cases he:r.id.l=x.l
  ·have d2: (r.id.l==x.l)=true:=beq_iff_eq.2 he
   rw[if_pos ⟨hap,he⟩]
   first|with_reducible refine ks [] (And.intro @zy_ (And.intro @d2 (And.intro @h1 (And.intro @hb (And.intro @ix (@ld)))))) ?_|refine kp (And.intro @zy_ (And.intro @d2 (And.intro @h1 (And.intro @hb (And.intro @ix (@ld)))))) ?_
   refine⟨_,(ke @zy_),⟨hw6,hw4,hw2,hw3,trivial⟩, ?_⟩
   rfl
  ·have d2: (r.id.l==x.l)=false:=beq_eq_false_iff_ne.2 he
   rw[if_neg (fun h=>he h.2)]
   first|with_reducible refine ks [] (And.intro @zy_ @d2) ?_|refine kp (And.intro @zy_ @d2) ?_
   refine Ow.build (.agg (rwC rw0).toArray) rfl (by rw[show vo_ Tryz.prog 104=some [(0,32),(32,1),(33,1)] from id (by kernel_rfl),Vq_];simp[qV_,Sx.fillV]) ?_
   refine Ow.permL (M:= [(b4, .cells (rwC rw0).toArray 104 (0,0)),(b6, .cells #[vi (jk_ l (zV_ x):Nat)] 3 (0,0)),(b2, .cells #[vp bi 0] 93 (0,0)),(b3, .cells (a8 x.l) 37 (0,0))]) (by classical exact List.perm_iff_count.2 fun a=>by simp only[List.count_append,List.count_cons,List.count_nil]<;>omega) ?_
   refine ko @zy_ ?_
   first|with_reducible refine ks [] @zy_ ?_|refine kp @zy_ ?_
   refine⟨_,(ke @zy_),⟨hw4,hw6,hw2,hw3,trivial⟩, ?_⟩
   rfl
def Wz_ (pre:List UInt8) (r:RwL):Bool:=decide (pre.length≤ (hexV r.id.l).length)&& ((hexV r.id.l).take pre.length==pre)
def km_ (l:List RwL) (pre:List UInt8):List RwL:=l.filter (Wz_ pre)
structure UnG where
 k:Nat
 v:Value
 D1:za_
 DG:za_
theorem abI_ (bi:Nat) (s:List UInt8) (l:List RwL) (pre:List UInt8) (w:World) (h:IxIn w bi s l) (hl:l.length<1000000):
  Rets Tryz.prog 53 #[vp bi 0,vs pre] w (XS w [] (fun v D=>GrI D 104 34 v (km_ l pre).length ((km_ l pre).map rwC).flatten)):=by
 refine Rets.enterX Tryz.func53 rfl (rs:= [.tmp 4]) Tryz.results53 Tryz.ntmps53 (fun p hp=>by cases hp) (by simp[keys]) ?_
 refine kf ?_
 first|with_reducible refine ks [] @zy_ ?_|refine kp @zy_ ?_
 refine Ow.callC rfl rfl Tryz.call51 (fun w' hw'=>kQ_ bi s l w' (h.old hw' trivial) hl) (fun B1 v9 D9 hA9 hB9 hN9 hS9=> ?_)
 have hN:New w.heap.size D9:=hN9.mono hB9
 have ln:=ZW_ hS9
 rw[List.nil_append]
 refine ko (And.intro @zy_ @ln) ?_
 refine Cw.world fun w1 hw1=> ?_
 obtain⟨rb,off,arr,E,fz,hr,hlk⟩:=hS9.rowL (z:=rw0) rfl hw1 zG_
 clear hw1 hS9 hN9 hA9 h hB9
 refine Cw.permL (M:=D9++ ([]++ [])) (by simp) ?_
 refine Cw.loopG (G:=UnG) [12,13,14,7,15,16,17,18,19,20,21,22,23,5,24,11] (fun g=> [(5,g.v),(11,vi g.k)]) (fun g=>D9++ (g.D1++g.DG)) (fun g=>g.k≤l.length∧New w.heap.size g.D1∧New w.heap.size g.DG∧Gr g.D1 104 34 g.v (km_ (l.take g.k) pre).length ((km_ (l.take g.k) pre).map rwC).flatten) (fun g=>l.length - g.k) ⟨0, .slice none 0 0,[],[]⟩ rfl rfl ?_ ?_
 ·exact⟨Nat.zero_le _,trivial,trivial,Gr.nl⟩
 intro g j hg
 refine kv ?_
 obtain⟨k,v,D1,DG⟩:=g
 simp only at hg ⊢
 obtain⟨hk,hN1,hNG,hG1⟩:=hg
 by_cases hlt:k<l.length
 ·have d1:decide ((k:Int)< (l.length:Int))=true:=decide_eq_true (by omega)
  have ix:=hr.idx true k hlt
  have ld:=hr.load zG_ (by omega) hlt
  have rd:zB_ w (D9++ (D1++DG)) rb=some (.cells arr E fz):=z6_ (q2_ (hlk (by omega)))
  have hus:km_ (l.take (k+1)) pre=km_ (l.take k) pre++ (if Wz_ pre (l.getD k rw0)=true then [l.getD k rw0] else []):=by
   unfold km_
   rw[StP.take_snoc (z:=rw0) hlt,List.filter_append,List.filter_cons,List.filter_nil]
  have hml: (km_ (l.take k) pre).length≤k:=Nat.le_trans (List.length_filter_le _ _) (by rw[List.length_take];omega)
  generalize l.getD k rw0=r at*
  first|with_reducible refine ks [7] (And.intro @zy_ (And.intro @d1 (And.intro @ix (And.intro @rd (@ld))))) ?_|refine kp (And.intro @zy_ (And.intro @d1 (And.intro @ix (And.intro @rd (@ld))))) ?_
  refine Ow.alloc rfl rfl Vq_ fun b7 hb7 hw7=> ?_
  simp only[zd_,List.nil_append,List.cons_append]
  refine Ow.permL (M:=(b7, .cells (rwC rw0).toArray 104 (0,0)):: (D9++ (D1++DG))) (by classical exact List.perm_iff_count.2 fun a=>by simp only[List.count_append,List.count_cons,List.count_nil]<;>omega) ?_
  refine ko @zy_ ?_
  first|with_reducible refine ks [] @zy_ ?_|refine kp @zy_ ?_
  refine Ow.callFV rfl Tryz.call114 (fun w' hw'=>ajz_ r.id.l r.id.h w') ?_
  refine ko @zy_ ?_
  refine Ow.callFV rfl Tryz.call113 (fun w' hw'=>V4_ (hexV r.id.l) pre w' (by rw[wC_,r.id.h];omega)) ?_
  have hub: (decide (pre.length≤ (hexV r.id.l).length)&& ((hexV r.id.l).take pre.length==pre))=Wz_ pre r:=rfl
  rw[hub]
  cases hc:Wz_ pre r with
  |true=>
   rw[hc,if_pos rfl] at hus
   refine ko @zy_ ?_
   first|with_reducible refine ks [] @zy_ ?_|refine kp @zy_ ?_
   refine Ow.buildSlice (e:=104) (rwC r).toArray rfl rfl (qA_ Tryz.underlying81 adV_ Vq_ (by decide) (zG_ _)) fun ba hba hwa=> ?_
   refine ko @zy_ ?_
   refine Ow.permL (M:=D1++ ((b7, .cells (rwC r).toArray 104 (0,0)):: (DG++ ((ba, .cells (rwC r).toArray 104 (0,0))::D9)))) (by classical exact List.perm_iff_count.2 fun a=>by simp only[List.count_append,List.count_cons,List.count_nil]<;>omega) ?_
   refine Ow.appendXG (e:=104) (k:=1) (new:=rwC r) (X:=D1) v rfl rfl rfl rfl Tryz.underlying81 adV_ (by kernel_rfl) Vq_ (by rw[qR_,List.size_toArray,zG_]) Tryz.underlying81 (by intro k h;cases h) hG1 (fun w' hw'=>AppX.one1 (hw'.has ba (.cells (rwC r).toArray 104 (0,0)) (by simp)) (zG_ _) (ZX_ _)) (by omega) (fun B4 v4 D4 hA4 hB4 hG4 hk41 hk42 hlk4=> ?_)
   have hN4:New w.heap.size D4:=New.of_le fun q hq=>by
    rcases hk42 q hq with h|h
    ·exact hN1.le q h
    ·omega
   refine ko @zy_ ?_
   refine Cw.permL (M:=D9++ (D4++ ((b7, .cells (rwC r).toArray 104 (0,0)):: (DG++ [(ba, .cells (rwC r).toArray 104 (0,0))])))) (by classical exact List.perm_iff_count.2 fun a=>by simp only[List.count_append,List.count_cons,List.count_nil]<;>omega) ?_
   first|with_reducible refine ks [] @zy_ ?_|refine kp @zy_ ?_
   refine Again.mk ⟨k+1,v4,D4,(b7, .cells (rwC r).toArray 104 (0,0)):: (DG++ [(ba, .cells (rwC r).toArray 104 (0,0))])⟩ (by show l.length - (k+1)<l.length - k;omega) ⟨hlt,hN4,⟨hw7,hNG.app ⟨hwa,trivial⟩⟩, ?_⟩ rfl rfl
   show Gr D4 104 34 v4 (km_ (l.take (k+1)) pre).length ((km_ (l.take (k+1)) pre).map rwC).flatten
   rw[hus,List.length_append,show [r].length=1 from rfl]
   simpa only[List.map_append,List.map_cons,List.map_nil,List.flatten_append,List.flatten_cons,List.flatten_nil,List.append_nil] using hG4
  |false=>
   rw[hc,if_neg (by simp),List.append_nil] at hus
   refine ko @zy_ ?_
   refine Cw.permL (M:=D9++ (D1++ ((b7, .cells (rwC r).toArray 104 (0,0))::DG))) (by classical exact List.perm_iff_count.2 fun a=>by simp only[List.count_append,List.count_cons,List.count_nil]<;>omega) ?_
   first|with_reducible refine ks [] @zy_ ?_|refine kp @zy_ ?_
   refine Again.mk ⟨k+1,v,D1,(b7, .cells (rwC r).toArray 104 (0,0))::DG⟩ (by show l.length - (k+1)<l.length - k;omega) ⟨hlt,hN1,⟨hw7,hNG⟩, ?_⟩ rfl rfl
   show Gr D1 104 34 v (km_ (l.take (k+1)) pre).length ((km_ (l.take (k+1)) pre).map rwC).flatten
   rw[hus];exact hG1
 ·obtain rfl:k=l.length:=by omega
  have d1:decide ((l.length:Int)< (l.length:Int))=false:=decide_eq_false (by omega)
  rw[List.take_length] at hG1
  first|with_reducible refine ks [] (And.intro @zy_ @d1) ?_|refine kp (And.intro @zy_ @d1) ?_
  refine⟨_,(ke @zy_), ?_⟩
  exact⟨Ext.of_new (hN.app (hN1.app hNG)),Gr.i hG1 fun p hp=>by simp[hp]⟩
end Go.Proofs
end
section
open Go Go.Proofs Go.Sx Go.StP Go.Flo
namespace Go.Proofs
set_option maxRecDepth 10000
set_option maxHeartbeats 400000
set_option linter.unusedSimpArgs false
structure SvG where
 k:Nat
 out:List ObL
 v6:Value
 D6:za_
 DG:za_
set_option linter.defProp false
def aqF_:=And.intro (And.intro (And.intro (@zg_) (@zf_)) (And.intro (@KH_) (And.intro (@K5_) (@KT_)))) (And.intro (And.intro (@Sx.tup2_0) (And.intro (@Sx.tup2_1) (@qQ_))) (And.intro (@qh_) (And.intro (@qf_) (@qn_))))
end Go.Proofs
end
section
open Go Go.Proofs Go.Sx Go.StP Go.Flo
namespace Go.Proofs
set_option maxRecDepth 10000
set_option maxHeartbeats 400000
set_option linter.unusedSimpArgs false
def anx_:Nat→List PartL→Nat→Nat
 |_,[],_=>0
 |i,p::r,j=>if(kE_ i p).length≤j then anx_ (i+1) r (j - (kE_ i p).length)+1 else 0
def endG (a i:Nat) (l:List PartL) (k:Nat):Nat:=a+ (qT_ i (l.take (k+1))).length
theorem WY_: ∀ (ts:List (List UInt8)) (ids:List IdL) (os:List ObL) (q:List IdL×List ObL),qG_ ts ids os=some q→q=(ids++ts.map jY_,os++ts.map zD_)∧ ∀k,k<ts.length→frOk (ts.getD k [])=true∧ ∀y,y∈ids++ (ts.take k).map jY_→(jY_ (ts.getD k [])).l≠y.l
 | [],ids,os,q,h=>by cases h;exact⟨by simp,fun k hk=>absurd hk (Nat.not_lt_zero _)⟩
 |s::r,ids,os,q,h=>by
  rw[qG_] at h
  split at h
  ·rename_i hc
   obtain⟨h1,h2⟩:=WY_ r _ _ q h
   refine⟨by rw[h1];simp, ?_⟩
   intro k hk
   cases k with
   |zero=>
    refine⟨hc.1,fun y hy=> ?_⟩
    simp only[List.take_zero,List.map_nil,List.append_nil] at hy
    have:=(List.any_eq_false.1 hc.2) y hy
    simpa using this
   |succ k=>
    have:=h2 k (by simpa using hk)
    refine⟨this.1,fun y hy=>this.2 y ?_⟩
    simpa using hy
  ·cases h
theorem ae7_ {l:List PartL} {q:List IdL×List ObL} (h:fillV l=some q):q.2.length=l.length∧q.1.length=l.length∧ ∀k,k≤l.length→Jn_ l k=q.2.take k:=by
 unfold fillV at h
 cases ha:ZJ_ l with
 |error e=>rw[ha] at h;cases h
 |ok ts=>
  rw[ha] at h
  change qG_ ts [] []=some q at h
  obtain⟨h1,h2⟩:=WY_ _ _ _ _ h
  simp only[List.nil_append] at h1 h2
  subst h1
  unfold ZJ_ at ha
  split at ha
  ·cases ha
  ·have hlen:=vu_ _ _ ha
   refine⟨by simp[hlen],by simp[hlen], ?_⟩
   intro k
   induction k with
   |zero=>intro _;rfl
   |succ k ih=>
    intro hk
    have hp:=vg_ _ _ ha k (by omega)
    obtain⟨hf,hn⟩:=h2 k (by omega)
    unfold Jn_
    rw[hp]
    simp only
    rw[ih (by omega)]
    have hno:zD_ (ts.getD k [])∉ (ts.map zD_).take k:=by
     intro hm
     rw[←List.map_take] at hm
     obtain⟨s,hs,he⟩:=List.mem_map.1 hm
     refine hn (jY_ s) (List.mem_map.2 ⟨s,hs,rfl⟩) ?_
     unfold jY_
     rw[he]
    rw[if_pos ⟨hf,hno⟩]
    have hk':k< (ts.map zD_).length:=by rw[List.length_map];omega
    rw[take_snoc (z:=ob0) hk']
    congr 2
    rw[List.getD_eq_getElem?_getD,List.getD_eq_getElem?_getD,List.getElem?_map,List.getElem?_eq_getElem (by omega)]
    rfl
end Go.Proofs
end
section
open Go Go.Proofs Go.Sx Go.StP Go.Flo
namespace Go.Proofs
set_option maxRecDepth 10000
set_option maxHeartbeats 400000
set_option linter.unusedSimpArgs false
def sumX (l:List PartL):Nat:=(l.map fun p=>p.x.length).sum
theorem VJ_ {l:List PartL} {k:Nat} (h:k<l.length):sumX (l.take (k+1))=sumX (l.take k)+ (l.getD k z1_).x.length:=by
 unfold sumX
 rw[take_snoc (z:=z1_) h,List.map_append,List.sum_append];simp
def sumW (l:List PartL):Nat→Int
 |0=>0
 |k+1=>IntKind.i64.wrap (sumW l k+ (l.getD k z1_).x.length)
def WI_ (l:List PartL):Bool:=decide (210<l.length) || (List.range l.length).any fun k=>decide (30000<sumW l (k+1))
theorem afH_ {l:List PartL} (hx:SmallP l): ∀k,k≤l.length→k≤210→sumW l k=(sumX (l.take k):Nat)∧sumX (l.take k)≤k*17000000
 |0,_,_=>by simp[sumW,sumX]
 |k+1,hk,h2=>by
  obtain⟨h1,h3⟩:=afH_ hx k (by omega) (by omega)
  have h4:=hx k hk
  rw[VJ_ hk]
  unfold sumW
  rw[h1,q1_ _ ⟨by omega,by omega⟩]
  omega
theorem ahG_: ∀ (l:List PartL) (k:Nat),sumX (l.take k)≤sumX l
 | [],k=>by simp[sumX]
 |p::r,0=>by simp[sumX]
 |p::r,k+1=>by
  have:=ahG_ r k
  unfold sumX at this ⊢
  simp only[List.take_succ_cons,List.map_cons,List.sum_cons]
  omega
theorem agc_ {l:List PartL} (h:WI_ l=false):l.length≤210∧(SmallP l→sumX l≤30000∧ ∀p,p∈l→p.x.length≤65536):=by
 unfold WI_ at h
 simp only[Bool.or_eq_false_iff,decide_eq_false_iff_not,List.any_eq_false,List.mem_range,decide_eq_true_eq] at h
 refine⟨by omega,fun hs=> ?_⟩
 have hx:sumX l≤30000:=by
  by_cases h0:l.length=0
  ·rw[List.eq_nil_of_length_eq_zero h0];simp[sumX]
  ·have h1:=h.2 (l.length - 1) (by omega)
   rw[show l.length - 1+1=l.length by omega] at h1
   obtain⟨h2,-⟩:=afH_ hs l.length (Nat.le_refl _) (by omega)
   rw[List.take_length] at h2
   omega
 refine⟨hx,fun p hp=> ?_⟩
 obtain⟨g,hg,rfl⟩:=k8_ (z:=z1_) hp
 have h1:=VJ_ hg
 have h2:=ahG_ l (g+1)
 omega
theorem aiI_ (a b:Int):zj_ .add (vi a) (vi b)=some (vi (IntKind.i64.wrap (a+b))):=rfl
set_option linter.defProp false
def wy_:=And.intro (And.intro (@zg_) (And.intro (@zf_) (@jd_))) (And.intro (And.intro (@jg_) (@jh_)) (And.intro (@wh_) (@amy_)))
theorem X3_ (v0:Value) (l:List PartL) (w:World) (hv:kO_ w v0 l) (_hb:BndL l):Rets Tryz.prog 13 #[v0] w (fun v D=>v= .bool (WI_ l)∧D= []):=by
 obtain⟨b,off,arr,E,fz,hr⟩:=hv.row
 have ln:=hv.len
 refine Rets.enterV Tryz.func13 rfl (rs:= [.tmp 2]) Tryz.results13 Tryz.ntmps13 ?_
 refine kf ?_
 unfold WI_
 by_cases h1:210<l.length
 ·have d1:decide ((210:Int)< (l.length:Int))=true:=decide_eq_true (by omega)
  rw[decide_eq_true h1,Bool.true_or]
  first|with_reducible refine ks [] (And.intro @wy_ (And.intro @ln (@d1))) ?_|refine kp (And.intro @wy_ (And.intro @ln (@d1))) ?_
  refine⟨_,(ke @wy_),trivial, ?_⟩
  rfl
 ·have d1:decide ((210:Int)< (l.length:Int))=false:=decide_eq_false (by omega)
  rw[decide_eq_false h1,Bool.false_or]
  first|with_reducible refine ks [] (And.intro @wy_ (And.intro @ln (@d1))) ?_|refine kp (And.intro @wy_ (And.intro @ln (@d1))) ?_
  refine Cw.loopG (G:=Nat) [8,9,10,11,14,15,16,17,18,19,20,21,3,22,23,2,12,13,4] (fun g=> [(3,vi (sumW l g)),(4,vi g)]) (fun g=> []) (fun g=>g≤l.length∧ ∀k,k<g→ ¬30000<sumW l (k+1)) (fun g=>l.length - g) 0 rfl rfl ?_ ?_
  ·exact⟨Nat.zero_le _,fun k hk=>absurd hk (Nat.not_lt_zero _)⟩
  intro k jk hk
  refine kv ?_
  obtain⟨hk,hs⟩:=hk
  by_cases hlt:k<l.length
  ·have d2:decide ((k:Int)< (l.length:Int))=true:=decide_eq_true (by omega)
   have hx:=hr.has (by omega)
   have ix:=hr.idx true k hlt
   have ld:zo_ (some (false,1)) (some (.cells arr E fz)) (off+k*3+2)=some (vs (l.getD k z1_).x):=hr.cell (j:=2) (n:=1) hlt (by omega)
   have ha:zj_ .add (vi (sumW l k)) (vi (l.getD k z1_).x.length)=some (vi (sumW l (k+1))):=aiI_ _ _
   generalize hsw:sumW l (k+1)=W at*
   generalize hsv:sumW l k=W0 at*
   first|with_reducible refine ks [] (And.intro @wy_ (And.intro @ln (And.intro @d2 (And.intro @hx (And.intro @ix (And.intro @ld (@ha))))))) ?_|refine kp (And.intro @wy_ (And.intro @ln (And.intro @d2 (And.intro @hx (And.intro @ix (And.intro @ld (@ha))))))) ?_
   by_cases h3:30000<W
   ·have d3:decide ((30000:Int)<W)=true:=decide_eq_true h3
    have hyes: ((List.range l.length).any fun k=>decide (30000<sumW l (k+1)))=true:=List.any_eq_true.2 ⟨k,List.mem_range.2 hlt,by rw[hsw];exact d3⟩
    rw[hyes]
    first|with_reducible refine ks [] (And.intro @wy_ @d3) ?_|refine kp (And.intro @wy_ @d3) ?_
    refine⟨_,(ke @wy_),trivial, ?_⟩
    rfl
   ·have d3:decide ((30000:Int)<W)=false:=decide_eq_false h3
    first|with_reducible refine ks [] (And.intro @wy_ @d3) ?_|refine kp (And.intro @wy_ @d3) ?_
    refine Again.mk (k+1) (by omega) ⟨hlt,fun j hj=> ?_⟩ rfl (by rw[hsw];rfl)
    by_cases hjk:j=k
    ·rw[hjk,hsw];exact h3
    ·exact hs j (by omega)
  ·obtain rfl:k=l.length:=by omega
   have d2:decide ((l.length:Int)< (l.length:Int))=false:=decide_eq_false (by omega)
   have hno: ((List.range l.length).any fun k=>decide (30000<sumW l (k+1)))=false:=by
    rw[List.any_eq_false]
    intro k hk
    simpa using hs k (List.mem_range.1 hk)
   rw[hno]
   first|with_reducible refine ks [] (And.intro @wy_ (And.intro @ln (@d2))) ?_|refine kp (And.intro @wy_ (And.intro @ln (@d2))) ?_
   refine⟨_,(ke @wy_),trivial, ?_⟩
   rfl
end Go.Proofs
end
section
open Go Go.Proofs Go.Sx Go.StP Go.Flo
namespace Go.Proofs
set_option maxRecDepth 10000
set_option maxHeartbeats 400000
set_option linter.unusedSimpArgs false
def abS:List UInt8:= [98,2,97,98]
def abP:PartL:=⟨false,0,abS⟩
theorem ab_read:frOk abS=true∧zD_ abS=⟨1,[97,98]⟩:=by
 have h:frOk abS=true:=by decide
 refine⟨h, ?_⟩
 unfold zD_
 rw[if_pos h,if_pos h]
 decide
theorem ahd_:fillV [abP]=some ([jY_ abS],[⟨1,[97,98]⟩]):=by
 unfold fillV
 rw[show ZJ_ [abP]= .ok [abS] from rfl]
 show qG_ [abS] [] []=_
 rw[qG_,if_pos ⟨ab_read.1,rfl⟩,qG_,ab_read.2]
 rfl
theorem akl_: ∀p,p∈ [abP]→p.x.length≤65536:=by
 intro p hp;rw[List.mem_singleton] at hp;subst hp;decide
theorem an7_: (qE_ (kq_ [abP])).length=15:=by
 have h1:qS_ (zJ_ (([abP].length:Nat):Int))= [1]:=by rw[show zJ_ (([abP].length:Nat):Int)=1 from rfl,jm_ (by decide)];rfl
 have h2:qS_ (zJ_ (Qr_ 0 abP))= [0]:=by rw[show zJ_ (Qr_ 0 abP)=0 from rfl,jm_ (by decide)];rfl
 have h3:qS_ (zJ_ ((abS.length:Nat):Int))= [4]:=by rw[show zJ_ ((abS.length:Nat):Int)=4 from rfl,jm_ (by decide)];rfl
 have h4:xq_ abP.x= [4]++abS:=by show qS_ (zJ_ ((abS.length:Nat):Int))++abS=_;rw[h3]
 rw[xS_]
 unfold kq_ qT_ qT_ kE_
 rw[h1,h2,h4]
 rfl
theorem apu_ (k k':Int) (t t':List UInt8):qu_ Tryz.prog .eql 43 (obV k t) (obV k' t')=some (.bool (decide ((⟨k,t⟩:ObL)=⟨k',t'⟩))):=anH_ ⟨k,t⟩ ⟨k',t'⟩
theorem ajo_ {w:World} {b:Nat} {p:PartL} (h:w.heap[b]? =some (.cells (zr_ p).toArray 114 (0,0))):kO_ w (vsl b 0 1 1) [p]:=
 SlV.sl (l:= [p]) h (fun k hk j hj=>by
  obtain rfl:k=0:=by simpa using hk
  rw[Nat.zero_mul,Nat.zero_add,List.getElem?_toArray];rfl) (Nat.le_refl 1) (Nat.le_refl 3)
set_option linter.defProp false
def aqD_:=And.intro (And.intro (And.intro (@zg_) (@zf_)) (And.intro (@Sx.tup2_0) (And.intro (@Sx.tup2_1) (@qQ_)))) (And.intro (And.intro (@qh_) (@qf_)) (And.intro (@qn_) (And.intro (@apu_) (@qa_))))
end Go.Proofs
end
section
open Go Go.Proofs Go.Sx Go.StP Go.Flo
namespace Go.Proofs
set_option maxRecDepth 10000
set_option maxHeartbeats 400000
set_option linter.unusedSimpArgs false
theorem wx_ {b:List UInt8} {l:List PartL} {sp:List Nat} {q:List IdL×List ObL} (h:wB_ b=some (l,sp,q)):SmallP l∧l.length≤200∧sp.length=l.length∧q.1.length=l.length∧q.2.length=l.length:=by
 unfold wB_ at h
 split at h
 ·rename_i hc
  have h1:=JN_ (zn_ b).1
  have h2:=WX_ (zn_ b).1
  cases hf:fillV (jH_ (zn_ b).1).1 with
  |none=>rw[hf] at h;cases h
  |some q'=>
   rw[hf] at h
   cases h
   obtain⟨h3,h4,-⟩:=ae7_ hf
   exact⟨h1,h2.1,h2.2,h4,h3⟩
 ·cases h
theorem agK_ {l:List PartL} {q:List IdL×List ObL} (h:fillV l=some q):wU_ l=(qE_ (kq_ l),0):=by unfold wU_;rw[h]
theorem agN_ {l:List PartL} (h:fillV l=none):wU_ l=([],1):=by unfold wU_;rw[h]
theorem af9_ {l:List PartL} {q:List IdL×List ObL} (h:fillV l=some q): (qE_ (kq_ l)).length<1099511627776:=by
 have hx:=ZV_ h
 have hl:l.length≤200:=by
  unfold fillV at h
  cases ha:ZJ_ l with
  |error e=>rw[ha] at h;cases h
  |ok ts=>exact(K0_ ha).2.1
 have h1:=v5_ hx l.length (Nat.le_refl _)
 rw[List.take_length] at h1
 have h2:=zp_ (l.length:Int)
 rw[xS_]
 unfold kq_
 rw[List.length_append,List.length_append,show magB.length=4 from rfl]
 omega
set_option linter.defProp false
def aqg_:=And.intro (And.intro (@zg_) (@zf_)) (And.intro (@Sx.tup2_0) (@Sx.tup2_1))
end Go.Proofs
end
