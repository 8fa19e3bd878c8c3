/-
  Part 3 of the walk: contracts of the functions that the law reaches, and the calculus they stand on.
  No conditions.
-/
import Derived.Test.YtdhmidpgfohkeaaGreatDoorJ2
import Derived.Maps.RangeRun
set_option linter.unusedVariables false
section
open Go Go.Proofs Go.Sx Go.Dig
namespace Go.Proofs
set_option maxRecDepth 10000
set_option maxHeartbeats 1000000
set_option linter.unusedSimpArgs false
set_option linter.defProp false
def zJ_:= @xl_
theorem JQ_ (m:List UInt8) (hm:m.length<1099511627776) (w:World):
  Rets Tryz.prog 64 #[vs m] w (fun v D=>v=vs (padR m)∧D= []):=by
 refine Rets.enterV Tryz.func64 rfl (rs:= [.tmp 2]) Tryz.results64 Tryz.ntmps64 ?_
 refine kf ?_
 first|with_reducible refine ks [] @zJ_ ?_|refine kp @zJ_ ?_
 have hz:=XQ_ (m.length+1)
 rw[show m++ [128]=m++ [128]++List.replicate 0 0 from(List.append_nil _).symm]
 refine Cw.loopG (G:=Nat) [9,10,11,12,13,14,3] (fun g=> [(3,vs (m++ [128]++List.replicate g 0))]) (fun g=> []) (fun g=>g≤kc_ ((m.length+1)%64)) (fun g=>kc_ ((m.length+1)%64) - g) 0 rfl rfl ?_ ?_
 ·omega
 intro g j hg
 refine kv ?_
 have hl: (m++ [128]++List.replicate g 0).length=m.length+1+g:=by simp;omega
 by_cases hlt:g<kc_ ((m.length+1)%64)
 ·have h56: (m.length+1+g)%64≠56:=by unfold kc_ at*;omega
  first|with_reducible refine ks [] (And.intro @zJ_ @hl) ?_|refine kp (And.intro @zJ_ @hl) ?_
  refine Again.mk (g+1) (by omega) (by omega) rfl ?_
  rw[show m++ [128]++List.replicate (g+1) 0=m++ [128]++List.replicate g 0++ [0] from by rw[List.replicate_succ'];simp]
  rfl
 ·have hge:g=kc_ ((m.length+1)%64):=by omega
  subst hge
  first|with_reducible refine ks [] (And.intro @zJ_ @hl) ?_|refine kp (And.intro @zJ_ @hl) ?_
  refine Ow.alloc rfl rfl Tryz.zr163 fun b1 hb1 hw1=> ?_
  rw[show UInt64.ofInt (m.length:Int)=UInt64.ofNat m.length from JY_ _]
  refine ko @zJ_ ?_
  first|with_reducible refine ks [] @zJ_ ?_|refine kp @zJ_ ?_
  generalize ht:UInt64.ofNat m.length*8=t
  rw[←aaW_ t]
  refine Cw.loopG (G:=Nat) [19,20,23,24,25,26,27,28,29,30,4,21,22,6] (fun i=> [(4,v64 (quoN t i)),(6,vi i)]) (fun i=> [(b1, .cells (a8 (jr_ t i)) 163 (0,0))]) (fun i=>i≤8) (fun i=>8 - i) 0 rfl rfl ?_ ?_
  ·omega
  intro i ji hi
  refine kv ?_
  have htl:=Xv_ t i
  by_cases hi8:i<8
  ·first|with_reducible refine ks [] @zJ_ ?_|refine kp @zJ_ ?_
   refine Again.mk (i+1) (by omega) (by omega) ?_ rfl
   rw[aaH_ t i hi8]
  ·have hie:i=8:=by omega
   subst hie
   first|with_reducible refine ks [] @zJ_ ?_|refine kp @zJ_ ?_
   rw[List.drop_zero,List.take_of_length_le (show(jr_ t 8).length≤8 by omega),←ht,UInt64.mul_comm,abX_]
   refine⟨_,(ke @zJ_),⟨hw1,trivial⟩, ?_⟩
   rfl
theorem afn_ (st:List UInt32) (blk:List UInt8) (hst:st.length=8) (hbk:blk.length=64) (w:World):
  Rets Tryz.prog 65 #[.agg (a32 st),vs blk] w (fun v D=>v= .agg (a32 (comp st blk))∧D= []):=by
 have hkl:kL.length=64:=rfl
 refine Rets.enterV Tryz.func65 rfl (rs:= [.cell 4 127]) Tryz.results65 Tryz.ntmps65 ?_
 refine kf ?_
 first|with_reducible refine ks [] @zJ_ ?_|refine kp @zJ_ ?_
 refine Ow.box rfl rfl fun b1 hb1 hw1=> ?_
 refine ko @zJ_ ?_
 refine Ow.alloc rfl rfl Tryz.zr127 fun b2 hb2 hw2=> ?_
 obtain⟨h12,-⟩:=hb2
 refine ko @zJ_ ?_
 first|with_reducible refine ks [] @zJ_ ?_|refine kp @zJ_ ?_
 refine Ow.alloc rfl rfl Tryz.zr164 fun b3 hb3 hw3=> ?_
 obtain⟨h13,h23,-⟩:=hb3
 refine ko @zJ_ ?_
 first|with_reducible refine ks [] @zJ_ ?_|refine kp @zJ_ ?_
 rw[←WS_ blk]
 refine Cw.loopG (G:=Nat) [22,23,26,27,28,29,30,31,32,33,34,35,36,37,38,39,40,41,42,43,44,45,46,47,48,49,50,51,52,53,54,55,56,24,25,6] (fun g=> [(6,vi g)]) (fun g=> [(b1, .cells (a32 st) 127 (0,0)),(b2, .cells (a32 (List.replicate 8 0)) 127 (0,0)),(b3, .cells (a32 (Kw_ blk g)) 164 (0,0))]) (fun g=>g≤16) (fun g=>16 - g) 0 rfl rfl ?_ ?_
 ·omega
 intro g j hg
 refine kv ?_
 have hlen:=kC_ blk g
 by_cases hlt:g<16
 ·first|with_reducible refine ks [] @zJ_ ?_|refine kp @zJ_ ?_
  refine Cw.regionO [0,1,2,3,4,5,6,7,8,9,10,11,12,13,14,15,16,17,18,19,20,21,22,23,24,25,26,27,28,29,30,31] [31] rfl (by kernel_rfl) (by kernel_rfl) ?_
  refine kya ?_
  refine kq @zJ_ ?_
  refine Ow.store rfl rfl rfl (ke @zJ_) ?_
  refine ko @zJ_ ?_
  first|with_reducible refine ks [] @zJ_ ?_|refine kp @zJ_ ?_
  exact Again.mk (g+1) (by omega) (by omega) (by rw[←WD_];rfl) rfl
 ·have hg16:g=16:=by omega
  subst hg16
  first|with_reducible refine ks [] @zJ_ ?_|refine kp @zJ_ ?_
  rw[aer_]
  refine Cw.loopG (G:=Nat) [57,58,61,62,63,64,65,66,67,68,8,9,69,70,71,72,73,74,75,76,77,78,79,80,81,82,83,84,85,86,87,88,89,90,91,92,93,94,95,96,97,59,60,7] (fun g=> [(7,vi g)]) (fun g=> [(b1, .cells (a32 st) 127 (0,0)),(b2, .cells (a32 (List.replicate 8 0)) 127 (0,0)),(b3, .cells (a32 (wG blk g)) 164 (0,0))]) (fun g=>16≤g∧g≤64) (fun g=>64 - g) 16 rfl rfl ?_ ?_
  ·omega
  intro g j hg
  refine kv ?_
  obtain⟨hg1,hg2⟩:=hg
  have hlen:=aap_ blk g
  by_cases hlt:g<64
  ·first|with_reducible refine ks [] @zJ_ ?_|refine kp @zJ_ ?_
   refine Cw.regionO [0,1,2,4,5,6,3,8,7,9] [] rfl (by kernel_rfl) (by kernel_rfl) ?_
   refine kya ?_
   refine kq @zJ_ ?_
   first|with_reducible refine ks [] @zJ_ ?_|refine kp @zJ_ ?_
   refine Cw.regionO [0,1,3,6,7,9,10,11,14,16,19,20,23,24,25,12,26,2,4,5,8,13,15,17,18,21,22,27,28,29] [29] rfl (by kernel_rfl) (by kernel_rfl) ?_
   refine kya ?_
   refine kq @zJ_ ?_
   refine Ow.callFV rfl Tryz.call98 (fun w' hw'=>q1_ _ 17 w') ?_
   refine kq @zJ_ ?_
   refine Ow.callFV rfl Tryz.call98 (fun w' hw'=>q1_ _ 19 w') ?_
   refine kq @zJ_ ?_
   refine Ow.callFV rfl Tryz.call98 (fun w' hw'=>q1_ _ 7 w') ?_
   refine kq @zJ_ ?_
   refine Ow.callFV rfl Tryz.call98 (fun w' hw'=>q1_ _ 18 w') ?_
   refine kq @zJ_ ?_
   refine Ow.store rfl rfl rfl (ke @zJ_) ?_
   refine ko @zJ_ ?_
   first|with_reducible refine ks [] @zJ_ ?_|refine kp @zJ_ ?_
   exact Again.mk (g+1) (by omega) (by omega) (by rw[ahl_ blk g hg1];rfl) rfl
  ·have hg64:g=64:=by omega
   subst hg64
   rw[amX_]
   have hwl:=QM_ blk
   first|with_reducible refine ks [] @zJ_ ?_|refine kp @zJ_ ?_
   refine Ow.callFV rfl Tryz.call99 (fun w' hw'=>ab7_ w') ?_
   refine ko @zJ_ ?_
   refine Ow.alloc rfl rfl Tryz.zr164 fun b4 hb4 hw4=> ?_
   obtain⟨h14,h24,h34,-⟩:=hb4
   refine ko @zJ_ ?_
   first|with_reducible refine ks [] @zJ_ ?_|refine kp @zJ_ ?_
   refine Cw.regionO [0,2,4,6,1,8,3,9,5,10,7,11] [] rfl (by kernel_rfl) (by kernel_rfl) ?_
   refine kya ?_
   refine kq @zJ_ ?_
   first|with_reducible refine ks [] @zJ_ ?_|refine kp @zJ_ ?_
   refine Cw.regionO [0,2,4,6,1,8,3,9,5,10,7,11] [] rfl (by kernel_rfl) (by kernel_rfl) ?_
   refine kya ?_
   refine kq @zJ_ ?_
   first|with_reducible refine ks [] @zJ_ ?_|refine kp @zJ_ ?_
   generalize hw:Wy_ blk=W at*
   refine Cw.loopG (G:=Nat) [115,116,119,120,121,122,123,124,125,126,127,128,129,130,131,132,133,134,135,136,137,138,139,140,141,142,143,144,145,20,146,147,148,149,150,151,152,153,154,155,156,157,158,159,160,161,162,163,164,165,21,166,18,167,17,168,16,169,170,171,15,172,14,173,13,174,12,175,176,177,11,117,118,19] (fun g=> [(19,vi g),(11,v32 ((rGo st W g).getD 0 0)),(12,v32 ((rGo st W g).getD 1 0)),(13,v32 ((rGo st W g).getD 2 0)),(14,v32 ((rGo st W g).getD 3 0)),(15,v32 ((rGo st W g).getD 4 0)),(16,v32 ((rGo st W g).getD 5 0)),(17,v32 ((rGo st W g).getD 6 0)),(18,v32 ((rGo st W g).getD 7 0))]) (fun g=> [(b1, .cells (a32 st) 127 (0,0)),(b2, .cells (a32 (List.replicate 8 0)) 127 (0,0)),(b3, .cells (a32 W) 164 (0,0)),(b4, .cells (a32 kL) 164 (0,0))]) (fun g=>g≤64) (fun g=>64 - g) 0 rfl rfl ?_ ?_
   ·omega
   ·intro g j hg
    refine kv ?_
    by_cases hlt:g<64
    ·first|with_reducible refine ks [] @zJ_ ?_|refine kp @zJ_ ?_
     refine Cw.regionO [0,1,3,6,10,11,12,13,14,15,16,17,19,20,23,24,21,25,2,4,5,7,8,9,18,22,26,27] [] rfl (by kernel_rfl) (by kernel_rfl) ?_
     refine kya ?_
     refine kq @zJ_ ?_
     refine Ow.callFV rfl Tryz.call98 (fun w' hw'=>q1_ _ 6 w') ?_
     refine kq @zJ_ ?_
     refine Ow.callFV rfl Tryz.call98 (fun w' hw'=>q1_ _ 11 w') ?_
     refine kq @zJ_ ?_
     refine Ow.callFV rfl Tryz.call98 (fun w' hw'=>q1_ _ 25 w') ?_
     refine kq @zJ_ ?_
     first|with_reducible refine ks [] @zJ_ ?_|refine kp @zJ_ ?_
     refine Ow.callFV rfl Tryz.call98 (fun w' hw'=>q1_ _ 2 w') ?_
     refine ko @zJ_ ?_
     refine Ow.callFV rfl Tryz.call98 (fun w' hw'=>q1_ _ 13 w') ?_
     refine ko @zJ_ ?_
     refine Ow.callFV rfl Tryz.call98 (fun w' hw'=>q1_ _ 22 w') ?_
     refine ko @zJ_ ?_
     first|with_reducible refine ks [] @zJ_ ?_|refine kp @zJ_ ?_
     exact Again.mk (g+1) (by omega) (by omega) rfl rfl
    ·have hg64:g=64:=by omega
     subst hg64
     first|with_reducible refine ks [] @zJ_ ?_|refine kp @zJ_ ?_
     have hcomp:comp st blk=xj_ st (rGo st W 64) 8:=by rw[←hw];rfl
     rw[hcomp]
     generalize rGo st W 64=R at*
     rw[agt_]
     refine Ow.build (.agg (a32 [st.getD 0 0+R.getD 0 0,st.getD 1 0+R.getD 1 0,st.getD 2 0+R.getD 2 0,st.getD 3 0+R.getD 3 0,st.getD 4 0+R.getD 4 0,st.getD 5 0+R.getD 5 0,st.getD 6 0+R.getD 6 0,st.getD 7 0+R.getD 7 0])) rfl (by kernel_rfl) ?_
     refine ko @zJ_ ?_
     first|with_reducible refine ks [] @zJ_ ?_|refine kp @zJ_ ?_
     refine⟨_,(ke @zJ_),⟨hw1,hw2,hw3,hw4,trivial⟩, ?_⟩
     rfl
end Go.Proofs
end
section
open Go Go.Proofs Go.Sx Go.Dig
namespace Go.Proofs
set_option maxRecDepth 10000
set_option maxHeartbeats 1000000
set_option linter.unusedSimpArgs false
set_option linter.defProp false
def jQ_:= @xl_
theorem adI_ (m:List UInt8) (hm:m.length<1099511627776) (w:World):
  Rets Tryz.prog 32 #[vs m] w (fun v D=>v= .agg (a8 (shaR m))∧D= []):=by
 refine Rets.enterV Tryz.func32 rfl (rs:= [.cell 2 41]) Tryz.results32 Tryz.ntmps32 ?_
 refine kf ?_
 first|with_reducible refine ks [] @jQ_ ?_|refine kp @jQ_ ?_
 refine Ow.alloc rfl rfl Tryz.zr41 fun b1 hb1 hw1=> ?_
 refine ko @jQ_ ?_
 first|with_reducible refine ks [] @jQ_ ?_|refine kp @jQ_ ?_
 refine Ow.callFV rfl Tryz.call64 (fun w' hw'=>JQ_ m hm w') ?_
 have hp:=adb_ m
 unfold shaR
 generalize padR m=p at*
 refine ko @jQ_ ?_
 first|with_reducible refine ks [] @jQ_ ?_|refine kp @jQ_ ?_
 refine Ow.build (.agg (a32 initL)) rfl (by kernel_rfl) ?_
 refine ko @jQ_ ?_
 refine Ow.alloc rfl rfl Tryz.zr127 fun b2 hb2 hw2=> ?_
 obtain⟨h12,-⟩:=hb2
 have hil:initL.length=8:=rfl
 refine ko @jQ_ ?_
 first|with_reducible refine ks [] @jQ_ ?_|refine kp @jQ_ ?_
 rw[show a32 initL=a32 (v9_ initL p 0) from rfl]
 refine Cw.loopG (G:=Nat) [11,12,13,14,17,18,19,20,21,22,23,15,16,5] (fun g=> [(5,vi (64*g))]) (fun g=> [(b1, .cells (a8 (List.replicate 32 0)) 41 (0,0)),(b2, .cells (a32 (v9_ initL p g)) 127 (0,0))]) (fun g=>64*g≤p.length) (fun g=>p.length - 64*g) 0 rfl rfl ?_ ?_
 ·omega
 intro g j hg
 refine kv ?_
 have hcl:=WX_ initL p g rfl
 by_cases hlt:64*g<p.length
 ·first|with_reducible refine ks [] @jQ_ ?_|refine kp @jQ_ ?_
  refine Cw.regionO [1,2,3,4,5,0,6,7] [7] rfl (by kernel_rfl) (by kernel_rfl) ?_
  refine kya ?_
  refine kq @jQ_ ?_
  rw[show List.drop (64*g) (List.take (64*g+64) p)=(p.drop (64*g)).take 64 from by rw[List.drop_take];congr 1;omega]
  refine Ow.callFV rfl Tryz.call65 (fun w' hw'=>afn_ _ _ hcl (by simp;omega) w') ?_
  have hcl2:=ws_ (v9_ initL p g) ((p.drop (64*g)).take 64)
  refine kq @jQ_ ?_
  refine Ow.store rfl rfl rfl (ke @jQ_) ?_
  refine ko @jQ_ ?_
  first|with_reducible refine ks [] @jQ_ ?_|refine kp @jQ_ ?_
  exact Again.mk (g+1) (by omega) (by omega) rfl (by rw[show 64* ((g+1:Nat):Int)=64* (g:Int)+64 from by omega];rfl)
 ·have hge:g=p.length / 64:=by omega
  first|with_reducible refine ks [] @jQ_ ?_|refine kp @jQ_ ?_
  rw[←hge]
  refine Ow.alloc rfl rfl Tryz.zr41 fun b3 hb3 hw3=> ?_
  obtain⟨h13,h23,-⟩:=hb3
  refine ko @jQ_ ?_
  first|with_reducible refine ks [] @jQ_ ?_|refine kp @jQ_ ?_
  generalize v9_ initL p g=S at*
  rw[show [(b1,Obj.cells (a8 (List.replicate 32 0)) 41 (0,0)),(b2, .cells (a32 S) 127 (0,0)),(b3, .cells (a8 (List.replicate 32 0)) 41 (0,0))]= [(b1,Obj.cells (a8 (List.replicate 32 0)) 41 (0,0)),(b2, .cells (a32 S) 127 (0,0)),(b3, .cells (a8 (jW_ S 0)) 41 (0,0))] from by rw[JA_]]
  refine Cw.loopG (G:=Nat) [24,25,28,29,30,31,32,33,34,35,36,37,38,39,40,26,27,7] (fun k=> [(7,vi k)]) (fun k=> [(b1, .cells (a8 (List.replicate 32 0)) 41 (0,0)),(b2, .cells (a32 S) 127 (0,0)),(b3, .cells (a8 (jW_ S k)) 41 (0,0))]) (fun k=>k≤32) (fun k=>32 - k) 0 rfl rfl ?_ ?_
  ·omega
  intro k jk hk
  refine kv ?_
  have hol:=outPre_length S k
  by_cases hk:k<32
  ·first|with_reducible refine ks [] @jQ_ ?_|refine kp @jQ_ ?_
   refine Again.mk (k+1) (by omega) (by omega) ?_ rfl
   have e: (UInt64.ofInt (24 - 8* ((k:Int)%4))).toNat=24 - 8* (k%4):=by
    rw[show(24 - 8* ((k:Int)%4))=((24 - 8* (k%4):Nat):Int) from by omega,JY_,UInt64.toNat_ofNat',Nat.mod_eq_of_lt (by omega)]
   rw[e,←xL_];rfl
  ·have hke:k=32:=by omega
   subst hke
   first|with_reducible refine ks [] @jQ_ ?_|refine kp @jQ_ ?_
   refine⟨_,(ke @jQ_),⟨hw1,hw2,hw3,trivial⟩, ?_⟩
   rfl
end Go.Proofs
end
namespace Go.Dig
open Go.Sx
structure Inv (s:Hs) (p:List UInt8):Prop where
 ok:s.Ok
 st:s.st=v9_ initL p (p.length / 64)
 many:s.many=p.length%64
 rest:s.rest.take s.many=p.drop (64* (p.length / 64))
theorem Inv.put {s:Hs} {p:List UInt8} (h:Inv s p) (x:UInt8):Inv (J4_ s x) (p++ [x]):=by
 obtain⟨hok,hst,hmany,hrest⟩:=h
 have hk:=KP_ x hok
 have hm64:=hok.many
 have hrl:=hok.rest
 have hle:64* (p.length / 64)≤p.length:=by omega
 have htake: (s.rest.set s.many x).take (s.many+1)=p.drop (64* (p.length / 64))++ [x]:=by
  rw[List.take_add_one,List.take_set,←hrest]
  congr 1
  ·rw[List.set_eq_of_length_le (by simp only[List.length_take];exact Nat.min_le_left _ _)]
  ·simp[hrl,hm64]
 have hlen: (p++ [x]).length=p.length+1:=by simp
 have hc:v9_ initL (p++ [x]) (p.length / 64)=v9_ initL p (p.length / 64):=aae_ _ _ _ _ hle
 by_cases h64:s.many+1=64
 ·have e:J4_ s x=⟨comp s.st (s.rest.set s.many x),s.rest.set s.many x,0⟩:=by unfold J4_;rw[if_pos h64]
  have hd: (p.length+1) / 64=p.length / 64+1:=by omega
  have hr: (s.rest.set s.many x)=p.drop (64* (p.length / 64))++ [x]:=by
   rw[←htake,h64,List.take_of_length_le (by simp[hrl])]
  refine⟨hk, ?_, ?_, ?_⟩
  ·rw[e,hlen,hd]
   show comp s.st _=comp (v9_ initL (p++ [x]) (p.length / 64)) _
   rw[hc,←hst,hr,List.drop_append_of_le_length hle,List.take_of_length_le (by simp;omega)]
  ·rw[e,hlen];show 0=_;omega
  ·rw[e,hlen]
   show List.take 0 _=_
   rw[List.take_zero,List.drop_of_length_le (by rw[hlen];omega)]
 ·have e:J4_ s x=⟨s.st,s.rest.set s.many x,s.many+1⟩:=by unfold J4_;rw[if_neg h64]
  have hd: (p.length+1) / 64=p.length / 64:=by omega
  refine⟨hk, ?_, ?_, ?_⟩
  ·rw[e,hlen,hd,hc];exact hst
  ·rw[e,hlen];show s.many+1=_;omega
  ·rw[e,hlen,hd]
   show List.take (s.many+1) (s.rest.set s.many x)=_
   rw[htake,List.drop_append_of_le_length hle]
theorem Inv.puts {s:Hs} {p:List UInt8} (h:Inv s p) (l:List UInt8):Inv (qX_ s l) (p++l):=by
 induction l generalizing s p with
 |nil=>rw[List.append_nil];exact h
 |cons x r ih=>
  have:=ih (h.put x)
  rw[List.append_assoc] at this
  exact this
theorem Inv.zero:Inv H0 []:=⟨ap5_,rfl,rfl,rfl⟩
theorem al9_ (p:List UInt8): (qX_ H0 p).st=v9_ initL p (p.length / 64):=(Inv.zero.puts p).st
theorem aiV_ (l:List (List UInt8)) (n:Nat):kn_ (UInt64.ofNat n) l=UInt64.ofNat (n+l.flatten.length):=by
 induction l generalizing n with
 |nil=>rfl
 |cons a r ih=>
  show kn_ (UInt64.ofNat n+UInt64.ofNat a.length) r=_
  rw[←UInt64.ofNat_add,ih,List.flatten_cons,List.length_append,Nat.add_assoc]
theorem anF_ (m:List UInt8):hsum (qX_ H0 m) (UInt64.ofNat m.length)=shaR m:=by
 unfold hsum shaR
 rw[←al9_]
 suffices h:ae0_ (qX_ H0 m) (UInt64.ofNat m.length)=qX_ H0 (padR m) by rw[h]
 have hmany: (J4_ (qX_ H0 m) 128).many=(m.length+1)%64:=by
  have:=((Inv.zero.puts m).put 128).many
  rw[this];simp
 unfold ae0_ padR
 rw[hmany,jI_,jI_,jI_,show qX_ (qX_ H0 m) [128]=J4_ (qX_ H0 m) 128 from rfl]
theorem sumV_eq (l:List (List UInt8)):sumV l=shaR l.flatten:=by
 unfold sumV
 have:=aiV_ l 0
 rw[Nat.zero_add] at this
 rw[show(0:UInt64)=UInt64.ofNat 0 from rfl,this,anF_]
end Go.Dig
section
open Go Go.Proofs Go.Sx Go.StP
namespace Go.Proofs
set_option maxRecDepth 10000
set_option maxHeartbeats 400000
set_option linter.unusedSimpArgs false
theorem GlobE.new {w0 w:World} {L:zb_} (hg:GlobE w0) (h:Hp w0 L w) (hn:New w0.heap.size L):GlobE w:=by
 obtain⟨e0,e1,f0,f1,h0,h1⟩:=id hg
 have:3<w0.heap.size:=(Array.getElem?_eq_some_iff.1 h1).1
 exact hg.of h fun b hb=>by have:=hn.le b hb;omega
theorem adn_ {k:Int} {t:List UInt8} (h:vi_ k t=true): (jK_ k t).length<100000:=by
 obtain⟨h1,h2,h3⟩:=J1_ h
 have hh: (wj_ k).length≤4:=by unfold wj_;simp only[List.length_drop,List.length_take,List.length_cons,List.length_nil];omega
 have:=zp_ (t.length:Int)
 unfold jK_ jN_
 rw[List.length_append,List.length_append]
 omega
theorem Qc_ (m:List UInt8): (Dig.shaR m).length=32:=Dig.outPre_length _ _
set_option linter.defProp false
def idV (k:Int) (t:List UInt8):IdL:=if vi_ k t then⟨Dig.shaR (jK_ k t),Qc_ _⟩ else id0
theorem ahm_:qR_ (x7_ Tryz.prog 41) (zI_ Tryz.prog 41) []=some (.agg (a8 id0.l)):=id (by kernel_rfl)
theorem VD_ (k:Int) (t:List UInt8) (w:World) (hG:GlobE w):Rets Tryz.prog 16 #[obV k t] w (fun v D=>v= .tuple #[.agg (a8 (idV k t).l), .bool (vi_ k t)]∧D= []):=by
 refine Rets.enterV Tryz.func16 rfl (rs:= [.cell 2 41, .tmp 3]) Tryz.results16 Tryz.ntmps16 ?_
 refine kf ?_
 first|with_reducible refine ks [] @zu_ ?_|refine kp @zu_ ?_
 refine Ow.box rfl rfl fun b1 hb1 hw1=> ?_
 simp only[zD_,zH_,zG_,za_,List.nil_append]
 refine ko @zu_ ?_
 refine Ow.alloc rfl rfl wC_ fun b2 hb2 hw2=> ?_
 simp only[za_,List.nil_append,List.cons_append]
 have h12:b1<b2:=zh_ hb2 (by simp[keys])
 have hi0:=id0.h
 refine ko @zu_ ?_
 refine Ow.callC rfl rfl Tryz.call34 (fun w' hw'=>QI_ k t w') (fun B v D hA hB hN hS=> ?_)
 have hD:New w.heap.size D:=New.mono hB hN
 unfold idV
 cases hr:vi_ k t
 ·rw[hr,if_neg (by decide)] at hS
  subst hS
  have e: ((1:Int) !=0)=true:=rfl
  refine ko @zu_ ?_
  first|with_reducible refine ks [] (And.intro @zu_ @e) ?_|refine kp (And.intro @zu_ @e) ?_
  refine Ow.build (.agg (a8 id0.l)) rfl ahm_ ?_
  refine ko @zu_ ?_
  first|with_reducible refine ks [] @zu_ ?_|refine kp @zu_ ?_
  refine⟨_,(ke @zu_),⟨hw1,hw2,hD⟩, ?_⟩
  rfl
 ·rw[hr,if_pos rfl] at hS
  subst hS
  have e: ((0:Int) !=0)=false:=rfl
  have hfl:=adn_ hr
  have hzl: ∀i,i< [jK_ k t].length→([jK_ k t].getD i []).length<1099511627776:=fun i hi=>by
   obtain rfl:i=0:=by simpa using hi
   show(jK_ k t).length<_;omega
  refine ko @zu_ ?_
  first|with_reducible refine ks [] (And.intro @zu_ @e) ?_|refine kp (And.intro @zu_ @e) ?_
  refine Ow.buildSlice (e:=9) #[vs (jK_ k t)] rfl rfl (by kernel_rfl) fun b15 hb15 hw15=> ?_
  refine ko @zu_ ?_
  refine Ow.callFV rfl Tryz.call41 (fun w' hw'=>ajm_ _ b15 0 [jK_ k t] _ _ _ w' (hG.new hw' (by exact⟨hw1,hw2,New.app hD ⟨hw15,trivial⟩⟩)) (StrS.lit [jK_ k t] rfl rfl (hw'.has _ (.cells #[vs (jK_ k t)] 9 (0,0)) (by simp))) (by show(1:Nat)<1099511627776;omega) hzl) ?_
  rw[Dig.sumV_eq,show([jK_ k t]:List (List UInt8)).flatten=jK_ k t by simp]
  have hsl:=Qc_ (jK_ k t)
  refine ko @zu_ ?_
  first|with_reducible refine ks [] @zu_ ?_|refine kp @zu_ ?_
  refine⟨_,(ke @zu_),⟨hw1,hw2,hD.app ⟨hw15,trivial⟩⟩, ?_⟩
  rfl
def wR_ (k:Int) (t:List UInt8):List UInt8:=(if k=3 then [99] else if k=2 then [116] else [98])++jN_ t
theorem aiD_ {k:Int} {t:List UInt8} (h:vi_ k t=true):wR_ k t=jK_ k t:=by
 obtain⟨h1,h2,-⟩:=J1_ h
 unfold wR_ jK_
 rcases(show k=1∨k=2∨k=3 by omega) with rfl|rfl|rfl<;>rfl
theorem acB_ (k:Int) (t:List UInt8) (w:World) (ht:t.length<100000):Rets Tryz.prog 33 #[obV k t] w (fun v D=>v=vs (wR_ k t)∧D= []):=by
 have tl:=km_ (s:=t) (by omega)
 refine Rets.enterV Tryz.func33 rfl (rs:= [.tmp 2]) Tryz.results33 Tryz.ntmps33 ?_
 refine kf ?_
 first|with_reducible refine ks [] @zu_ ?_|refine kp @zu_ ?_
 refine Ow.box rfl rfl fun b1 hb1 hw1=> ?_
 simp only[zD_,zH_,zG_,za_,List.nil_append]
 unfold wR_
 by_cases h3:k=3
 ·have e2: (k==2)=false:=beq_eq_false_iff_ne.2 (by omega)
  have e3: (k==3)=true:=by simp[h3]
  rw[if_pos h3]
  refine ko (And.intro @zu_ (And.intro @e2 (@e3))) ?_
  first|with_reducible refine ks [] (And.intro @zu_ (And.intro @e2 (@e3))) ?_|refine kp (And.intro @zu_ (And.intro @e2 (@e3))) ?_
  refine Ow.callFV rfl Tryz.call66 (fun w' hw'=>x9_ t w' (by omega)) ?_
  refine ko @zu_ ?_
  first|with_reducible refine ks [] @zu_ ?_|refine kp @zu_ ?_
  refine⟨_,(ke @zu_),⟨hw1,trivial⟩, ?_⟩
  rfl
 ·have e3: (k==3)=false:=by simpa using h3
  rw[if_neg h3]
  by_cases h2:k=2
  ·have e2: (k==2)=true:=by simp[h2]
   rw[if_pos h2]
   refine ko (And.intro @zu_ (And.intro @e2 (@e3))) ?_
   first|with_reducible refine ks [] (And.intro @zu_ (And.intro @e2 (@e3))) ?_|refine kp (And.intro @zu_ (And.intro @e2 (@e3))) ?_
   refine Ow.callFV rfl Tryz.call66 (fun w' hw'=>x9_ t w' (by omega)) ?_
   refine ko @zu_ ?_
   first|with_reducible refine ks [] @zu_ ?_|refine kp @zu_ ?_
   refine⟨_,(ke @zu_),⟨hw1,trivial⟩, ?_⟩
   rfl
  ·have e2: (k==2)=false:=by simpa using h2
   rw[if_neg h2]
   refine ko (And.intro @zu_ (And.intro @e2 (@e3))) ?_
   first|with_reducible refine ks [] (And.intro @zu_ (And.intro @e2 (@e3))) ?_|refine kp (And.intro @zu_ (And.intro @e2 (@e3))) ?_
   refine Ow.callFV rfl Tryz.call66 (fun w' hw'=>x9_ t w' (by omega)) ?_
   refine ko @zu_ ?_
   first|with_reducible refine ks [] @zu_ ?_|refine kp @zu_ ?_
   refine⟨_,(ke @zu_),⟨hw1,trivial⟩, ?_⟩
   rfl
theorem aeS_ (k:Int) (t:List UInt8) (w:World) (ht:t.length<100000):Rets Tryz.prog 13 #[obV k t] w (fun v D=>v= .agg (a8 (Dig.shaR (wR_ k t)))∧D= []):=by
 have tl:=km_ (s:=t) (by omega)
 have fl: (wR_ k t).length<1099511627776:=by
  have nl:=zp_ (t.length:Int)
  unfold wR_ jN_;rw[List.length_append,List.length_append]
  have: ((if k=3 then [99] else if k=2 then [116] else [98]:List UInt8)).length=1:=by split<;>(try split)<;>rfl
  omega
 have hsl:=Qc_ (wR_ k t)
 refine Rets.enterV Tryz.func13 rfl (rs:= [.cell 2 41]) Tryz.results13 Tryz.ntmps13 ?_
 refine kf ?_
 first|with_reducible refine ks [] @zu_ ?_|refine kp @zu_ ?_
 refine Ow.box rfl rfl fun b1 hb1 hw1=> ?_
 simp only[zD_,zH_,zG_,za_,List.nil_append]
 refine ko @zu_ ?_
 refine Ow.alloc rfl rfl wC_ fun b2 hb2 hw2=> ?_
 simp only[za_,List.nil_append,List.cons_append]
 have h12:b1<b2:=zh_ hb2 (by simp[keys])
 have hi0:=id0.h
 refine ko @zu_ ?_
 refine Ow.callFV rfl Tryz.call33 (fun w' hw'=>acB_ k t w' ht) ?_
 refine ko @zu_ ?_
 refine Ow.callFV rfl Tryz.call32 (fun w' hw'=>adI_ _ fl w') ?_
 refine ko @zu_ ?_
 first|with_reducible refine ks [] @zu_ ?_|refine kp @zu_ ?_
 refine⟨_,(ke @zu_),⟨hw1,hw2,trivial⟩, ?_⟩
 rfl
end Go.Proofs
end
section
open Go Go.Proofs Go.Sx Go.StP Go.Flo
namespace Go.Proofs
set_option maxRecDepth 10000
set_option maxHeartbeats 400000
set_option linter.unusedSimpArgs false
structure ObL where
 k:Int
 t:List UInt8
def ob0:ObL:=⟨0,[]⟩
def obC (o:ObL):List Value:= [vi o.k,vs o.t]
theorem Vx_ (o:ObL): (obC o).length=2:=rfl
theorem ado_ (o:ObL): (obC o).all Value.oneCell'=true:=rfl
def zM_ (s:List UInt8):ObL:=⟨if frOk s then frK s else 0,if frOk s then(frT s).1 else []⟩
def xq_ (s:List UInt8):IdL:=idV (zM_ s).k (zM_ s).t
def jo_:List (List UInt8)→List IdL→List ObL→Option (List IdL×List ObL)
 | [],ids,os=>some (ids,os)
 |s::r,ids,os=>if frOk s=true∧(ids.any fun y=>(xq_ s).l==y.l)=false then jo_ r (ids++ [xq_ s]) (os++ [zM_ s]) else none
def fillV (l:List PartL):Option (List IdL×List ObL):=match JB_ l with
 | .ok ts=>jo_ ts [] []
 | .error _=>none
theorem Zk_: ∀ (a b:List (List UInt8)) (ids:List IdL) (os:List ObL),jo_ (a++b) ids os=(jo_ a ids os).bind fun p=>jo_ b p.1 p.2
 | [],_,_,_=>rfl
 |s::a,b,ids,os=>by
  rw[List.cons_append,jo_,jo_]
  split
  ·exact Zk_ a b _ _
  ·rfl
theorem Km_: ∀ (a:List (List UInt8)) (ids:List IdL) (os:List ObL) (p:List IdL×List ObL),jo_ a ids os=some p→p.1.length=ids.length+a.length∧p.2.length=os.length+a.length
 | [],ids,os,p,h=>by cases h;simp
 |s::a,ids,os,p,h=>by
  rw[jo_] at h
  split at h
  ·have:=Km_ a _ _ p h
   simp only[List.length_append,List.length_cons,List.length_nil] at this ⊢
   omega
  ·cases h
theorem Qr_ {a:List (List UInt8)} {s:List UInt8} {p:List IdL×List ObL} (h:jo_ a [] []=some p):
  jo_ (a++ [s]) [] []=if frOk s=true∧(p.1.any fun y=>(xq_ s).l==y.l)=false then some (p.1++ [xq_ s],p.2++ [zM_ s]) else none:=by
 rw[Zk_,h]
 show jo_ [s] p.1 p.2=_
 rw[jo_]
 rfl
theorem adz_ {a b:List (List UInt8)} (h:jo_ a [] []=none):jo_ (a++b) [] []=none:=by
 rw[Zk_,h];rfl
end Go.Proofs
end
namespace Go.Sx
open Go
section
variable {P:Program} {w0:World} {l:List Oper} {R ts:List Nat} {n:Nat} {listed:List Bool} {f:Fr} {L:zb_} {N:Fr→zb_→Prop}
def OwG (P:Program) (w0:World) (l:List Oper) (R ts:List Nat) (n:Nat) (listed:List Bool) (f:Fr) (L:zb_) (N:Fr→zb_→Prop):Prop:=
 ∀w,Hp w0 L w→xk_ P l.toArray (jz_ w0 N) ts (SR w0 R L) n listed.toArray (act f) w
theorem Cw.regionG {id:Nat} {K:xp_} (R ts:List Nat) (m:Nat) (hl:l.length=m) (hm:P.follows .mixedOrders=true) (h:OwG P w0 l R ts m (List.replicate m false) f L (K .normal)):Cw P w0 (.region id l.toArray true) f L K:=by
 intro w hw
 subst hl
 refine wp_mono (wp_region_any hm ?_) fun _ _ _ h=>j8_ h
 have:=kh_ _ _ _ _ (h _ hw.drew)
 simpa using this
def chkG (P:Program) (l:List Oper) (ts:List Nat):List Nat→List Bool→Option (List Bool)
 | [],listed=>some listed
 |k::is,listed=>
  match ki_ l k with
  |some o=>if !ts.contains k&& (ts.all fun t=> !listed.toArray.getD t true)&& (Region.ready .any l.toArray listed.toArray).contains k&&Region.free .any l.toArray listed.toArray k&&
    (jO_ P o.op|| (Jm_ o.op&&Qu_ l.toArray ts listed.toArray k)) then chkG P l ts is (listed.set k true) else none
  |none=>none
theorem OwG.step {k:Nat} {o:Oper} {v:Value} (hns:Region.noSelect l.toArray=true) (hk:ki_ l k=some o) {rest:List Bool} (hc:chkG P l ts [k] listed=some rest)
  (hY:YieldsC P l.toArray (SR w0 R L) (jO_ P o.op=true) o v (act f)) (h:OwG P w0 l R ts n rest (qd_ f o.dst v) L N):OwG P w0 l R ts (n+1) listed f L N:=by
 have hoi:l.toArray[k]? =some o:=by rw[j3_] at hk;simpa using hk
 unfold chkG at hc
 rw[hk] at hc
 simp only at hc
 split at hc
 ·rename_i hcc
  simp only[chkG,Option.some.injEq] at hc
  subst hc
  simp only[Bool.and_eq_true,Bool.or_eq_true,Bool.not_eq_true',List.all_eq_true,List.contains_eq_mem,decide_eq_true_eq,decide_eq_false_iff_not] at hcc
  obtain⟨⟨⟨⟨c2,c3⟩,c4⟩,c5⟩,c9⟩:=hcc
  have hsel:=Region.noSelect_spec hns
  intro w hw
  refine kI_ hoi c2 hsel (fun c a w h=>zU_ h) _ _ _ _ (xm_ (P:=P) hoi c4 c5 (c9.imp id fun h=>⟨h.1,h.2,fun t ht=>c3 t ht⟩)) (.inr fun t ht=>c3 t ht) hY ?_
  rw[z1_,qm_]
  exact h w hw
 ·cases hc
theorem aj9_ {k:Nat} {is:List Nat} {listed listed':List Bool} (h:chkG P l ts (k::is) listed=some listed'):chkG P l ts [k] listed=some (listed.set k true)∧chkG P l ts is (listed.set k true)=some listed':=by
 rw[chkG] at h
 cases ho:ki_ l k with
 |none=>rw[ho] at h;cases h
 |some o=>
  rw[ho] at h
  simp only at h
  split at h
  ·rename_i hcc
   refine⟨?_,h⟩
   rw[chkG,ho]
   simp only
   rw[if_pos hcc];rfl
  ·cases h
theorem OwG.runs {k:Md→List Oper→Fr→zb_→Prop} (hns:Region.noSelect l.toArray=true): ∀ (is:List Nat) {listed listed':List Bool} {f:Fr} {L:zb_},chkG P l ts is listed=some listed'→
  (∀md r f' L',k md r f' L'→r= []∧OwG P w0 l R ts n listed' f' L' N)→vcL P w0 l.toArray false (.sof R [] []) (xf_ l is) f L k→OwG P w0 l R ts (is.length+n) listed f L N
 | [],listed,listed',f,L,hc,hk,h=>by
  cases hc
  rw[List.length_nil,Nat.zero_add]
  exact(hk _ _ _ _ h).2
 |i::is,listed,listed',f,L,hc,hk,h=>by
  obtain⟨hc1,hc2⟩:=aj9_ hc
  rw[vD_] at h
  cases ho:ki_ l i with
  |none=>unfold chkG at hc1;rw[ho] at hc1;cases hc1
  |some o=>
   rw[ho,vF_] at h
   unfold vcL at h
   rw[List.length_cons,show is.length+1+n=(is.length+n)+1 by omega]
   cases hs:zg_ l.toArray f o with
   |true=>
    rw[hs] at h
    have hw0:Region.wanted o (yielded l.toArray (act f).tmps)=false:=by rw[qg_,hs];rfl
    exact OwG.step hns ho hc1 (v:=undef) (.inr ⟨hw0,rfl⟩) (OwG.runs hns is hc2 hk h)
   |false=>
    rw[hs] at h
    have hw0:Region.wanted o (yielded l.toArray (act f).tmps)=true:=by rw[qg_,hs];rfl
    simp only[ib,vcB] at h
    split at h
    ·cases hrd:Vy_ (.sof R [] []) f o.op with
     |false=>rw[hrd] at h;exact absurd (hk _ _ _ _ h).1 (by simp)
     |true=>
      rw[hrd] at h
      simp only at h
      cases hv:jg_ P w0 L f o.op with
      |none=>rw[hv] at h;exact absurd (hk _ _ _ _ h).1 (by simp)
      |some v=>
       rw[hv] at h
       refine OwG.step hns ho hc1 (v:=v) (.inl ⟨hw0,fun w hw=> ?_⟩) (OwG.runs hns is hc2 hk h)
       rw[q0_]
       rcases hw with hp|hw
       ·exact qI_ (Hp.refl w) (xx_ hp hv w)
       ·exact qI_ (Hp.refl w) (wf_ hrd hv hw)
    ·exact absurd (hk _ _ _ _ h).1 (by simp)
    ·exact absurd (hk _ _ _ _ h).1 (by simp)
theorem OwG.run (is:List Nat) (listed':List Bool) (n:Nat) {m:Nat} (hm:m=is.length+n) (hns:Region.noSelect l.toArray=true) (hc:chkG P l ts is listed=some listed')
  (h: ∀k:Md→List Oper→Fr→zb_→Prop,(∀md f L,OwG P w0 l R ts n listed' f L N→k md [] f L)→nl (xf_ l is) fun l'=>vcL P w0 l.toArray false (.sof R [] []) l' f L k):OwG P w0 l R ts m listed f L N:=by
 subst hm
 refine OwG.runs (k:=fun _ r f' L'=>r= []∧OwG P w0 l R ts n listed' f' L' N) hns is hc (fun _ _ _ _ h=>h) ?_
 exact h _ fun _ _ _ h=>⟨rfl,h⟩
def aes_ (l:List Oper) (ts:List Nat) (ks:List Nat) (listed:List Bool):Bool:=
 ((Region.ready .any l.toArray listed.toArray).all fun i=>ks.contains i)&& (Region.ready .any l.toArray listed.toArray != [])&&ks.all fun k=> !ts.contains k
theorem OwG.softs (ks:List Nat) (hs:aes_ l ts ks listed=true)
  (h: ∀k,k∈ks→ ∀o,ki_ l k=some o→Ow P w0 l.toArray .seq [o] f L (fun f' L'=>(∀r,r∈R→zk_ w0 L' r=zk_ w0 L r)∧OwG P w0 l R ts n (listed.set k true) f' L' N)):
  OwG P w0 l R ts (n+1) listed f L N:=by
 unfold aes_ at hs
 simp only[Bool.and_eq_true,List.all_eq_true,bne_iff_ne,ne_eq,List.contains_eq_mem,decide_eq_true_eq,Bool.not_eq_true',decide_eq_false_iff_not] at hs
 obtain⟨⟨c3,c4⟩,c6⟩:=hs
 intro w hw
 refine⟨fun _=>SR.of hw,fun hr=>absurd hr c4,fun i hi=> ?_⟩
 have hik:=c3 i hi
 obtain⟨-,oi,hoi,-⟩:=mem_ready.1 hi
 have hni:ki_ l i=some oi:=by rw[j3_];simpa using hoi
 refine wi_ hoi (X:=xk_ P l.toArray (jz_ w0 N) ts (SR w0 R L) n (listed.toArray.setIfInBounds i true)) ?_ hw
 intro w' hw'
 have h1:=h i hik oi hni w' hw'
 refine xT_ ?_ h1
 rintro f' L' ⟨hS,hO⟩ w'' hw''
 rw[vO_ hS,qm_]
 exact hO w'' hw''
theorem OwG.one (i:Nat) (oi:Oper) (hs:aes_ l ts [i] listed=true) (hi:ki_ l i=some oi)
  (h:Ow P w0 l.toArray .seq [oi] f L (fun f' L'=>(∀r,r∈R→zk_ w0 L' r=zk_ w0 L r)∧OwG P w0 l R ts n (listed.set i true) f' L' N)):OwG P w0 l R ts (n+1) listed f L N:=
 OwG.softs [i] hs fun k hk o ho=>by
  rw[List.mem_singleton] at hk
  subst hk
  rw[hi] at ho
  cases ho
  exact h
theorem OwG.two (i j:Nat) (oi oj:Oper) (hs:aes_ l ts [i,j] listed=true) (hi:ki_ l i=some oi) (hj:ki_ l j=some oj)
  (h1:Ow P w0 l.toArray .seq [oi] f L (fun f' L'=>(∀r,r∈R→zk_ w0 L' r=zk_ w0 L r)∧OwG P w0 l R ts n (listed.set i true) f' L' N))
  (h2:Ow P w0 l.toArray .seq [oj] f L (fun f' L'=>(∀r,r∈R→zk_ w0 L' r=zk_ w0 L r)∧OwG P w0 l R ts n (listed.set j true) f' L' N)):OwG P w0 l R ts (n+1) listed f L N:=
 OwG.softs [i,j] hs fun k hk o ho=>by
  simp only[List.mem_cons,List.not_mem_nil,or_false] at hk
  rcases hk with rfl|rfl
  ·rw[hi] at ho;cases ho;exact h1
  ·rw[hj] at ho;cases ho;exact h2
theorem OwG.permL {M:zb_} (hp:M.Perm L) (hR: ∀r,r∈R→zk_ w0 M r=zk_ w0 L r) (h:OwG P w0 l R ts n listed f M N):OwG P w0 l R ts n listed f L N:=by
 intro w hw
 rw[vO_ hR]
 exact h w (hw.perm hp)
def apH_ (P:Program) (l:List Oper) (is ts:List Nat) (listed:List Bool):Bool:=
 Region.noSelect l.toArray&&ZM_ P l.toArray ts is listed.toArray&&ts.all fun t=> !listed.toArray.getD t true
theorem OwG.rest (is:List Nat) {m:Nat} (hm:m=is.length) (hB:apH_ P l is ts listed=true) (hl:is.map (fun i:Nat=>l[i]?)=(xf_ l is).map some)
  (h:nl (xf_ l is) fun l'=>Ow P w0 l.toArray (.sof R is ts) l' f L N):OwG P w0 l R ts m listed f L N:=by
 subst hm
 revert hl h
 generalize xf_ l is=l'
 intro hl h w hw
 simp only[apH_,Bool.and_eq_true,List.all_eq_true,Bool.not_eq_true'] at hB
 obtain⟨⟨h1,h4⟩,h5⟩:=hB
 have hlen:is.length=l'.length:=by have:=congrArg List.length hl;simpa using this
 have hF:Fits P l.toArray ts is l' listed.toArray:=⟨hlen,fun j=>by
  have:=congrArg (·[j]?) hl
  simp only[List.getElem?_map] at this
  cases hj:is[j]? with
  |none=>
   rw[hj] at this
   simp only[Option.map_none] at this
   cases hj':l'[j]? with
   |none=>rfl
   |some x=>rw[hj'] at this;cases this
  |some i=>
   rw[hj] at this
   simp only[Option.map_some] at this
   cases hj':l'[j]? with
   |none=>rw[hj'] at this;cases this
   |some x=>
    rw[hj'] at this
    simp only[Option.map_some,Option.some.injEq] at this
    simp[this],h1,h4⟩
 rw[hlen]
 exact(h:Ow P w0 l.toArray (.sof R is ts) l' f L N) listed.toArray hF (fun t ht=>h5 t ht) w hw
end
def CutO {G:Type} (M:List Nat) (S:G→List (Nat×Value)) (H:G→zb_) (J:G→Prop) (f f':Fr) (L':zb_):Prop:=
 ∃g,J g∧L'=H g∧f'=pin (qE_ (vW_ f') M 0 f) (S g)
theorem CutO.mk {G:Type} {M:List Nat} {S:G→List (Nat×Value)} {H:G→zb_} {J:G→Prop} {f f':Fr} {L':zb_} (g:G) (hJ:J g) (hL:L'=H g) (hf:f'=pin (qE_ (vW_ f') M 0 f) (S g)):CutO M S H J f f' L':=⟨g,hJ,hL,hf⟩
theorem Cw.cutO {P:Program} {w0:World} {x y:Code} {f:Fr} {L:zb_} {K:xp_} {G:Type} (M:List Nat) (S:G→List (Nat×Value)) (H:G→zb_) (J:G→Prop) (h1:Cw P w0 x f L (k2_ (CutO M S H J f) K))
  (h2: ∀ (g:G) (j:Nat→Value),J g→Cw P w0 y (pin (qE_ j M 0 f) (S g)) (H g) K):Cw P w0 (.seq x y) f L K:=by
 refine Cw.seq (h1.mono fun e f' L' k=> ?_)
 cases e with
 |normal=>
  obtain⟨g,hJ,rfl,hf⟩:=k
  have:=h2 g (vW_ f') hJ
  rw[←hf] at this
  exact this
 |_=>exact k
end Go.Sx
section
open Go Go.Proofs Go.Sx Go.StP Go.Flo
namespace Go.Proofs
set_option maxRecDepth 10000
set_option maxHeartbeats 400000
set_option linter.unusedSimpArgs false
def pkO (v0 v1 v2 v3:Value):Obj:= .cells #[v0,v1,v2,v3] 70 (0,0)
theorem K2_ (v0 v1 v2 v3:Value) (n:Nat):zl_ (some (false,n)) (some (pkO v0 v1 v2 v3)) 0=some v0:=(rfl)
theorem ad8_ (v0 v1 v2 v3:Value) (n:Nat):zl_ (some (false,n)) (some (pkO v0 v1 v2 v3)) 1=some v1:=(rfl)
theorem aed_ (v0 v1 v2 v3:Value) (n:Nat):zl_ (some (false,n)) (some (pkO v0 v1 v2 v3)) 2=some v2:=(rfl)
theorem ad7_ (v0 v1 v2 v3:Value) (n:Nat):zl_ (some (false,n)) (some (pkO v0 v1 v2 v3)) 3=some v3:=(rfl)
theorem Jq_ (v0 v1 v2 v3 q:Value) (a:Bool) (hq:Value.oneCell' q=true∧q.cells= #[q]):zn_ (some (a,1)) (some (pkO v0 v1 v2 v3)) 2 q=some (pkO v0 v1 q v3):=
 qt_ [v0,v1] [v2] [q] [v3] a _ 70 rfl rfl hq.2 rfl (by simp[hq.1])
theorem QN_ (v0 v1 v2 v3 q:Value) (a:Bool) (hq:Value.oneCell' q=true∧q.cells= #[q]):zn_ (some (a,1)) (some (pkO v0 v1 v2 v3)) 3 q=some (pkO v0 v1 v2 q):=
 qt_ [v0,v1,v2] [v3] [q] [] a _ 70 rfl rfl hq.2 rfl (by simp[hq.1])
theorem wG_ {s:List UInt8} {a:Nat} {most:Int} (ha:a≤s.length) (h: (zs_ s a 0 most).2.2=0): (zs_ s a 0 most).2.1≤a+6:=by
 have hl:=qh_ (e:=0) (most:=most) ha
 obtain⟨n,-,hb,-,hd⟩:=vG_ h
 have h6:=j6_ 6 n (by omega) (by omega)
 have:=congrArg List.length hd
 simp only[List.length_drop,List.length_append] at this
 omega
theorem akP_ {d:List UInt8} {a:Nat} (ha:a≤d.length) (h: (pcR d a).2.2=0): (pcR d a).2.1≤a+4111:=by
 have hl:=qh_ (s:=d) (a:=a) (e:=0) (most:=8199) ha
 have hm:=q4_ (s:=d) (a:=a) (e:=0) (most:=8199) (by omega)
 have hz: (zs_ d a 0 8199).2.2=0:=by
  by_cases he: (zs_ d a 0 8199).2.2=0
  ·exact he
  ·unfold pcR at h
   split at h
   ·have:=JD_ (s:=d) (a:=(zs_ d a 0 8199).2.1) (most:=4099) he
    simp only[this] at h
    exact absurd h he
   ·have:=Ky_ (s:=d) (a:=(zs_ d a 0 8199).2.1) (n:=(zs_ d a 0 8199).1 / 2) he
    simp only[this] at h
    exact absurd h he
 have h1:=wG_ ha hz
 unfold pcR at h ⊢
 split
 ·rename_i hc
  rw[if_pos hc] at h
  simp only at h ⊢
  rw[hz] at h ⊢
  have:=wG_ hl.2 h
  omega
 ·rename_i hc
  rw[if_neg hc] at h
  simp only at h ⊢
  rw[hz] at h ⊢
  unfold jp_ at h ⊢
  rw[if_neg (by simp)] at h ⊢
  split at h
  ·cases h
  ·rename_i h2
   rw[if_neg h2]
   split at h
   ·cases h
   ·rename_i h3
    rw[if_neg h3]
    simp only
    omega
theorem aec_ {d:List UInt8}: ∀ (k a:Nat),d.length - a≤k→a≤d.length→(pcs d a).2.2=0→(pcs d a).2.1≤a+ (pcs d a).1.length*4111
 |k,a,hk,ha,h=>by
  by_cases hlt:a<d.length
  ·by_cases he: (pcR d a).2.2=0
   ·have hu:=X4_ ha he
    have hl:=aeB_ ha
    have hs:=akP_ ha he
    rw[aeA_ hlt he] at h ⊢
    cases k with
    |zero=>omega
    |succ k=>
     have:=aec_ k _ (by omega) hl.2 h
     simp only[List.length_cons]
     omega
   ·rw[KX_ hlt he] at h
    exact absurd h he
  ·rw[adR_ hlt];simp
theorem ae8_ {d:List UInt8} {p:Nat×List PcL} (h:ke_ d=some p):d.length≤17000000:=by
 unfold ke_ at h
 split at h
 ·cases h
 ·rename_i h1
  split at h
  ·cases h
  ·rename_i h2
   split at h
   ·rename_i h3
    have l1:=qh_ (s:=d) (a:=0) (e:=0) (most:=4099) (Nat.zero_le _)
    have l2:=qh_ (s:=d) (a:=(zs_ d 0 0 4099).2.1) (e:=(zs_ d 0 0 4099).2.2) (most:=4099) l1.2
    have e1: (zs_ d 0 0 4099).2.2=0:=Decidable.byContradiction fun hn=>by rw[JD_ hn] at h1;exact h1 hn
    have s1:=wG_ (Nat.zero_le _) e1
    have s2: (zs_ d (zs_ d 0 0 4099).2.1 (zs_ d 0 0 4099).2.2 4099).2.1≤ (zs_ d 0 0 4099).2.1+6:=by
     rw[e1] at h1 ⊢
     exact wG_ l1.2 (by omega)
    obtain⟨-,-,-,-,-,hc⟩:=Zq_ h3
    have s3:=aec_ _ _ (Nat.le_refl _) l2.2 (by omega)
    have s4:=am0_ _ _ (Nat.le_refl _) l2.2 (by omega)
    have: (pcs d (zs_ d (zs_ d 0 0 4099).2.1 (zs_ d 0 0 4099).2.2 4099).2.1).1.length*4111≤4099*4111:=Nat.mul_le_mul_right _ hc
    omega
   ·cases h
theorem agq_ {b d:List UInt8} (_h: (xi_ b d).2=0): (xi_ b d).1.length≤4099:=by
 unfold xi_
 split
 ·simp
 ·rename_i p hp
  split
  ·simp
  ·rename_i hb
   obtain⟨m,hm⟩:=Kt_ hp
   rw[show p.1=b.length by omega] at hm
   have hk:kO_ (b.length:Nat) p.2=(((wg_ (b.length:Nat) p.2:Nat):Int),(0:Int)):=by
    unfold kO_ at hm ⊢
    split at hm
    ·cases hm
    ·rename_i h1
     rw[if_neg h1]
     split at hm
     ·cases hm
     ·rename_i h2
      rw[if_neg h2]
      split at hm
      ·cases hm
      ·rename_i h3;rw[if_neg h3]
   obtain⟨-,-,h1,h2,-⟩:=Zq_ hk
   show(J5_ b p.2).length≤4099
   rw[w4_ h1]
   exact h2
theorem agT_ {l:List PartL} {a:Int} {s:List UInt8} (h:partV l a= .ok s):s.length≤4099:=by
 unfold partV at h
 cases hp:jZ_ l a with
 |error e=>rw[hp] at h;cases h
 |ok p=>
  rw[hp] at h
  change w5_ l p= .ok s at h
  cases p with
  |nil=>cases h;simp
  |cons x p=>
   unfold w5_ at h
   cases hf:w5_ l p with
   |error e=>rw[hf] at h;cases h
   |ok t=>
    rw[hf] at h
    change(if(jD_ (l.getD x z6_) t).2=0 then _ else _)=_ at h
    split at h
    ·rename_i h0
     cases h
     unfold jD_ at h0 ⊢
     split
     ·rename_i hd;rw[if_pos hd] at h0;exact agq_ h0
     ·rename_i hd
      split
      ·simp
      ·show(l.getD x z6_).x.length≤4099;omega
    ·cases h
theorem aeM_ {l:List PartL} {ts:List (List UInt8)} (h:JB_ l= .ok ts):ts.length=l.length∧l.length≤200∧ ∀k,k<ts.length→(ts.getD k []).length≤4099:=by
 unfold JB_ at h
 split at h
 ·cases h
 ·have:=wN_ _ _ h
  exact⟨this,by omega,fun k hk=>agT_ (vE_ _ _ h k (by omega))⟩
theorem anO_ {D:zb_} {E:TypeId} {v:Value} {l:List (List UInt8)} (h:GrI D E 1 v l.length (l.map V0_).flatten) (hn: (keys D).Nodup):l.length=0∨ ∃b c rest,v=vsl b 0 l.length c∧b∈keys D∧Sx.look D b=some (J7_ V0_ E rest l):=by
 obtain⟨X,hX,h| ⟨h0,-⟩⟩:=h
 ·rcases h.inv with⟨-,h0,-⟩ | ⟨b,c,rest,rfl,hl,h1,h2,h3,h4⟩
  ·exact .inl h0
  ·exact .inr ⟨b,c,rest,rfl,List.mem_map_of_mem (f:=Prod.fst) (hX _ (zw_ hl)),zF_ hn (hX _ (zw_ hl))⟩
 ·exact .inl h0
theorem ak9_ {E:TypeId} {rest:List Value} {l:List (List UInt8)} (n i:Nat) (hi:i<l.length):zl_ (some (false,n)) (some (J7_ V0_ E rest l)) i=some (vs (l.getD i [])):=by
 unfold J7_ zl_
 have e: (l.map V0_).flatten=l.map vs:=by
  clear hi
  induction l with
  |nil=>rfl
  |cons a l ih=>rw[List.map_cons,List.flatten_cons,List.map_cons,ih];rfl
 simp only[e]
 rw[List.getElem?_toArray,List.getElem?_append_left (by simpa using hi),List.getElem?_map,List.getElem?_eq_getElem hi,List.getD_eq_getElem?_getD,List.getElem?_eq_getElem hi]
 rfl
theorem wp_ {D:zb_} {E:TypeId} {m n:Nat} {v:Value} {cs:List Value} (h:GrI D E m v n cs) (x:Bool×Nat):wt_ (.sl x) v=some (vi n):=by
 obtain⟨X,-,h⟩:=h;exact h.len x
def adx_ (l:List PartL) (bp:Nat) (v0 v1:Value) (v:Value) (D:zb_):Prop:=match fillV l with
 |some p=>v= .bool true∧ ∃x2 x3 D',D=(bp,pkO v0 v1 x2 x3)::D'∧GrI D' 41 32 x2 p.1.length (p.1.map kq_).flatten∧GrI D' 26 2 x3 p.2.length (p.2.map obC).flatten
 |none=>v= .bool false
theorem aoc_ {w:World} {a:Nat} {x:Obj} (h:w.heap[a]? =some x): ∀p:Nat×Obj,p∈ [(a,x)]→w.heap[p.1]? =some p.2:=by
 intro p hp
 rw[List.mem_singleton] at hp
 subst hp
 exact h
theorem an7_ {w:World} {b:Nat} {o o':Obj} {D:zb_} (h:New w.heap.size D):Ext w [(b,o)] (D++ [(b,o')]):=⟨fun c hc=>by
 rw[ze_] at hc
 rcases List.mem_append.1 hc with hc|hc
 ·exact .inr (h.le c hc)
 ·exact .inl hc,fun c hc=>by rw[ze_];exact List.mem_append_right _ hc⟩
theorem alt_ {w:World} {b:Nat} {o o':Obj} {D:zb_} (h:New w.heap.size D):Ext w [(b,o)] ((b,o')::D):=⟨fun c hc=>by
 rcases List.mem_cons.1 hc with hc|hc
 ·exact .inl (by rw[hc];exact List.mem_cons_self)
 ·exact .inr (h.le c hc),fun c hc=>by
 rcases List.mem_cons.1 hc with hc|hc
 ·exact List.mem_cons.2 (.inl hc)
 ·cases hc⟩
theorem abd_ {l:List PartL} {e:Int}: ∀k,x2_ l k= .error e→e≠0
 |0,h=>by cases h
 |k+1,h=>by
  unfold x2_ at h
  cases hg:x2_ l k with
  |error x=>rw[hg] at h;cases h;exact abd_ k hg
  |ok us=>
   rw[hg] at h
   change(partV l (k:Nat)).map (fun s=>us++ [s])=_ at h
   cases hp:partV l (k:Nat) with
   |error x=>rw[hp] at h;cases h;exact abc_ hp
   |ok s=>rw[hp] at h;cases h
theorem akX_ {l:List PartL} {e:Int} (h:JB_ l= .error e):e≠0:=by
 unfold JB_ at h
 split at h
 ·cases h;decide
 ·exact abd_ _ h
theorem abA_ (s:List UInt8) (w:World) (hs:s.length<100000):Rets Tryz.prog 54 #[vs s] w (fun v D=>v= .tuple #[obV (zM_ s).k (zM_ s).t,vi (if frOk s then 0 else 2)]∧D= []):=afo_ s w (by omega)
structure FiG where
 k:Nat
 ids:List IdL
 os:List ObL
 x2:Value
 x3:Value
 D2:zb_
 D3:zb_
 DG:zb_
theorem ag5_ {l:List PartL} {e:Int} (h:JB_ l= .error e):fillV l=none:=by unfold fillV;rw[h]
theorem aef_ {l:List PartL} {ts:List (List UInt8)} {k:Nat} {p:List IdL×List ObL} (h:JB_ l= .ok ts) (hk:k<ts.length) (hp:jo_ (ts.take k) [] []=some p) (hn: ¬ (frOk (ts.getD k [])=true∧(p.1.any fun y=>(xq_ (ts.getD k [])).l==y.l)=false)):fillV l=none:=by
 unfold fillV
 rw[h]
 show jo_ ts [] []=none
 have e:ts=ts.take (k+1)++ts.drop (k+1):=(List.take_append_drop _ _).symm
 rw[e]
 refine adz_ ?_
 rw[take_snoc (z:= []) hk,Qr_ hp,if_neg hn]
set_option linter.defProp false
def qv_:=And.intro (And.intro (And.intro (@zA_) (And.intro (@zz_) (@K2_))) (And.intro (@ad8_) (And.intro (@aed_) (@ad7_)))) (And.intro (And.intro (@Sx.tup2_0) (And.intro (@Sx.tup2_1) (@ve_))) (And.intro (And.intro (@xW_) (@xQ_)) (And.intro (@kr_) (@wL_))))
theorem aaN_ (bp:Nat) (v0 v1:Value) (l:List PartL) (w:World) (hv:v8_ w v0 l) (hG:GlobE w) (hb:BndL l) (hl:l.length<1000000) (ho:w.heap[bp]? =some (pkO v0 v1 (.slice none 0 0) (.slice none 0 0)))
  (hv0:slB v0≠some bp) (hgb:3<bp):
  Rets Tryz.prog 29 #[vp bp 0] w (XS w [(bp,pkO v0 v1 (.slice none 0 0) (.slice none 0 0))] (adx_ l bp v0 v1)):=by
 have hbp:bp<w.heap.size:=(Array.getElem?_eq_some_iff.1 ho).1
 refine Rets.enterX Tryz.func29 rfl (rs:= [.tmp 2]) Tryz.results29 Tryz.ntmps29 (aoc_ ho) (by simp[keys]) ?_
 refine kf ?_
 first|with_reducible refine ks [] @qv_ ?_|refine kp @qv_ ?_
 refine Ow.callX (Y:= [(bp,pkO v0 v1 (.slice none 0 0) (.slice none 0 0))]) (by simp) rfl rfl Tryz.call53 (fun w' hw' hX hn=>ajv_ v0 l w' (hv.old hw' fun b hbb _=>by simp only[keys,List.map_cons,List.map_nil,List.mem_singleton];rintro rfl;exact hv0 hbb) hb hl) (fun v1' D1 hC1 hS1=> ?_)
 have hN1:New w.heap.size D1:=New.of_le fun c hc=>by
  rcases hC1.new c hc with h|h
  ·cases h
  ·exact h.2
 unfold AllS at hS1
 cases ha:JB_ l with
 |error e=>
  rw[ha] at hS1
  have hS1':v1'= .tuple #[.slice none 0 0,vi e]:=hS1
  subst hS1'
  have e0: (e !=0)=true:=bne_iff_ne.2 (akX_ ha)
  refine ko @qv_ ?_
  first|with_reducible refine ks [] (And.intro @qv_ @e0) ?_|refine kp (And.intro @qv_ @e0) ?_
  refine⟨_,(ke @qv_), ?_⟩
  refine⟨an7_ hN1, ?_⟩
  unfold adx_
  rw[ag5_ ha]
  rfl
 |ok ts=>
  rw[ha] at hS1
  obtain⟨x,rfl,hGT⟩:=hS1
  obtain⟨hlen,hl2,htl⟩:=aeM_ ha
  have lnT:=wp_ hGT
  have e0: ((0:Int) !=0)=false:=rfl
  refine ko @qv_ ?_
  first|with_reducible refine ks [] (And.intro @qv_ (And.intro @e0 (@lnT))) ?_|refine kp (And.intro @qv_ (And.intro @e0 (@lnT))) ?_
  refine Cw.world fun ww hww=> ?_
  have hnd:=hww.nodup
  clear hww ww
  rw[ze_,List.nodup_append] at hnd
  refine Cw.permL (M:=(bp,pkO v0 v1 (.slice none 0 0) (.slice none 0 0)):: (D1++ ([]++ ([]++ [])))) (by classical exact List.perm_iff_count.2 fun a=>by simp only[List.count_append,List.count_cons,List.count_nil]<;>omega) ?_
  refine Cw.loopG (G:=FiG) [24,25,26,6,28,29,27,30,31,7,8,33,34,32,35,36,9,10,37,38,39,40,41,42,43,44,45,46,2,47,48,49,50,51,52,53,54,55,56,57,58,59,60,61,62,63,64,65,66,67,23] (fun g=> [(23,vi g.k)]) (fun g=>(bp,pkO v0 v1 g.x2 g.x3):: (D1++ (g.D2++ (g.D3++g.DG)))) (fun g=>g.k≤ts.length∧jo_ (ts.take g.k) [] []=some (g.ids,g.os)∧New w.heap.size g.D2∧New w.heap.size g.D3∧New w.heap.size g.DG∧Gr g.D2 41 32 g.x2 g.ids.length (g.ids.map kq_).flatten∧Gr g.D3 26 2 g.x3 g.os.length (g.os.map obC).flatten) (fun g=>ts.length - g.k) ⟨0,[],[], .slice none 0 0, .slice none 0 0,[],[],[]⟩ rfl rfl ?_ ?_
  ·exact⟨Nat.zero_le _,rfl,trivial,trivial,trivial,Gr.nl,Gr.nl⟩
  intro g j hg
  refine kv ?_
  obtain⟨k,ids,os,x2,x3,D2,D3,DG⟩:=g
  simp only at hg ⊢
  obtain⟨hk,hfg,hN2,hN3,hNG,hG2,hG3⟩:=hg
  have hNr:New w.heap.size (D1++ (D2++ (D3++DG))):=hN1.app (hN2.app (hN3.app hNG))
  have hfl:=Km_ _ _ _ _ hfg
  rw[List.length_take,Nat.min_eq_left hk,List.length_nil,List.length_nil,Nat.zero_add] at hfl
  simp only at hfl
  by_cases hlt:k<ts.length
  ·obtain h0| ⟨bt,ct,rest,rfl,hbt,hlk⟩:=anO_ hGT hnd.1
   ·omega
   have hd:decide ((k:Int)< (ts.length:Int))=true:=decide_eq_true (by omega)
   have hbtn:bp≠bt:=by have:=hN1.le bt hbt;omega
   have rdt:zk_ w ((bp,pkO v0 v1 x2 x3):: (D1++ (D2++ (D3++DG)))) bt=some (J7_ V0_ 9 rest ts):=zt_ (by rw[qx_ _ _ _ _ hbtn];exact qD_ hlk)
   have ldt:=ak9_ (E:=9) (rest:=rest) 1 k hlt
   have hsl:=htl k hlt
   first|with_reducible refine ks [8,12] (And.intro @qv_ (And.intro @hd (And.intro @rdt (@ldt)))) ?_|refine kp (And.intro @qv_ (And.intro @hd (And.intro @rdt (@ldt)))) ?_
   generalize hs:ts.getD k []=s at*
   refine Ow.callFV rfl Tryz.call54 (fun w' hw'=>abA_ s w' (by omega)) ?_
   refine ko @qv_ ?_
   refine Ow.alloc rfl rfl J6_ fun b7 hb7 hw7=> ?_
   simp only[za_,List.nil_append,List.cons_append]
   have hbp7:bp<b7:=zh_ hb7 (by simp[keys])
   refine Ow.permL (M:=(b7, .cells #[vi 0,vs []] 26 (0,0)):: (bp,pkO v0 v1 x2 x3):: (D1++ (D2++ (D3++DG)))) (by classical exact List.perm_iff_count.2 fun a=>by simp only[List.count_append,List.count_cons,List.count_nil]<;>omega) ?_
   refine ko @qv_ ?_
   first|with_reducible refine ks [] @qv_ ?_|refine kp @qv_ ?_
   refine Ow.callFV rfl Tryz.call16 (fun w' hw'=>VD_ (zM_ s).k (zM_ s).t w' (hG.of hw' (by intro b hb;simp only[keys,List.map_cons,List.mem_cons] at hb;rcases hb with rfl|rfl|hb<;>first|omega| (have:=hNr.le b hb;omega)))) ?_
   rw[show idV (zM_ s).k (zM_ s).t=xq_ s from rfl]
   have hil:=(xq_ s).h
   have hi0:=id0.h
   refine ko @qv_ ?_
   refine Ow.alloc rfl rfl wC_ fun b9 hb9 hw9=> ?_
   simp only[za_,List.nil_append,List.cons_append]
   have hb79:b7<b9:=zh_ hb9 (by simp[keys])
   refine Ow.permL (M:=(b9, .cells (a8 id0.l) 41 (0,0)):: (b7, .cells #[vi (zM_ s).k,vs (zM_ s).t] 26 (0,0)):: (bp,pkO v0 v1 x2 x3):: (D1++ (D2++ (D3++DG)))) (by classical exact List.perm_iff_count.2 fun a=>by simp only[List.count_append,List.count_cons,List.count_nil]<;>omega) ?_
   refine ko @qv_ ?_
   obtain⟨O7,hO7⟩: ∃O,O=Obj.cells #[vi (zM_ s).k,vs (zM_ s).t] 26 (0,0):=⟨_,rfl⟩
   obtain⟨O9,hO9⟩: ∃O,O=Obj.cells (a8 (xq_ s).l) 41 (0,0):=⟨_,rfl⟩
   have hEx: ∀M,New w.heap.size M→Ext w [(bp,pkO v0 v1 (.slice none 0 0) (.slice none 0 0))] ((b9,O9):: (b7,O7):: (bp,pkO v0 v1 x2 x3)::M):=fun M hM=>⟨fun c hc=>by
    simp only[keys,List.map_cons,List.mem_cons,List.map_nil,List.not_mem_nil,or_false] at hc ⊢
    rcases hc with h|h|h|h
    ·exact .inr (by omega)
    ·exact .inr (by omega)
    ·exact .inl h
    ·exact .inr (hM.le c h),fun c hc=>by
    simp only[keys,List.map_cons,List.mem_cons,List.map_nil,List.not_mem_nil,or_false] at hc ⊢
    exact .inr (.inr (.inl hc))⟩
   cases hfr:frOk s with
   |false=>
    rw[show(if(false:Bool)=true then(0:Int) else 2)=2 from rfl]
    have e1: ((2:Int) !=0)=true:=rfl
    have hno:fillV l=none:=aef_ ha hlt hfg (by rw[hs,hfr];rintro⟨h,-⟩;cases h)
    refine Cw.regionS [bp,b9] [0,1,2,3,4,5,6,7,8,9] [] (by kernel_rfl) (by kernel_rfl) (by kernel_rfl) ?_
    refine kya ?_
    refine kq (And.intro @qv_ @e1) ?_
    rw[←hO7,←hO9]
    first|with_reducible refine ks [] @qv_ ?_|refine kp @qv_ ?_
    refine⟨_,(ke @qv_), ?_⟩
    refine⟨hEx _ hNr, ?_⟩
    unfold adx_
    rw[hno]
    rfl
   |true=>
    rw[show(if(true:Bool)=true then(0:Int) else 2)=0 from rfl]
    have e1: ((0:Int) !=0)=false:=rfl
    refine Cw.regionS [bp,b9] [0,1,2,3,4,5,6,7,8,9] [] (by kernel_rfl) (by kernel_rfl) (by kernel_rfl) ?_
    refine kya ?_
    refine kq (And.intro @qv_ @e1) ?_
    refine Ow.callFV rfl Tryz.call55 (fun w' hw'=>k0_ x2 ids (xq_ s) w' (hG2.slM (fun b o hm=>hw'.has b o (by simp only[List.mem_cons,List.mem_append];exact .inr (.inr (.inr (.inr (.inl hm)))))) rfl rfl qT_) (by omega)) ?_
    cases hct: (ids.any fun y=>(xq_ s).l==y.l) with
    |true=>
     have hno:fillV l=none:=aef_ ha hlt hfg (by rw[hs];rintro⟨-,h⟩;rw[hct] at h;cases h)
     refine kq @qv_ ?_
     rw[←hO7,←hO9]
     first|with_reducible refine ks [] @qv_ ?_|refine kp @qv_ ?_
     refine⟨_,(ke @qv_), ?_⟩
     refine⟨hEx _ hNr, ?_⟩
     unfold adx_
     rw[hno]
     rfl
    |false=>
     refine kq @qv_ ?_
     have hfg':jo_ (ts.take (k+1)) [] []=some (ids++ [xq_ s],os++ [zM_ s]):=by rw[take_snoc (z:= []) hlt,hs,Qr_ hfg,if_pos ⟨hfr,hct⟩]
     refine Cw.regionG [bp,b7,b9] [18,21] 22 (by kernel_rfl) rfl ?_
     refine kyc ?_
     refine OwG.run [0,1,2,3,4,5,6,9,10,11,12,13] [true,true,true,true,true,true,true,false,false,true,true,true,true,true,false,false,false,false,false,false,false,false] 10 rfl (by kernel_rfl) (by kernel_rfl) fun k hk=> ?_
     refine kya ?_
     refine kp (And.intro @qv_ @Md.next_sofnil) ?_
     (with_reducible refine hk _ _ _ ?_);clear hk k
     rw[←hO7,←hO9]
     refine OwG.two 7 14 _ _ (by kernel_rfl) rfl rfl ?_ ?_
     ·refine Ow.buildSlice (e:=41) (a8 (xq_ s).l) rfl rfl (qn_ (cs:=(xq_ s).l.map v8) Tryz.underlying68 Tryz.ag41 wC_ (by decide) (by simp[(xq_ s).h])) fun ba hba hwa=> ?_
      with_reducible refine Ow.nil ?_
      refine⟨qk_ (by simp[keys]), ?_⟩
      refine kyb ?_
      refine OwG.two 8 14 _ _ (by kernel_rfl) rfl rfl ?_ ?_
      ·refine Ow.permL (M:=D2++ ((b9,O9):: (b7,O7):: (bp,pkO v0 v1 x2 x3):: (D1++ (D3++ (DG++ [(ba, .cells (a8 (xq_ s).l) 41 (0,0))]))))) (by classical exact List.perm_iff_count.2 fun a=>by simp only[List.count_append,List.count_cons,List.count_nil]<;>omega) ?_
       refine Ow.appendXG (e:=41) (k:=1) (new:=kq_ (xq_ s)) (X:=D2) x2 rfl rfl rfl rfl Tryz.underlying68 Tryz.ag41 (by kernel_rfl) wC_ (by rw[za_,x5_,id0.h]) Tryz.underlying68 (by intro k h;cases h) hG2 (fun w' hw'=>AppX.one1 (by rw[KI_];exact hw'.has ba (.cells (a8 (xq_ s).l) 41 (0,0)) (by simp)) (qT_ _) (kb_ _)) (by omega) (fun B4 v4 D4 hA4 hB4 hG4 hk41 hk42 hlk4=> ?_)
       have hN4:New w.heap.size D4:=New.of_le fun q hq=>by
        rcases hk42 q hq with h|h
        ·exact hN2.le q h
        ·omega
       refine Ow.permL (M:=(b9,O9):: (b7,O7):: (bp,pkO v0 v1 x2 x3):: (D1++ (D4++ (D3++ (DG++ [(ba, .cells (a8 (xq_ s).l) 41 (0,0))]))))) (by classical exact List.perm_iff_count.2 fun a=>by simp only[List.count_append,List.count_cons,List.count_nil]<;>omega) ?_
       with_reducible refine Ow.nil ?_
       refine⟨(fun r hr=>by simp only[List.mem_cons,List.not_mem_nil,or_false] at hr;rcases hr with rfl|rfl|rfl<;>simp(disch:=omega) only[List.cons_append,List.nil_append,zr_,zm_]), ?_⟩
       refine kyb ?_
       refine OwG.one 14 _ (by kernel_rfl) rfl ?_
       refine Ow.buildSlice (e:=26) #[vi (zM_ s).k,vs (zM_ s).t] rfl rfl (qn_ (cs:=obC (zM_ s)) Tryz.underlying22 Tryz.ag26 J6_ (by decide) rfl) fun bc hbc hwc=> ?_
       with_reducible refine Ow.nil ?_
       refine⟨qk_ (by simp[keys]), ?_⟩
       refine kyb ?_
       refine OwG.permL (M:=(b9,O9):: (b7,O7):: (bp,pkO v0 v1 x2 x3):: (D1++ (D4++ (D3++ (DG++ [(ba, .cells (a8 (xq_ s).l) 41 (0,0)),(bc, .cells #[vi (zM_ s).k,vs (zM_ s).t] 26 (0,0))]))))) (by classical exact List.perm_iff_count.2 fun a=>by simp only[List.count_append,List.count_cons,List.count_nil]<;>omega) (fun r hr=>by simp only[List.mem_cons,List.not_mem_nil,or_false] at hr;rcases hr with rfl|rfl|rfl<;>simp(disch:=omega) only[List.cons_append,List.nil_append,zr_,zm_]) ?_
       refine OwG.rest [15,16,17,18,19,20,21] rfl (by kernel_rfl) (by kernel_rfl) ?_
       refine kya ?_
       refine Ow.softA ?_
       refine Ow.permL (M:=D3++ ((b9,O9):: (b7,O7):: (bp,pkO v0 v1 x2 x3):: (D1++ (D4++ (DG++ [(ba, .cells (a8 (xq_ s).l) 41 (0,0)),(bc, .cells #[vi (zM_ s).k,vs (zM_ s).t] 26 (0,0))]))))) (by classical exact List.perm_iff_count.2 fun a=>by simp only[List.count_append,List.count_cons,List.count_nil]<;>omega) ?_
       refine Ow.appendXG (e:=26) (k:=1) (new:=obC (zM_ s)) (X:=D3) x3 rfl rfl rfl rfl Tryz.underlying22 Tryz.ag26 (by kernel_rfl) J6_ (by rw[obV,za_];rfl) Tryz.underlying22 (by intro k h;cases h) hG3 (fun w' hw'=>AppX.one1 (hw'.has bc (.cells (obC (zM_ s)).toArray 26 (0,0)) (by simp[obC])) (Vx_ _) (ado_ _)) (by omega) (fun B5 v5 D5 hA5 hB5 hG5 hk51 hk52 hlk5=> ?_)
       have hN5:New w.heap.size D5:=New.of_le fun q hq=>by
        rcases hk52 q hq with h|h
        ·exact hN3.le q h
        ·omega
       refine Ow.permL (M:=(b9,O9):: (b7,O7):: (bp,pkO v0 v1 x2 x3):: (D1++ (D4++ (D5++ (DG++ [(ba, .cells (a8 (xq_ s).l) 41 (0,0)),(bc, .cells #[vi (zM_ s).k,vs (zM_ s).t] 26 (0,0))]))))) (by classical exact List.perm_iff_count.2 fun a=>by simp only[List.count_append,List.count_cons,List.count_nil]<;>omega) ?_
       with_reducible refine Ow.nil ?_
       refine⟨(fun r hr=>by simp only[List.mem_cons,List.not_mem_nil,or_false] at hr;rcases hr with rfl|rfl|rfl<;>simp(disch:=omega) only[zr_,zm_]), ?_⟩
       have st4: ∀a,zn_ (some (a,1)) (some (pkO v0 v1 x2 x3)) 2 v4=some (pkO v0 v1 v4 x3):=fun a=>Jq_ v0 v1 x2 x3 v4 a hG4.cell
       have st5: ∀a,zn_ (some (a,1)) (some (pkO v0 v1 v4 x3)) 3 v5=some (pkO v0 v1 v4 v5):=fun a=>QN_ v0 v1 v4 x3 v5 a hG5.cell
       refine kq @qv_ ?_
       refine Ow.store rfl rfl rfl (ke (And.intro @qv_ @st4)) ?_
       refine ko (And.intro @qv_ @st5) ?_
       refine Cw.permL (M:=(bp,pkO v0 v1 v4 v5):: (D1++ (D4++ (D5++ ((b9,O9):: (b7,O7):: (DG++ [(ba, .cells (a8 (xq_ s).l) 41 (0,0)),(bc, .cells #[vi (zM_ s).k,vs (zM_ s).t] 26 (0,0))])))))) (by classical exact List.perm_iff_count.2 fun a=>by simp only[List.count_append,List.count_cons,List.count_nil]<;>omega) ?_
       first|with_reducible refine ks [] @qv_ ?_|refine kp @qv_ ?_
       refine Again.mk ⟨k+1,ids++ [xq_ s],os++ [zM_ s],v4,v5,D4,D5,(b9,O9):: (b7,O7):: (DG++ [(ba, .cells (a8 (xq_ s).l) 41 (0,0)),(bc, .cells #[vi (zM_ s).k,vs (zM_ s).t] 26 (0,0))])⟩ (by show ts.length - (k+1)<ts.length - k;omega) ⟨hlt,hfg',hN4,hN5,⟨by omega,by omega,hNG.app ⟨hwa,hwc,trivial⟩⟩,by simpa using hG4,by simpa using hG5⟩ rfl rfl
      ·refine Ow.buildSlice (e:=26) #[vi (zM_ s).k,vs (zM_ s).t] rfl rfl (qn_ (cs:=obC (zM_ s)) Tryz.underlying22 Tryz.ag26 J6_ (by decide) rfl) fun bc hbc hwc=> ?_
       with_reducible refine Ow.nil ?_
       refine⟨qk_ (by simp[keys]), ?_⟩
       refine kyb ?_
       refine OwG.one 8 _ (by kernel_rfl) rfl ?_
       refine Ow.permL (M:=D2++ ((b9,O9):: (b7,O7):: (bp,pkO v0 v1 x2 x3):: (D1++ (D3++ (DG++ [(ba, .cells (a8 (xq_ s).l) 41 (0,0)),(bc, .cells #[vi (zM_ s).k,vs (zM_ s).t] 26 (0,0))]))))) (by classical exact List.perm_iff_count.2 fun a=>by simp only[List.count_append,List.count_cons,List.count_nil]<;>omega) ?_
       refine Ow.appendXG (e:=41) (k:=1) (new:=kq_ (xq_ s)) (X:=D2) x2 rfl rfl rfl rfl Tryz.underlying68 Tryz.ag41 (by kernel_rfl) wC_ (by rw[za_,x5_,id0.h]) Tryz.underlying68 (by intro k h;cases h) hG2 (fun w' hw'=>AppX.one1 (by rw[KI_];exact hw'.has ba (.cells (a8 (xq_ s).l) 41 (0,0)) (by simp)) (qT_ _) (kb_ _)) (by omega) (fun B4 v4 D4 hA4 hB4 hG4 hk41 hk42 hlk4=> ?_)
       have hN4:New w.heap.size D4:=New.of_le fun q hq=>by
        rcases hk42 q hq with h|h
        ·exact hN2.le q h
        ·omega
       refine Ow.permL (M:=(b9,O9):: (b7,O7):: (bp,pkO v0 v1 x2 x3):: (D1++ (D4++ (D3++ (DG++ [(ba, .cells (a8 (xq_ s).l) 41 (0,0)),(bc, .cells #[vi (zM_ s).k,vs (zM_ s).t] 26 (0,0))]))))) (by classical exact List.perm_iff_count.2 fun a=>by simp only[List.count_append,List.count_cons,List.count_nil]<;>omega) ?_
       with_reducible refine Ow.nil ?_
       refine⟨(fun r hr=>by simp only[List.mem_cons,List.not_mem_nil,or_false] at hr;rcases hr with rfl|rfl|rfl<;>simp(disch:=omega) only[List.cons_append,List.nil_append,zr_,zm_]), ?_⟩
       refine kyb ?_
       refine OwG.permL (M:=(b9,O9):: (b7,O7):: (bp,pkO v0 v1 x2 x3):: (D1++ (D4++ (D3++ (DG++ [(ba, .cells (a8 (xq_ s).l) 41 (0,0)),(bc, .cells #[vi (zM_ s).k,vs (zM_ s).t] 26 (0,0))]))))) (by classical exact List.perm_iff_count.2 fun a=>by simp only[List.count_append,List.count_cons,List.count_nil]<;>omega) (fun r hr=>by simp only[List.mem_cons,List.not_mem_nil,or_false] at hr;rcases hr with rfl|rfl|rfl<;>simp(disch:=omega) only[List.cons_append,List.nil_append,zr_,zm_]) ?_
       refine OwG.rest [15,16,17,18,19,20,21] rfl (by kernel_rfl) (by kernel_rfl) ?_
       refine kya ?_
       refine Ow.softA ?_
       refine Ow.permL (M:=D3++ ((b9,O9):: (b7,O7):: (bp,pkO v0 v1 x2 x3):: (D1++ (D4++ (DG++ [(ba, .cells (a8 (xq_ s).l) 41 (0,0)),(bc, .cells #[vi (zM_ s).k,vs (zM_ s).t] 26 (0,0))]))))) (by classical exact List.perm_iff_count.2 fun a=>by simp only[List.count_append,List.count_cons,List.count_nil]<;>omega) ?_
       refine Ow.appendXG (e:=26) (k:=1) (new:=obC (zM_ s)) (X:=D3) x3 rfl rfl rfl rfl Tryz.underlying22 Tryz.ag26 (by kernel_rfl) J6_ (by rw[obV,za_];rfl) Tryz.underlying22 (by intro k h;cases h) hG3 (fun w' hw'=>AppX.one1 (hw'.has bc (.cells (obC (zM_ s)).toArray 26 (0,0)) (by simp[obC])) (Vx_ _) (ado_ _)) (by omega) (fun B5 v5 D5 hA5 hB5 hG5 hk51 hk52 hlk5=> ?_)
       have hN5:New w.heap.size D5:=New.of_le fun q hq=>by
        rcases hk52 q hq with h|h
        ·exact hN3.le q h
        ·omega
       refine Ow.permL (M:=(b9,O9):: (b7,O7):: (bp,pkO v0 v1 x2 x3):: (D1++ (D4++ (D5++ (DG++ [(ba, .cells (a8 (xq_ s).l) 41 (0,0)),(bc, .cells #[vi (zM_ s).k,vs (zM_ s).t] 26 (0,0))]))))) (by classical exact List.perm_iff_count.2 fun a=>by simp only[List.count_append,List.count_cons,List.count_nil]<;>omega) ?_
       with_reducible refine Ow.nil ?_
       refine⟨(fun r hr=>by simp only[List.mem_cons,List.not_mem_nil,or_false] at hr;rcases hr with rfl|rfl|rfl<;>simp(disch:=omega) only[zr_,zm_]), ?_⟩
       have st4: ∀a,zn_ (some (a,1)) (some (pkO v0 v1 x2 x3)) 2 v4=some (pkO v0 v1 v4 x3):=fun a=>Jq_ v0 v1 x2 x3 v4 a hG4.cell
       have st5: ∀a,zn_ (some (a,1)) (some (pkO v0 v1 v4 x3)) 3 v5=some (pkO v0 v1 v4 v5):=fun a=>QN_ v0 v1 v4 x3 v5 a hG5.cell
       refine kq @qv_ ?_
       refine Ow.store rfl rfl rfl (ke (And.intro @qv_ @st4)) ?_
       refine ko (And.intro @qv_ @st5) ?_
       refine Cw.permL (M:=(bp,pkO v0 v1 v4 v5):: (D1++ (D4++ (D5++ ((b9,O9):: (b7,O7):: (DG++ [(ba, .cells (a8 (xq_ s).l) 41 (0,0)),(bc, .cells #[vi (zM_ s).k,vs (zM_ s).t] 26 (0,0))])))))) (by classical exact List.perm_iff_count.2 fun a=>by simp only[List.count_append,List.count_cons,List.count_nil]<;>omega) ?_
       first|with_reducible refine ks [] @qv_ ?_|refine kp @qv_ ?_
       refine Again.mk ⟨k+1,ids++ [xq_ s],os++ [zM_ s],v4,v5,D4,D5,(b9,O9):: (b7,O7):: (DG++ [(ba, .cells (a8 (xq_ s).l) 41 (0,0)),(bc, .cells #[vi (zM_ s).k,vs (zM_ s).t] 26 (0,0))])⟩ (by show ts.length - (k+1)<ts.length - k;omega) ⟨hlt,hfg',hN4,hN5,⟨by omega,by omega,hNG.app ⟨hwa,hwc,trivial⟩⟩,by simpa using hG4,by simpa using hG5⟩ rfl rfl
     ·refine Ow.buildSlice (e:=26) #[vi (zM_ s).k,vs (zM_ s).t] rfl rfl (qn_ (cs:=obC (zM_ s)) Tryz.underlying22 Tryz.ag26 J6_ (by decide) rfl) fun bc hbc hwc=> ?_
      with_reducible refine Ow.nil ?_
      refine⟨qk_ (by simp[keys]), ?_⟩
      refine kyb ?_
      refine OwG.one 7 _ (by kernel_rfl) rfl ?_
      refine Ow.buildSlice (e:=41) (a8 (xq_ s).l) rfl rfl (qn_ (cs:=(xq_ s).l.map v8) Tryz.underlying68 Tryz.ag41 wC_ (by decide) (by simp[(xq_ s).h])) fun ba hba hwa=> ?_
      with_reducible refine Ow.nil ?_
      refine⟨qk_ (by simp[keys]), ?_⟩
      refine kyb ?_
      refine OwG.one 8 _ (by kernel_rfl) rfl ?_
      refine Ow.permL (M:=D2++ ((b9,O9):: (b7,O7):: (bp,pkO v0 v1 x2 x3):: (D1++ (D3++ (DG++ [(ba, .cells (a8 (xq_ s).l) 41 (0,0)),(bc, .cells #[vi (zM_ s).k,vs (zM_ s).t] 26 (0,0))]))))) (by classical exact List.perm_iff_count.2 fun a=>by simp only[List.count_append,List.count_cons,List.count_nil]<;>omega) ?_
      refine Ow.appendXG (e:=41) (k:=1) (new:=kq_ (xq_ s)) (X:=D2) x2 rfl rfl rfl rfl Tryz.underlying68 Tryz.ag41 (by kernel_rfl) wC_ (by rw[za_,x5_,id0.h]) Tryz.underlying68 (by intro k h;cases h) hG2 (fun w' hw'=>AppX.one1 (by rw[KI_];exact hw'.has ba (.cells (a8 (xq_ s).l) 41 (0,0)) (by simp)) (qT_ _) (kb_ _)) (by omega) (fun B4 v4 D4 hA4 hB4 hG4 hk41 hk42 hlk4=> ?_)
      have hN4:New w.heap.size D4:=New.of_le fun q hq=>by
       rcases hk42 q hq with h|h
       ·exact hN2.le q h
       ·omega
      refine Ow.permL (M:=(b9,O9):: (b7,O7):: (bp,pkO v0 v1 x2 x3):: (D1++ (D4++ (D3++ (DG++ [(ba, .cells (a8 (xq_ s).l) 41 (0,0)),(bc, .cells #[vi (zM_ s).k,vs (zM_ s).t] 26 (0,0))]))))) (by classical exact List.perm_iff_count.2 fun a=>by simp only[List.count_append,List.count_cons,List.count_nil]<;>omega) ?_
      with_reducible refine Ow.nil ?_
      refine⟨(fun r hr=>by simp only[List.mem_cons,List.not_mem_nil,or_false] at hr;rcases hr with rfl|rfl|rfl<;>simp(disch:=omega) only[List.cons_append,List.nil_append,zr_,zm_]), ?_⟩
      refine kyb ?_
      refine OwG.permL (M:=(b9,O9):: (b7,O7):: (bp,pkO v0 v1 x2 x3):: (D1++ (D4++ (D3++ (DG++ [(ba, .cells (a8 (xq_ s).l) 41 (0,0)),(bc, .cells #[vi (zM_ s).k,vs (zM_ s).t] 26 (0,0))]))))) (by classical exact List.perm_iff_count.2 fun a=>by simp only[List.count_append,List.count_cons,List.count_nil]<;>omega) (fun r hr=>by simp only[List.mem_cons,List.not_mem_nil,or_false] at hr;rcases hr with rfl|rfl|rfl<;>simp(disch:=omega) only[List.cons_append,List.nil_append,zr_,zm_]) ?_
      refine OwG.rest [15,16,17,18,19,20,21] rfl (by kernel_rfl) (by kernel_rfl) ?_
      refine kya ?_
      refine Ow.softA ?_
      refine Ow.permL (M:=D3++ ((b9,O9):: (b7,O7):: (bp,pkO v0 v1 x2 x3):: (D1++ (D4++ (DG++ [(ba, .cells (a8 (xq_ s).l) 41 (0,0)),(bc, .cells #[vi (zM_ s).k,vs (zM_ s).t] 26 (0,0))]))))) (by classical exact List.perm_iff_count.2 fun a=>by simp only[List.count_append,List.count_cons,List.count_nil]<;>omega) ?_
      refine Ow.appendXG (e:=26) (k:=1) (new:=obC (zM_ s)) (X:=D3) x3 rfl rfl rfl rfl Tryz.underlying22 Tryz.ag26 (by kernel_rfl) J6_ (by rw[obV,za_];rfl) Tryz.underlying22 (by intro k h;cases h) hG3 (fun w' hw'=>AppX.one1 (hw'.has bc (.cells (obC (zM_ s)).toArray 26 (0,0)) (by simp[obC])) (Vx_ _) (ado_ _)) (by omega) (fun B5 v5 D5 hA5 hB5 hG5 hk51 hk52 hlk5=> ?_)
      have hN5:New w.heap.size D5:=New.of_le fun q hq=>by
       rcases hk52 q hq with h|h
       ·exact hN3.le q h
       ·omega
      refine Ow.permL (M:=(b9,O9):: (b7,O7):: (bp,pkO v0 v1 x2 x3):: (D1++ (D4++ (D5++ (DG++ [(ba, .cells (a8 (xq_ s).l) 41 (0,0)),(bc, .cells #[vi (zM_ s).k,vs (zM_ s).t] 26 (0,0))]))))) (by classical exact List.perm_iff_count.2 fun a=>by simp only[List.count_append,List.count_cons,List.count_nil]<;>omega) ?_
      with_reducible refine Ow.nil ?_
      refine⟨(fun r hr=>by simp only[List.mem_cons,List.not_mem_nil,or_false] at hr;rcases hr with rfl|rfl|rfl<;>simp(disch:=omega) only[zr_,zm_]), ?_⟩
      have st4: ∀a,zn_ (some (a,1)) (some (pkO v0 v1 x2 x3)) 2 v4=some (pkO v0 v1 v4 x3):=fun a=>Jq_ v0 v1 x2 x3 v4 a hG4.cell
      have st5: ∀a,zn_ (some (a,1)) (some (pkO v0 v1 v4 x3)) 3 v5=some (pkO v0 v1 v4 v5):=fun a=>QN_ v0 v1 v4 x3 v5 a hG5.cell
      refine kq @qv_ ?_
      refine Ow.store rfl rfl rfl (ke (And.intro @qv_ @st4)) ?_
      refine ko (And.intro @qv_ @st5) ?_
      refine Cw.permL (M:=(bp,pkO v0 v1 v4 v5):: (D1++ (D4++ (D5++ ((b9,O9):: (b7,O7):: (DG++ [(ba, .cells (a8 (xq_ s).l) 41 (0,0)),(bc, .cells #[vi (zM_ s).k,vs (zM_ s).t] 26 (0,0))])))))) (by classical exact List.perm_iff_count.2 fun a=>by simp only[List.count_append,List.count_cons,List.count_nil]<;>omega) ?_
      first|with_reducible refine ks [] @qv_ ?_|refine kp @qv_ ?_
      refine Again.mk ⟨k+1,ids++ [xq_ s],os++ [zM_ s],v4,v5,D4,D5,(b9,O9):: (b7,O7):: (DG++ [(ba, .cells (a8 (xq_ s).l) 41 (0,0)),(bc, .cells #[vi (zM_ s).k,vs (zM_ s).t] 26 (0,0))])⟩ (by show ts.length - (k+1)<ts.length - k;omega) ⟨hlt,hfg',hN4,hN5,⟨by omega,by omega,hNG.app ⟨hwa,hwc,trivial⟩⟩,by simpa using hG4,by simpa using hG5⟩ rfl rfl
  ·obtain rfl:k=ts.length:=by omega
   have hd:decide ((ts.length:Int)< (ts.length:Int))=false:=decide_eq_false (by omega)
   first|with_reducible refine ks [] (And.intro @qv_ @hd) ?_|refine kp (And.intro @qv_ @hd) ?_
   refine⟨_,(ke @qv_), ?_⟩
   refine⟨alt_ hNr, ?_⟩
   have hf:fillV l=some (ids,os):=by
    unfold fillV
    rw[ha]
    rw[List.take_length] at hfg
    exact hfg
   unfold adx_
   rw[hf]
   exact⟨rfl,x2,x3,_,rfl,Gr.i hG2 fun q hq=>by simp[hq],Gr.i hG3 fun q hq=>by simp[hq]⟩
end Go.Proofs
end
section
open Go Go.Proofs Go.Sx
namespace Go.Proofs
set_option maxRecDepth 10000
set_option maxHeartbeats 4000000
set_option linter.unusedSimpArgs false
def hvL:List UInt32:= [0x00000000,0x1db71064,0x3b6e20c8,0x26d930ac,0x76dc4190,0x6b6b51f4,0x4db26158,0x5005713c,0xedb88320,0xf00f9344,0xd6d6a3e8,0xcb61b38c,0x9b64c2b0,0x86d3d2d4,0xa00ae278,0xbdbdf21c]
def aph_ (n:UInt32):UInt32:=qo_ n 4^^^hvL.getD (n&&&15).toNat 0
def ahU_ (n:UInt32):Nat→UInt32
 |0=>n
 |k+1=>aph_ (ahU_ n k)
def akw_ (n:UInt32) (b:UInt8):UInt32:=ahU_ (n^^^UInt32.ofNat b.toNat) 2
theorem ah3_ (n:UInt32): (n&&&15).toNat<16:=by
 rw[UInt32.toNat_and]
 exact Nat.lt_of_le_of_lt Nat.and_le_right (by decide)
def GlobC (w:World):Prop:= ∃e f,w.heap[(2:Nat)]? =some (.cells (a32 hvL) e f)
theorem GlobC.of {w w':World} {L:zb_} (h:GlobC w) (hw:Hp w L w') (hn: (2:Nat)∉keys L):GlobC w':=by
 obtain⟨e,f,h⟩:=h
 exact⟨e,f,by rw[hw.old _ (Array.getElem?_eq_some_iff.1 h).1 hn];exact h⟩
theorem ann_:hvL.length=16:=rfl
set_option linter.defProp false
theorem ag7_ (n:UInt32) (b:UInt8) (w:World) (hG:GlobC w):
  Rets Tryz.prog 124 #[v32 n,v8 b] w (fun v D=>v=v32 (akw_ n b)∧D= []):=by
 obtain⟨e,f,htab⟩:=hG
 refine Rets.enterV Tryz.func124 rfl (rs:= [.tmp 4]) Tryz.results124 Tryz.ntmps124 ?_
 refine kf ?_
 first|with_reducible refine ks [] @zL_ ?_|refine kp @zL_ ?_
 unfold akw_
 generalize n^^^UInt32.ofNat b.toNat=m
 rw[show v32 m=v32 (ahU_ m 0) from rfl]
 refine Cw.loopG (G:=Nat) [10,11,12,13,14,15,16,17,0,18,9] (fun g=> [(0,v32 (ahU_ m g)),(9,vi g)]) (fun g=> []) (fun g=>g≤2) (fun g=>2 - g) 0 rfl rfl ?_ ?_
 ·omega
 intro g j hg
 refine kv ?_
 by_cases hlt:g<2
 ·have h15:=ah3_ (ahU_ m g)
  have hl:=ann_
  first|with_reducible refine ks [] (And.intro @zL_ @htab) ?_|refine kp (And.intro @zL_ @htab) ?_
  refine Again.mk (g+1) (by omega) (by omega) rfl rfl
 ·obtain rfl:g=2:=by omega
  first|with_reducible refine ks [] @zL_ ?_|refine kp @zL_ ?_
  refine⟨_,(ke @zL_),trivial, ?_⟩
  rfl
def adt_ (n:UInt32) (s:List UInt8):UInt32:=s.foldl akw_ n
theorem agm_ (n:UInt32) (s:List UInt8) (g:Nat) (h:g<s.length):adt_ n (s.take (g+1))=akw_ (adt_ n (s.take g)) (s.getD g 0):=by
 unfold adt_
 rw[List.take_succ_eq_append_getElem h,List.foldl_append,List.getD_eq_getElem?_getD,List.getElem?_eq_getElem h]
 rfl
theorem ahZ_ (n:UInt32) (s:List UInt8) (w:World) (hG:GlobC w) (hs:s.length<1099511627776):
  Rets Tryz.prog 105 #[v32 n,vs s] w (fun v D=>v=v32 (~~~ (adt_ (~~~ n) s))∧D= []):=by
 refine Rets.enterV Tryz.func105 rfl (rs:= [.tmp 4]) Tryz.results105 Tryz.ntmps105 ?_
 refine kf ?_
 first|with_reducible refine ks [] @zL_ ?_|refine kp @zL_ ?_
 rw[show v32 (~~~ n)=v32 (adt_ (~~~ n) (s.take 0)) from rfl]
 refine Cw.loopG (G:=Nat) [12,13,6,14,15,16,17,18,5,19,11] (fun g=> [(5,v32 (adt_ (~~~ n) (s.take g))),(11,vi g)]) (fun g=> []) (fun g=>g≤s.length) (fun g=>s.length - g) 0 rfl rfl ?_ ?_
 ·omega
 intro g j hg
 refine kv ?_
 by_cases hlt:g<s.length
 ·first|with_reducible refine ks [] @zL_ ?_|refine kp @zL_ ?_
  refine Ow.callFV rfl Tryz.call124 (fun w' hw'=>ag7_ _ _ w' (GlobC.of hG hw' (by simp[keys]))) ?_
  refine ko @zL_ ?_
  first|with_reducible refine ks [] @zL_ ?_|refine kp @zL_ ?_
  refine Again.mk (g+1) (by omega) (by omega) rfl ?_
  rw[agm_ _ _ _ hlt]
  rfl
 ·obtain rfl:g=s.length:=by omega
  first|with_reducible refine ks [] @zL_ ?_|refine kp @zL_ ?_
  rw[List.take_length]
  refine⟨_,(ke @zL_),trivial, ?_⟩
  rfl
def crcV (s:List UInt8):UInt32:= ~~~ (adt_ (~~~ (0:UInt32)) s)
theorem aju_ (b:Nat) (s:List UInt8) (E:TypeId) (w:World) (hG:GlobC w) (hs:s.length<1099511627776) (ho:w.heap[b]? =some (.cells #[vs s] E (0,0))):
  Rets Tryz.prog 71 #[vsl b 0 1 1] w (fun v D=>v=v32 (crcV s)∧D= []):=by
 have hS:StrS w (vsl b 0 1 1) [s] b 0 #[vs s] E (0,0):=StrS.lit [s] rfl rfl ho
 refine Rets.enterV Tryz.func71 rfl (rs:= [.tmp 2]) Tryz.results71 Tryz.ntmps71 ?_
 refine kf ?_
 first|with_reducible refine ks [] @zL_ ?_|refine kp @zL_ ?_
 refine Cw.loopG (G:=Nat) [9,10,11,5,12,13,14,3,15,8] (fun g=> [(3,v32 (if g=0 then 0 else crcV s)),(8,vi g)]) (fun g=> []) (fun g=>g≤1) (fun g=>1 - g) 0 rfl rfl ?_ ?_
 ·omega
 intro g j hg
 refine kv ?_
 by_cases hlt:g<1
 ·obtain rfl:g=0:=by omega
  have hlg:=hS.get 0 (by simp)
  have hrd:=hS.has (by simp)
  have hix:=fun m=>hS.idx m 0 (by simp)
  first|with_reducible refine ks [] (And.intro @zL_ (And.intro @Sx.loadV_one (And.intro @hrd (And.intro @hlg (@hix))))) ?_|refine kp (And.intro @zL_ (And.intro @Sx.loadV_one (And.intro @hrd (And.intro @hlg (@hix))))) ?_
  refine Ow.callFV rfl Tryz.call105 (fun w' hw'=>ahZ_ 0 s w' (GlobC.of hG hw' (by simp[keys])) hs) ?_
  refine ko @zL_ ?_
  first|with_reducible refine ks [] @zL_ ?_|refine kp @zL_ ?_
  refine Again.mk 1 (by omega) (by omega) rfl rfl
 ·obtain rfl:g=1:=by omega
  first|with_reducible refine ks [] @zL_ ?_|refine kp @zL_ ?_
  refine⟨_,(ke @zL_),trivial, ?_⟩
  rfl
def JP_ (n:UInt32) (g:Nat):List UInt8:=(List.range 4).map fun j=>if j<g then UInt8.ofNat (qo_ n (8*j)).toNat else 0
def sum4 (n:UInt32):List UInt8:=JP_ n 4
theorem XU_ (n:UInt32) (g:Nat): (JP_ n g).length=4:=by simp[JP_]
theorem ab9_ (n:UInt32) (g:Nat) (h:g<4): (JP_ n g).set g (UInt8.ofNat (qo_ n (8*g)).toNat)=JP_ n (g+1):=by
 have:g=0∨g=1∨g=2∨g=3:=by omega
 rcases this with rfl|rfl|rfl|rfl<;>rfl
def vT_ (s:List UInt8):List UInt8:=s++sum4 (crcV s)
theorem Kg_ (s:List UInt8) (w:World) (hG:GlobC w) (hs:s.length<1099511627776):
  Rets Tryz.prog 39 #[vs s] w (fun v D=>v=vs (vT_ s)∧D= []):=by
 have hgl: (2:Nat)<w.heap.size:=by obtain⟨e,f,h⟩:=hG;exact(Array.getElem?_eq_some_iff.1 h).1
 refine Rets.enterV Tryz.func39 rfl (rs:= [.tmp 2]) Tryz.results39 Tryz.ntmps39 ?_
 refine kf ?_
 first|with_reducible refine ks [] @zL_ ?_|refine kp @zL_ ?_
 refine Ow.buildSlice (e:=9) #[vs s] rfl rfl (by kernel_rfl) fun b1 hb1 hw1=> ?_
 refine ko @zL_ ?_
 refine Ow.callFV rfl Tryz.call71 (fun w' hw'=>aju_ b1 s _ w' (GlobC.of hG hw' (by simp[keys];omega)) hs (hw'.has _ _ List.mem_cons_self)) ?_
 refine ko @zL_ ?_
 first|with_reducible refine ks [] @zL_ ?_|refine kp @zL_ ?_
 unfold vT_
 generalize crcV s=n
 refine Ow.alloc rfl rfl Tryz.zr137 fun b2 hb2 hw2=> ?_
 obtain⟨h12,-⟩:=hb2
 refine ko @zL_ ?_
 first|with_reducible refine ks [] @zL_ ?_|refine kp @zL_ ?_
 rw[show a8 (List.replicate 4 0)=a8 (JP_ n 0) from rfl]
 refine Cw.loopG (G:=Nat) [10,11,5,12,13,14,15,16,17,18,19,9] (fun g=> [(9,vi g)]) (fun g=> [(b1, .cells #[vs s] 9 (0,0)),(b2, .cells (a8 (JP_ n g)) 137 (0,0))]) (fun g=>g≤4) (fun g=>4 - g) 0 rfl rfl ?_ ?_
 ·omega
 intro g j hg
 refine kv ?_
 have hpl:=XU_ n g
 by_cases hlt:g<4
 ·first|with_reducible refine ks [] @zL_ ?_|refine kp @zL_ ?_
  refine Again.mk (g+1) (by omega) (by omega) ?_ rfl
  rw[ab9_ n g hlt]
 ·obtain rfl:g=4:=by omega
  first|with_reducible refine ks [] @zL_ ?_|refine kp @zL_ ?_
  refine⟨_,(ke @zL_),⟨hw1,hw2,trivial⟩, ?_⟩
  rw[List.drop_zero,List.take_of_length_le (by omega)];rfl
def js_ (s:List UInt8):List UInt8×Bool:=
 if s.length<4 then([],false) else if vT_ (s.take (s.length - 4))=s then(s.take (s.length - 4),true) else([],false)
theorem aaA_ (s:List UInt8): (vT_ s).length=s.length+4:=by unfold vT_ sum4;rw[List.length_append,XU_]
theorem WE_ (s:List UInt8) (w:World) (hG:GlobC w) (hs:s.length<1099511627776):
  Rets Tryz.prog 24 #[vs s] w (fun v D=>v= .tuple #[vs (js_ s).1, .bool (js_ s).2]∧D= []):=by
 refine Rets.enterV Tryz.func24 rfl (rs:= [.tmp 2, .tmp 3]) Tryz.results24 Tryz.ntmps24 ?_
 refine kf ?_
 first|with_reducible refine ks [] @zL_ ?_|refine kp @zL_ ?_
 unfold js_
 by_cases h4:s.length<4
 ·have e1:decide ((s.length:Int)<4)=true:=decide_eq_true (by omega)
  rw[if_pos h4]
  first|with_reducible refine ks [] (And.intro @zL_ @e1) ?_|refine kp (And.intro @zL_ @e1) ?_
  refine⟨_,(ke @zL_),trivial, ?_⟩
  rfl
 ·have e1:decide ((s.length:Int)<4)=false:=decide_eq_false (by omega)
  have e2: ((s.length:Int) - 4).toNat=s.length - 4:=by omega
  rw[if_neg h4]
  first|with_reducible refine ks [] (And.intro @zL_ (And.intro @e1 (@e2))) ?_|refine kp (And.intro @zL_ (And.intro @e1 (@e2))) ?_
  refine Ow.callFV rfl Tryz.call39 (fun w' hw'=>Kg_ (s.take (s.length - 4)) w' (GlobC.of hG hw' (by simp[keys])) (by rw[List.length_take];omega)) ?_
  refine ko @zL_ ?_
  cases hq: (vT_ (s.take (s.length - 4)) !=s)
  ·rw[if_pos (by simpa using hq)]
   first|with_reducible refine ks [] (And.intro @zL_ (And.intro @hq (@e2))) ?_|refine kp (And.intro @zL_ (And.intro @hq (@e2))) ?_
   refine⟨_,(ke @zL_),trivial, ?_⟩
   rfl
  ·rw[if_neg (by simpa using hq)]
   first|with_reducible refine ks [] (And.intro @zL_ @hq) ?_|refine kp (And.intro @zL_ @hq) ?_
   refine⟨_,(ke @zL_),trivial, ?_⟩
   rfl
end Go.Proofs
end
section
open Go Go.Proofs Go.Sx Go.StP Go.Flo
namespace Go.Proofs
set_option maxRecDepth 10000
set_option maxHeartbeats 400000
set_option linter.unusedSimpArgs false
def ZX_ (i:Nat) (p:PartL):Int:=if p.d=true then(i:Int) - p.b else 0
def kV_ (i:Nat) (p:PartL):List UInt8:=jb_ (zx_ (ZX_ i p))++jN_ p.x
def q7_:Nat→List PartL→List UInt8
 |_,[]=> []
 |i,p::r=>kV_ i p++q7_ (i+1) r
def magB:List UInt8:= [83,80,75,49]
def vl_ (l:List PartL):List UInt8:=magB++ (jb_ (zx_ (l.length:Int))++q7_ 0 l)
def v6_ (s:List UInt8) (i a:Nat) (e:Int):PartL×Nat×Int:=
 (⟨decide (0< (zs_ s a e 200).1),if 0< (zs_ s a e 200).1 then(i:Int) - (zs_ s a e 200).1 else 0,(zS_ s (zs_ s a e 200).2.1 (zs_ s a e 200).2.2 65536).1⟩,(zS_ s (zs_ s a e 200).2.1 (zs_ s a e 200).2.2 65536).2)
def qb_ (s:List UInt8):Nat→Nat→Nat→Int→List PartL×List Nat×Nat×Int
 |0,_,a,e=>([],[],a,e)
 |k+1,i,a,e=>if(v6_ s i a e).2.2=0 then((v6_ s i a e).1:: (qb_ s k (i+1) (v6_ s i a e).2.1 0).1,a:: (qb_ s k (i+1) (v6_ s i a e).2.1 0).2.1,(qb_ s k (i+1) (v6_ s i a e).2.1 0).2.2) else([],[],(v6_ s i a e).2)
def xr_ (s:List UInt8):Int×Bool×Nat×Int:=
 if(jp_ s 0 0 4).1=magB then((zs_ s (jp_ s 0 0 4).2.1 (jp_ s 0 0 4).2.2 200).1,(zs_ s (jp_ s 0 0 4).2.1 (jp_ s 0 0 4).2.2 200).2.2==0,(zs_ s (jp_ s 0 0 4).2.1 (jp_ s 0 0 4).2.2 200).2) else(0,false,(jp_ s 0 0 4).2)
def wq_ (s:List UInt8):List PartL×List Nat×Nat×Int:=qb_ s (xr_ s).1.toNat 0 (xr_ s).2.2.1 (xr_ s).2.2.2
def ajU_ (b:List UInt8):Option (List PartL×List Nat×List IdL×List ObL):=
 if(js_ b).2=true∧(xr_ (js_ b).1).2.1=true∧xN_ (js_ b).1 (wq_ (js_ b).1).2.2.1 (wq_ (js_ b).1).2.2.2=0 then(fillV (wq_ (js_ b).1).1).map fun q=>((wq_ (js_ b).1).1,(wq_ (js_ b).1).2.1,q) else none
def wJ_ (l:List PartL):List UInt8×Int:=match fillV l with
 |some _=>(vT_ (vl_ l),0)
 |none=>([],1)
instance:DecidableEq ObL:=fun a b=>if h:a.k=b.k∧a.t=b.t then .isTrue (by cases a;cases b;simp only at h;obtain⟨rfl,rfl⟩:=h;rfl) else .isFalse (fun e=>h (by rw[e];exact⟨rfl,rfl⟩))
def ZG_ (i:Nat) (p:PartL):Prop:=(if p.d=true then 0≤p.b∧p.b<i∧(i:Int)≤200 else p.b=0)∧p.x.length≤65536
def Zo_:Nat→List PartL→Prop
 |_,[]=>True
 |i,p::r=>ZG_ i p∧Zo_ (i+1) r
theorem an1_ {i:Nat} {p:PartL} (h:ZG_ i p): ∃n:Nat,ZX_ i p=n∧n≤200∧(0<n↔p.d=true):=by
 unfold ZG_ at h
 unfold ZX_
 by_cases hd:p.d=true
 ·rw[if_pos hd] at h ⊢
  exact⟨((i:Int) - p.b).toNat,by omega,by omega,⟨fun _=>hd,fun _=>by omega⟩⟩
 ·rw[if_neg hd]
  exact⟨0,rfl,by omega,⟨fun h=>by omega,fun h=>absurd h hd⟩⟩
theorem anL_ {i n:Nat} {p:PartL} (h:ZG_ i p) (hf:ZX_ i p=n) (hn:0<n↔p.d=true): (⟨decide (0< (n:Int)),if 0< (n:Int) then(i:Int) - (n:Int) else 0,p.x⟩:PartL)=p:=by
 obtain⟨d,b,x⟩:=p
 unfold ZG_ at h
 unfold ZX_ at hf
 simp only at h hf hn ⊢
 cases d
 ·rw[if_neg (by simp)] at h hf
  have: ¬0< (n:Int):=by omega
  rw[if_neg this,decide_eq_false this,h.1]
 ·rw[if_pos rfl] at h hf
  have:0< (n:Int):=by have:=hn.2 rfl;omega
  rw[if_pos this,decide_eq_true this]
  congr 1
  omega
theorem afC_ (A r:List UInt8) {i:Nat} {p:PartL} (h:ZG_ i p):v6_ (A++ (kV_ i p++r)) i A.length 0=(p,A.length+ (kV_ i p).length,0):=by
 obtain⟨n,hf,hn,hd⟩:=an1_ h
 have hx:=h.2
 have h1:=Jr_ A (jN_ p.x++r) n 200 (by omega) (by omega)
 have h2:=agf_ (A++jb_ n) p.x r 65536 (by omega) (by omega)
 rw[List.append_assoc,List.length_append] at h2
 unfold v6_ kV_
 rw[hf,xy_ (by omega),List.append_assoc,h1]
 simp only
 rw[h2,anL_ h hf hd,List.length_append,Nat.add_assoc]
def JU_:Nat→Nat→List PartL→List Nat
 |_,_,[]=> []
 |i,a,p::r=>a::JU_ (i+1) (a+ (kV_ i p).length) r
theorem Q3_ (r:List UInt8): ∀ (l:List PartL) (A:List UInt8) (i:Nat),Zo_ i l→qb_ (A++ (q7_ i l++r)) l.length i A.length 0=(l,JU_ i A.length l,A.length+ (q7_ i l).length,0)
 | [],A,i,_=>by simp[qb_,q7_,JU_]
 |p::l,A,i,h=>by
  have h1:=afC_ A (q7_ (i+1) l++r) h.1
  have h2:=Q3_ r l (A++kV_ i p) (i+1) h.2
  rw[List.append_assoc,List.length_append] at h2
  unfold q7_
  rw[List.length_cons,List.append_assoc]
  unfold qb_
  rw[h1]
  simp only[↓reduceIte]
  rw[h2]
  simp only[JU_,List.length_append,Nat.add_assoc]
theorem aeh_ {n:Nat} (h:n≤200):zx_ (n:Int)=n:=xy_ (by omega)
theorem ahD_ (x:List UInt8) {n:Nat} (h:n≤200):xr_ (magB++ (jb_ n++x))=((n:Int),true,4+ (jb_ n).length,0):=by
 have h0:=W9_ [] magB (jb_ n++x)
 have h1:=Jr_ magB x n 200 (by omega) (by omega)
 simp only[List.nil_append,List.length_nil,Nat.zero_add] at h0
 have e4:magB.length=4:=rfl
 rw[e4] at h0 h1
 unfold xr_
 rw[show((4:Nat):Int)=4 from rfl] at h0
 rw[h0]
 simp only[↓reduceIte]
 rw[h1]
 rfl
theorem ajo_ {l:List PartL} (h:Zo_ 0 l) (hl:l.length≤200) (r:List UInt8):xr_ (vl_ l++r)=((l.length:Int),true,4+ (jb_ l.length).length,0)∧
  wq_ (vl_ l++r)=(l,JU_ 0 (4+ (jb_ l.length).length) l,(vl_ l).length,0):=by
 have e:vl_ l++r=magB++ (jb_ l.length++ (q7_ 0 l++r)):=by unfold vl_;rw[aeh_ hl,List.append_assoc,List.append_assoc]
 have hh:=ahD_ (q7_ 0 l++r) hl
 have hp:=Q3_ r l (magB++jb_ l.length) 0 h
 rw[List.append_assoc,List.length_append,show magB.length=4 from rfl] at hp
 refine⟨by rw[e];exact hh, ?_⟩
 unfold wq_
 rw[e,hh]
 simp only[Int.toNat_natCast]
 rw[hp]
 unfold vl_
 rw[aeh_ hl]
 simp only[List.length_append,show magB.length=4 from rfl,Nat.add_assoc]
theorem aat_ (s:List UInt8):js_ (vT_ s)=(s,true):=by
 have hl:=aaA_ s
 have ht: (vT_ s).take ((vT_ s).length - 4)=s:=by rw[hl,Nat.add_sub_cancel];unfold vT_;rw[List.take_left]
 unfold js_
 rw[if_neg (by omega),ht,if_pos rfl]
theorem aor_ (s:List UInt8):xN_ s s.length 0=0:=by unfold xN_;rw[if_neg (by simp),if_neg (by omega)]
theorem afJ_ {l:List PartL} {ts:List (List UInt8)} (h:JB_ l= .ok ts) (hx: ∀p,p∈l→p.x.length≤65536):Zo_ 0 l∧l.length≤200:=by
 unfold JB_ at h
 split at h
 ·cases h
 ·rename_i h2
  refine⟨?_,by omega⟩
  have hkk: ∀k,k<l.length→ZG_ k (l.getD k z6_):=by
   intro k hk
   have hp:=vE_ _ _ h k hk
   unfold partV at hp
   refine⟨?_,hx _ (Ql_ hk)⟩
   cases hq:jZ_ l (k:Nat) with
   |error e=>rw[hq] at hp;cases hp
   |ok p=>
    rcases j4_ hk hq with⟨-,hd,hb⟩ | ⟨b,q,-,hd,hb,hlt,-⟩
    ·rw[if_neg (by rw[hd];decide),hb]
    ·rw[if_pos hd,hb];omega
  have go: ∀ (m:List PartL) (i:Nat),(∀k,k<m.length→ZG_ (i+k) (m.getD k z6_))→Zo_ i m:=by
   intro m
   induction m with
   |nil=>intro i _;trivial
   |cons p r ih=>
    intro i hm
    refine⟨by simpa using hm 0 (by simp),ih (i+1) fun k hk=> ?_⟩
    have:=hm (k+1) (by simp;omega)
    rw[List.getD_cons_succ,show i+ (k+1)=i+1+k by omega] at this
    exact this
  exact go l 0 fun k hk=>by rw[Nat.zero_add];exact hkk k hk
end Go.Proofs
end
section
open Go Go.Proofs Go.Sx Go.StP Go.Flo
namespace Go.Proofs
set_option maxRecDepth 10000
set_option maxHeartbeats 400000
set_option linter.unusedSimpArgs false
theorem Jz_ {s:List UInt8}: ∀ (k i a:Nat) (e:Int),(qb_ s k i a e).1.length≤k∧(qb_ s k i a e).2.1.length=(qb_ s k i a e).1.length
 |0,i,a,e=>⟨Nat.le_refl _,rfl⟩
 |k+1,i,a,e=>by
  have:=Jz_ (s:=s) k (i+1) (v6_ s i a e).2.1 0
  unfold qb_
  split
  ·simp only[List.length_cons];omega
  ·simp
theorem abU_ {l:List PartL} {q:List IdL×List ObL} (h:fillV l=some q) (hx: ∀p,p∈l→p.x.length≤65536):Zo_ 0 l∧l.length≤200:=by
 unfold fillV at h
 cases ha:JB_ l with
 |error e=>rw[ha] at h;cases h
 |ok ts=>exact afJ_ ha hx
theorem agn_ {l:List PartL} {q:List IdL×List ObL} (h:fillV l=some q) (hx: ∀p,p∈l→p.x.length≤65536):ajU_ (vT_ (vl_ l))=some (l,JU_ 0 (4+ (jb_ l.length).length) l,q):=by
 obtain⟨h1,h2⟩:=abU_ h hx
 obtain⟨hh,hr⟩:=ajo_ h1 h2 []
 rw[List.append_nil] at hh hr
 unfold ajU_
 rw[aat_]
 simp only[hh,hr,aor_,and_self, ↓reduceIte,h,Option.map_some]
end Go.Proofs
end
section
open Go Go.Proofs Go.Sx Go.StP Go.Flo
namespace Go.Proofs
set_option maxRecDepth 10000
set_option maxHeartbeats 400000
set_option linter.unusedSimpArgs false
def prO (v0 v1 v2:Value):Obj:= .cells #[v0,v1,v2] 64 (0,0)
def wrO (s:List UInt8) (a:Nat) (e:Int):Obj:= .cells #[vs s,vi a,vi e] 108 (0,0)
theorem aew_ (v0 v1 v2:Value) (n:Nat):zl_ (some (false,n)) (some (prO v0 v1 v2)) 0=some v0:=(rfl)
theorem aei_ (v0 v1 v2:Value) (n:Nat):zl_ (some (false,n)) (some (prO v0 v1 v2)) 1=some v1:=(rfl)
theorem aeT_ (v0 v1 v2:Value) (n:Nat):zl_ (some (false,n)) (some (prO v0 v1 v2)) 2=some v2:=(rfl)
theorem Jf_ (v0 v1 v2 q:Value) (a:Bool) (hq:Value.oneCell' q=true∧q.cells= #[q]):zn_ (some (a,1)) (some (prO v0 v1 v2)) 1 q=some (prO v0 q v2):=
 qt_ [v0] [v1] [q] [v2] a _ 64 rfl rfl hq.2 rfl (by simp[hq.1])
theorem Jt_ (v0 v1 v2 q:Value) (a:Bool) (hq:Value.oneCell' q=true∧q.cells= #[q]):zn_ (some (a,1)) (some (prO v0 v1 v2)) 2 q=some (prO v0 v1 q):=
 qt_ [v0,v1] [v2] [q] [] a _ 64 rfl rfl hq.2 rfl (by simp[hq.1])
theorem adu_ (p:PartL) (E:TypeId) (a:Bool) (x:Bool):zn_ (some (a,1)) (some (.cells (zq_ p).toArray E (0,0))) 0 (.bool x)=some (.cells (zq_ ⟨x,p.b,p.x⟩).toArray E (0,0)):=(rfl)
theorem abE_ (p:PartL) (E:TypeId) (a:Bool) (x:Int):zn_ (some (a,1)) (some (.cells (zq_ p).toArray E (0,0))) 1 (vi x)=some (.cells (zq_ ⟨p.d,x,p.x⟩).toArray E (0,0)):=(rfl)
theorem Kh_ (p:PartL) (E:TypeId):zl_ (some (true,3)) (some (.cells (zq_ p).toArray E (0,0))) 0=some (.agg (zq_ p).toArray):=kL_ (n:=3) [] (zq_ p) [] E (0,0) rfl rfl
theorem acK_ (t:List UInt8):qR_ (x7_ Tryz.prog 93) (zI_ Tryz.prog 93) [(2,vs t)]=some (.agg (zq_ ⟨false,0,t⟩).toArray):=by
 rw[show x7_ Tryz.prog 93=some [(0,1),(1,1),(2,1)] from id (by kernel_rfl),xE_];rfl
theorem afT_ (b:Nat) (s:List UInt8) (a:Nat) (e n:Int) (w:World) (ha:a≤s.length) (hs:s.length<9223372036854775808) (ho:w.heap[b]? =some (wrO s a e)):
  Rets Tryz.prog 48 #[vp b 0,vi n] w (fun v D=> ∃o,D= [(b,o)]∧v=vs (jp_ s a e n).1∧o=wrO s (jp_ s a e n).2.1 (jp_ s a e n).2.2):=vo_ b s a e n w ha hs ho
theorem wF_ (b:Nat) (s:List UInt8) (a:Nat) (e most:Int) (w:World) (ha:a≤s.length) (hs:s.length<9223372036854775808) (ho:w.heap[b]? =some (wrO s a e)):
  Rets Tryz.prog 49 #[vp b 0,vi most] w (fun v D=> ∃o,D= [(b,o)]∧v=vi (zs_ s a e most).1∧o=wrO s (zs_ s a e most).2.1 (zs_ s a e most).2.2):=qP_ b s a e most w ha hs ho
theorem abP_ (b:Nat) (s:List UInt8) (a:Nat) (e most:Int) (w:World) (ha:a≤s.length) (hs:s.length<9223372036854775808) (ho:w.heap[b]? =some (wrO s a e)):
  Rets Tryz.prog 52 #[vp b 0,vi most] w (fun v D=> ∃o,D= [(b,o)]∧v=vs (zS_ s a e most).1∧o=wrO s (zS_ s a e most).2.1 (zS_ s a e most).2.2):=vy_ b s a e most w ha hs ho
theorem acm_ {w:World} {a b:Nat} {x x' y y':Obj} {D:zb_} (h:New w.heap.size D):Ext w [(a,x),(b,y)] ((a,x'):: (b,y')::D):=⟨fun c hc=>by
 simp only[keys,List.map_cons,List.mem_cons,List.map_nil,List.not_mem_nil,or_false] at hc ⊢
 rcases hc with h'|h'|h'
 ·exact .inl (.inl h')
 ·exact .inl (.inr h')
 ·exact .inr (h.le c h'),fun c hc=>by
 simp only[keys,List.map_cons,List.mem_cons,List.map_nil,List.not_mem_nil,or_false] at hc ⊢
 rcases hc with h'|h'
 ·exact .inl h'
 ·exact .inr (.inl h')⟩
set_option linter.defProp false
def zT_:=And.intro (And.intro (And.intro (@zA_) (And.intro (@zz_) (@aew_))) (And.intro (And.intro (@aei_) (@aeT_)) (And.intro (@Sx.tup2_0) (@Sx.tup2_1)))) (And.intro (And.intro (And.intro (@vI_) (@vz_)) (And.intro (@vA_) (@Kh_))) (And.intro (And.intro (@jG_) (@xu_)) (And.intro (@adu_) (@abE_))))
theorem ai9_ (br bw:Nat) (s:List UInt8) (v1 v2:Value) (w:World) (hs:s.length<9223372036854775808) (hne:br≠bw) (ho:w.heap[br]? =some (prO (vp bw 0) v1 v2)) (hr:w.heap[bw]? =some (wrO s 0 0)):
  Rets Tryz.prog 26 #[vp br 0] w (XS w [(br,prO (vp bw 0) v1 v2),(bw,wrO s 0 0)] (fun v D=>v= .tuple #[vi (xr_ s).1, .bool (xr_ s).2.1]∧D= [(br,prO (vp bw 0) v1 v2),(bw,wrO s (xr_ s).2.2.1 (xr_ s).2.2.2)])):=by
 refine Rets.enterX Tryz.func26 rfl (rs:= [.tmp 2, .tmp 3]) Tryz.results26 Tryz.ntmps26 (Vc_ ho hr) (by simp[keys,hne]) ?_
 refine kf ?_
 first|with_reducible refine ks [] @zT_ ?_|refine kp @zT_ ?_
 refine Ow.callM rfl rfl Tryz.call48 (by simp[keys]) (fun w' hw'=>afT_ bw s 0 0 4 w' (Nat.zero_le _) hs (hw'.has _ _ (List.mem_cons_of_mem _ List.mem_cons_self))) ?_
 have r1:=kw_ (s:=s) (a:=0) (e:=0) (n:=4) (Nat.zero_le _)
 unfold xr_
 generalize jp_ s 0 0 4=p at*
 obtain⟨x,a1,e1⟩:=p
 simp only at r1 ⊢
 refine kn ?_
 by_cases hm:x=magB
 ·have d1: (x !=magB)=false:=by rw[hm];exact bne_self_eq_false _
  unfold magB at d1
  rw[if_pos hm]
  refine ko (And.intro @zT_ @d1) ?_
  first|with_reducible refine ks [] (And.intro @zT_ @d1) ?_|refine kp (And.intro @zT_ @d1) ?_
  refine Ow.callM rfl rfl Tryz.call49 (by simp[keys]) (fun w' hw'=>wF_ bw s a1 e1 200 w' r1.2 hs (hw'.has _ _ (List.mem_cons_of_mem _ List.mem_cons_self))) ?_
  generalize zs_ s a1 e1 200=q at*
  obtain⟨n,a2,e2⟩:=q
  simp only
  refine kn ?_
  refine ko @zT_ ?_
  first|with_reducible refine ks [] @zT_ ?_|refine kp @zT_ ?_
  refine Ow.callFV rfl Tryz.call50 (fun w' hw'=>xc_ bw s a2 e2 w' (hw'.has _ _ (List.mem_cons_of_mem _ List.mem_cons_self))) ?_
  refine ko @zT_ ?_
  first|with_reducible refine ks [] @zT_ ?_|refine kp @zT_ ?_
  refine⟨_,(ke @zT_), ?_⟩
  exact⟨acm_ trivial,rfl,rfl⟩
 ·have d1: (x !=magB)=true:=bne_iff_ne.2 hm
  unfold magB at d1
  rw[if_neg hm]
  refine ko (And.intro @zT_ @d1) ?_
  first|with_reducible refine ks [] (And.intro @zT_ @d1) ?_|refine kp (And.intro @zT_ @d1) ?_
  refine⟨_,(ke @zT_), ?_⟩
  exact⟨acm_ trivial,rfl,rfl⟩
structure RdG where
 lab:Nat
 l:List PartL
 sp:List Nat
 a:Nat
 e:Int
 v1:Value
 v2:Value
 b4:Nat
 q:PartL
 D1:zb_
 D2:zb_
 DG:zb_
def RdJ (s:List UInt8) (n a0:Nat) (e0:Int) (sz:Nat) (g:RdG):Prop:=
 sz≤g.b4∧New sz g.D1∧New sz g.D2∧New sz g.DG∧Gr g.D1 93 3 g.v1 g.l.length (g.l.map zq_).flatten∧Gr g.D2 3 1 g.v2 g.sp.length (g.sp.map jt_).flatten∧g.sp.length=g.l.length∧g.a≤s.length∧g.l.length≤n∧
  ((g.lab=1∧qb_ s n 0 a0 e0=(g.l++ (qb_ s (n - g.l.length) g.l.length g.a g.e).1,g.sp++ (qb_ s (n - g.l.length) g.l.length g.a g.e).2.1,(qb_ s (n - g.l.length) g.l.length g.a g.e).2.2))∨
  (g.lab=0∧qb_ s n 0 a0 e0=(g.l,g.sp,g.a,g.e)))
def RdL (g:RdG):Nat:=match g.lab with
 |1=>1
 |_=>0
def RdH (br bw:Nat) (s:List UInt8) (g:RdG):zb_:=(br,prO (vp bw 0) g.v1 g.v2):: (bw,wrO s g.a g.e):: (g.b4, .cells (zq_ g.q).toArray 93 (0,0)):: (g.D1++ (g.D2++g.DG))
def ara_ (s:List UInt8) (n a0:Nat) (e0:Int) (br bw:Nat) (v:Value) (D:zb_):Prop:=
 v= .tuple #[]∧ ∃v1 v2 D',D=(br,prO (vp bw 0) v1 v2):: (bw,wrO s (qb_ s n 0 a0 e0).2.2.1 (qb_ s n 0 a0 e0).2.2.2)::D'∧
  GrI D' 93 3 v1 (qb_ s n 0 a0 e0).1.length ((qb_ s n 0 a0 e0).1.map zq_).flatten∧GrI D' 3 1 v2 (qb_ s n 0 a0 e0).2.1.length ((qb_ s n 0 a0 e0).2.1.map jt_).flatten
theorem ahw_ (br bw:Nat) (s:List UInt8) (n a0:Nat) (e0:Int) (w:World) (hs:s.length<9223372036854775808) (hn:n≤1000000) (ha:a0≤s.length) (hne:br≠bw) (ho:w.heap[br]? =some (prO (vp bw 0) (.slice none 0 0) (.slice none 0 0))) (hr:w.heap[bw]? =some (wrO s a0 e0)):
  Rets Tryz.prog 27 #[vp br 0,vi n] w (XS w [(br,prO (vp bw 0) (.slice none 0 0) (.slice none 0 0)),(bw,wrO s a0 e0)] (ara_ s n a0 e0 br bw)):=by
 have hbr:br<w.heap.size:=(Array.getElem?_eq_some_iff.1 ho).1
 have hbw:bw<w.heap.size:=(Array.getElem?_eq_some_iff.1 hr).1
 refine Rets.enterX Tryz.func27 rfl (rs:= []) Tryz.results27 Tryz.ntmps27 (Vc_ ho hr) (by simp[keys,hne]) ?_
 refine kf ?_
 first|with_reducible refine ks [] @zT_ ?_|refine kp @zT_ ?_
 refine Cw.scopeL (G:=RdG) (fun g=>RdL g) [4,5,6,7,8,9,10,11,12,13,14,15,16,17,18,19,20,21,22,23,24,25,26,27,28,29,30,31,32,33,34,35,36,37,38,39,40,41,42,43,44,45,46,47,48,49,50,51,52,53,54,55,56,57,58,59,60,61,62,63,64,65,66] (fun g=> [(4,vp g.b4 0)]) (fun g=>RdH br bw s g) (fun g=>RdJ s n a0 e0 w.heap.size g) (fun g=>(if g.lab=1 then n - g.l.length+1 else 0)) ?_ ?_ ?_
 ·intro g
  unfold RdL
  split<;>rfl
 ·intro g j hg
  obtain⟨lab,l,sp,a,e,v1,v2,b4,q,D1,D2,DG⟩:=g
  obtain⟨hw4,hN1,hN2,hNG,hG1,hG2,hsl,hal,hln,hg⟩:=hg
  simp only at hw4 hN1 hN2 hNG hG1 hG2 hsl hal hln
  have hNr:New w.heap.size (D1++ (D2++DG)):=hN1.app (hN2.app hNG)
  have l1:=hG1.len
  rcases hg with hg|hg
  ·obtain⟨hlab,hpr⟩:=hg
   simp only at hlab
   subst hlab
   simp only[RdL,RdH] at hpr ⊢
   by_cases hlen:l.length=n
   ·have d1: ((l.length:Int)==(n:Int))=true:=by rw[hlen];exact beq_self_eq_true _
    simp only[xD_,ZS_,Bool.or_false,Bool.false_or,Bool.or_true,Bool.true_or,Nat.reduceBEq,beq_self_eq_true, ↓reduceIte,Bool.false_eq_true]
    refine kv ?_
    try with_reducible refine qr_ ?_
    first|with_reducible refine ks [] (And.intro @zT_ (And.intro @l1 (@d1))) ?_|refine kp (And.intro @zT_ (And.intro @l1 (@d1))) ?_
    refine Jump.mk ⟨0,l,sp,a,e,v1,v2,b4,q,D1,D2,DG⟩ rfl (by show 0<n - l.length+1;omega) ⟨hw4,hN1,hN2,hNG,hG1,hG2,hsl,hal,hln, .inr ⟨rfl, ?_⟩⟩ rfl rfl
    rw[hpr,hlen,Nat.sub_self]
    simp[qb_]
   ·have d1: ((l.length:Int)==(n:Int))=false:=beq_eq_false_iff_ne.2 (by omega)
    simp only[xD_,ZS_,Bool.or_false,Bool.false_or,Bool.or_true,Bool.true_or,Nat.reduceBEq,beq_self_eq_true, ↓reduceIte,Bool.false_eq_true]
    refine kv ?_
    try with_reducible refine qr_ ?_
    first|with_reducible refine ks [1000007,9] (And.intro @zT_ (And.intro @l1 (@d1))) ?_|refine kp (And.intro @zT_ (And.intro @l1 (@d1))) ?_
    refine Ow.callFV rfl Tryz.call51 (fun w' hw'=>adS_ bw s a e w' (hw'.has _ _ (List.mem_cons_of_mem _ List.mem_cons_self))) ?_
    refine ko @zT_ ?_
    first|with_reducible refine ks [] @zT_ ?_|refine kp @zT_ ?_
    have hle1:=qh_ (s:=s) (a:=a) (e:=e) (most:=200) hal
    have hm1:=q4_ (s:=s) (a:=a) (e:=e) (most:=200) (by omega)
    refine Ow.callM rfl rfl Tryz.call49 (by simp[keys]) (fun w' hw'=>wF_ bw s a e 200 w' hal hs (hw'.has _ _ (List.mem_cons_of_mem _ List.mem_cons_self))) ?_
    have hk:n - l.length=(n - (l.length+1))+1:=by omega
    rw[hk] at hpr
    have hpc:v6_ s l.length a e=(⟨decide (0< (zs_ s a e 200).1),if 0< (zs_ s a e 200).1 then((l.length:Nat):Int) - (zs_ s a e 200).1 else 0,(zS_ s (zs_ s a e 200).2.1 (zs_ s a e 200).2.2 65536).1⟩,(zS_ s (zs_ s a e 200).2.1 (zs_ s a e 200).2.2 65536).2):=rfl
    generalize zs_ s a e 200=x at*
    obtain⟨F,a1,e1⟩:=x
    simp only at hle1 hm1 hpc ⊢
    have hle2:=xS_ (s:=s) (a:=a1) (e:=e1) (most:=65536) hle1.2
    refine kn ?_
    refine ko @zT_ ?_
    first|with_reducible refine ks [] @zT_ ?_|refine kp @zT_ ?_
    refine Ow.callM rfl rfl Tryz.call52 (by simp[keys]) (fun w' hw'=>abP_ bw s a1 e1 65536 w' hle1.2 hs (hw'.has _ _ (List.mem_cons_of_mem _ List.mem_cons_self))) ?_
    generalize zS_ s a1 e1 65536=x at*
    obtain⟨t,a2,e2⟩:=x
    simp only at hle2 hpc ⊢
    refine kn ?_
    refine ko @zT_ ?_
    refine Ow.build (.agg (zq_ ⟨false,0,t⟩).toArray) rfl (acK_ t) ?_
    have hst:=xu_ ⟨false,0,t⟩ q 93
    have hb4r:b4≠br:=by omega
    have hb4w:b4≠bw:=by omega
    refine ko (And.intro @zT_ @hst) ?_
    first|with_reducible refine ks [] @zT_ ?_|refine kp @zT_ ?_
    refine Ow.callFV rfl Tryz.call50 (fun w' hw'=>xc_ bw s a2 e2 w' (hw'.has _ _ (List.mem_cons_of_mem _ List.mem_cons_self))) ?_
    rw[qb_,hpc] at hpr
    simp only at hpr
    by_cases he:e2=0
    ·subst he
     rw[if_pos rfl] at hpr
     have d2: ((0:Int) !=0)=false:=rfl
     refine ko (And.intro @zT_ @d2) ?_
     obtain⟨p,hp⟩: ∃p,p=(⟨decide (0<F),if 0<F then((l.length:Nat):Int) - F else 0,t⟩:PartL):=⟨_,rfl⟩
     rw[←hp] at hpr
     refine Cw.cut (G:=PartL) 67 (fun g=> [(0,vp br 0),(1,vi n),(2,undef),(3,undef),(4,vp b4 0),(6,vi a)]) (fun g=>(b4, .cells (zq_ g).toArray 93 (0,0)):: (br,prO (vp bw 0) v1 v2):: (bw,wrO s a2 0):: (D1++ (D2++DG))) (fun g=>g=p) ?_ ?_
     ·refine Cw.permL (M:=(b4, .cells (zq_ ⟨false,0,t⟩).toArray 93 (0,0)):: (br,prO (vp bw 0) v1 v2):: (bw,wrO s a2 0):: (D1++ (D2++DG))) (by classical exact List.perm_iff_count.2 fun a=>by simp only[List.count_append,List.count_cons,List.count_nil]<;>omega) ?_
      by_cases hF:0<F
      ·have d3:decide ((0:Int)<F)=true:=decide_eq_true hF
       first|with_reducible refine ks [] (And.intro @zT_ @d3) ?_|refine kp (And.intro @zT_ @d3) ?_
       refine Cw.regionG [br] [10] 11 (by kernel_rfl) rfl ?_
       refine kyc ?_
       refine OwG.run [0,1,2,3,4,5,6,7] [true,true,true,true,true,true,true,true,false,false,false] 3 rfl (by kernel_rfl) (by kernel_rfl) fun k hk=> ?_
       refine kya ?_
       refine kp (And.intro @zT_ (And.intro @Md.next_sofnil (@l1))) ?_
       (with_reducible refine hk _ _ _ ?_);clear hk k
       refine OwG.one 8 _ (by kernel_rfl) rfl ?_
       refine ko @zT_ ?_
       refine⟨(fun r hr=>by rw[List.mem_singleton] at hr;subst hr;simp(disch:=omega) only[zr_,zm_]), ?_⟩
       refine OwG.rest [9,10] rfl (by kernel_rfl) (by kernel_rfl) ?_
       refine kya ?_
       refine kq @zT_ ?_
       refine Ow.store rfl rfl rfl (ke @zT_) ?_
       refine ko @zT_ ?_
       refine CutM.mk _ ?_ rfl rfl
       rw[hp,decide_eq_true hF,if_pos hF]
      ·have d3:decide ((0:Int)<F)=false:=decide_eq_false hF
       first|with_reducible refine ks [] (And.intro @zT_ @d3) ?_|refine kp (And.intro @zT_ @d3) ?_
       refine CutM.mk _ ?_ rfl rfl
       rw[hp,decide_eq_false hF,if_neg hF]
     ·intro g j hg
      simp only[apR_,apI_,pin,ji_,jk_,Nat.reduceAdd]
      subst hg
      clear hp
      generalize hpp:g=p at*
      obtain⟨O4,hO4⟩: ∃O,O=Obj.cells (zq_ p).toArray 93 (0,0):=⟨_,rfl⟩
      first|with_reducible refine ks [] @zT_ ?_|refine kp @zT_ ?_
      refine Cw.regionG [br,b4] [18,21] 22 (by kernel_rfl) rfl ?_
      refine kyc ?_
      refine OwG.run [0,1,2,3,4,5,6,9,10,11,12,13] [true,true,true,true,true,true,true,false,false,true,true,true,true,true,false,false,false,false,false,false,false,false] 10 rfl (by kernel_rfl) (by kernel_rfl) fun k hk=> ?_
      refine kya ?_
      refine kp (And.intro @zT_ @Md.next_sofnil) ?_
      (with_reducible refine hk _ _ _ ?_);clear hk k
      rw[←hO4]
      refine OwG.two 7 14 _ _ (by kernel_rfl) rfl rfl ?_ ?_
      ·refine Ow.buildSlice (e:=93) (zq_ p).toArray rfl rfl (qn_ (cs:=zq_ p) Tryz.underlying43 Tryz.ag93 xE_ (by decide) rfl) fun ba hba hwa=> ?_
       with_reducible refine Ow.nil ?_
       refine⟨qk_ (by simp[keys]), ?_⟩
       refine kyb ?_
       refine OwG.two 8 14 _ _ (by kernel_rfl) rfl rfl ?_ ?_
       ·refine Ow.permL (M:=D1++ ((b4,O4):: (br,prO (vp bw 0) v1 v2):: (bw,wrO s a2 0):: (D2++ (DG++ [(ba, .cells (zq_ p).toArray 93 (0,0))])))) (by classical exact List.perm_iff_count.2 fun a=>by simp only[List.count_append,List.count_cons,List.count_nil]<;>omega) ?_
        refine Ow.appendXG (e:=93) (k:=1) (new:=zq_ p) (X:=D1) v1 rfl rfl rfl rfl Tryz.underlying43 Tryz.ag93 (by kernel_rfl) xE_ (by rw[jG_];rfl) Tryz.underlying43 (by intro k h;cases h) hG1 (fun w' hw'=>AppX.one1 (hw'.has ba (.cells (zq_ p).toArray 93 (0,0)) (by simp)) (jx_ _) (k6_ _)) (by omega) (fun B4 v4 D4 hA4 hB4 hG4 hk41 hk42 hlk4=> ?_)
        have hN4:New w.heap.size D4:=New.of_le fun q hq=>by
         rcases hk42 q hq with h|h
         ·exact hN1.le q h
         ·omega
        refine Ow.permL (M:=(b4,O4):: (br,prO (vp bw 0) v1 v2):: (bw,wrO s a2 0):: (D4++ (D2++ (DG++ [(ba, .cells (zq_ p).toArray 93 (0,0))])))) (by classical exact List.perm_iff_count.2 fun a=>by simp only[List.count_append,List.count_cons,List.count_nil]<;>omega) ?_
        with_reducible refine Ow.nil ?_
        refine⟨(fun r hr=>by simp only[List.mem_cons,List.not_mem_nil,or_false] at hr;rcases hr with rfl|rfl<;>simp(disch:=omega) only[List.cons_append,List.nil_append,zr_,zm_]), ?_⟩
        refine kyb ?_
        refine OwG.one 14 _ (by kernel_rfl) rfl ?_
        refine Ow.buildSlice (e:=3) #[vi a] rfl rfl (by kernel_rfl) fun bc hbc hwc=> ?_
        with_reducible refine Ow.nil ?_
        refine⟨qk_ (by simp[keys]), ?_⟩
        refine kyb ?_
        refine OwG.permL (M:=(b4,O4):: (br,prO (vp bw 0) v1 v2):: (bw,wrO s a2 0):: (D4++ (D2++ (DG++ [(ba, .cells (zq_ p).toArray 93 (0,0)),(bc, .cells #[vi a] 3 (0,0))])))) (by classical exact List.perm_iff_count.2 fun a=>by simp only[List.count_append,List.count_cons,List.count_nil]<;>omega) (fun r hr=>by simp only[List.mem_cons,List.not_mem_nil,or_false] at hr;rcases hr with rfl|rfl<;>simp(disch:=omega) only[List.cons_append,List.nil_append,zr_,zm_]) ?_
        refine OwG.rest [15,16,17,18,19,20,21] rfl (by kernel_rfl) (by kernel_rfl) ?_
        refine kya ?_
        refine Ow.softA ?_
        refine Ow.permL (M:=D2++ ((b4,O4):: (br,prO (vp bw 0) v1 v2):: (bw,wrO s a2 0):: (D4++ (DG++ [(ba, .cells (zq_ p).toArray 93 (0,0)),(bc, .cells #[vi a] 3 (0,0))])))) (by classical exact List.perm_iff_count.2 fun a=>by simp only[List.count_append,List.count_cons,List.count_nil]<;>omega) ?_
        refine Ow.appendXG (e:=3) (k:=1) (new:=jt_ a) (X:=D2) v2 rfl rfl rfl rfl Tryz.underlying31 (id (by kernel_rfl):qc_ Tryz.prog 3=some (false,1)) (by kernel_rfl) (id (by kernel_rfl):zI_ Tryz.prog 3=some (vi 0)) rfl Tryz.underlying31 (by intro k h;cases h) hG2 (fun w' hw'=>AppX.one1 (hw'.has bc (.cells #[vi a] 3 (0,0)) (by simp)) (jm_ a) rfl) (by omega) (fun B5 v5 D5 hA5 hB5 hG5 hk51 hk52 hlk5=> ?_)
        have hN5:New w.heap.size D5:=New.of_le fun q hq=>by
         rcases hk52 q hq with h|h
         ·exact hN2.le q h
         ·omega
        refine Ow.permL (M:=(br,prO (vp bw 0) v1 v2):: (bw,wrO s a2 0):: (b4,O4):: (D4++ (D5++ (DG++ [(ba, .cells (zq_ p).toArray 93 (0,0)),(bc, .cells #[vi a] 3 (0,0))])))) (by classical exact List.perm_iff_count.2 fun a=>by simp only[List.count_append,List.count_cons,List.count_nil]<;>omega) ?_
        with_reducible refine Ow.nil ?_
        refine⟨(fun r hr=>by simp only[List.mem_cons,List.not_mem_nil,or_false] at hr;rcases hr with rfl|rfl<;>simp(disch:=omega) only[zr_,zm_]), ?_⟩
        have st4: ∀a,zn_ (some (a,1)) (some (prO (vp bw 0) v1 v2)) 1 v4=some (prO (vp bw 0) v4 v2):=fun a=>Jf_ _ v1 v2 v4 a hG4.cell
        have st5: ∀a,zn_ (some (a,1)) (some (prO (vp bw 0) v4 v2)) 2 v5=some (prO (vp bw 0) v4 v5):=fun a=>Jt_ _ v4 v2 v5 a hG5.cell
        refine kq @zT_ ?_
        refine Ow.store rfl rfl rfl (ke (And.intro @zT_ @st4)) ?_
        refine ko (And.intro @zT_ @st5) ?_
        subst hO4
        refine Jump.mk ⟨1,l++ [p],sp++ [a],a2,0,v4,v5,b4,p,D4,D5,DG++ [(ba, .cells (zq_ p).toArray 93 (0,0)),(bc, .cells #[vi a] 3 (0,0))]⟩ rfl (by show n - (l++ [p]).length+1<n - l.length+1;simp;omega) ⟨hw4,hN4,hN5,hNG.app ⟨hwa,hwc,trivial⟩,by simpa using hG4,by simpa using hG5,by simp[hsl],hle2.2,by simp;omega, .inl ⟨rfl, ?_⟩⟩ rfl rfl
        rw[hpr]
        simp
       ·refine Ow.buildSlice (e:=3) #[vi a] rfl rfl (by kernel_rfl) fun bc hbc hwc=> ?_
        with_reducible refine Ow.nil ?_
        refine⟨qk_ (by simp[keys]), ?_⟩
        refine kyb ?_
        refine OwG.one 8 _ (by kernel_rfl) rfl ?_
        refine Ow.permL (M:=D1++ ((b4,O4):: (br,prO (vp bw 0) v1 v2):: (bw,wrO s a2 0):: (D2++ (DG++ [(ba, .cells (zq_ p).toArray 93 (0,0)),(bc, .cells #[vi a] 3 (0,0))])))) (by classical exact List.perm_iff_count.2 fun a=>by simp only[List.count_append,List.count_cons,List.count_nil]<;>omega) ?_
        refine Ow.appendXG (e:=93) (k:=1) (new:=zq_ p) (X:=D1) v1 rfl rfl rfl rfl Tryz.underlying43 Tryz.ag93 (by kernel_rfl) xE_ (by rw[jG_];rfl) Tryz.underlying43 (by intro k h;cases h) hG1 (fun w' hw'=>AppX.one1 (hw'.has ba (.cells (zq_ p).toArray 93 (0,0)) (by simp)) (jx_ _) (k6_ _)) (by omega) (fun B4 v4 D4 hA4 hB4 hG4 hk41 hk42 hlk4=> ?_)
        have hN4:New w.heap.size D4:=New.of_le fun q hq=>by
         rcases hk42 q hq with h|h
         ·exact hN1.le q h
         ·omega
        refine Ow.permL (M:=(b4,O4):: (br,prO (vp bw 0) v1 v2):: (bw,wrO s a2 0):: (D4++ (D2++ (DG++ [(ba, .cells (zq_ p).toArray 93 (0,0)),(bc, .cells #[vi a] 3 (0,0))])))) (by classical exact List.perm_iff_count.2 fun a=>by simp only[List.count_append,List.count_cons,List.count_nil]<;>omega) ?_
        with_reducible refine Ow.nil ?_
        refine⟨(fun r hr=>by simp only[List.mem_cons,List.not_mem_nil,or_false] at hr;rcases hr with rfl|rfl<;>simp(disch:=omega) only[List.cons_append,List.nil_append,zr_,zm_]), ?_⟩
        refine kyb ?_
        refine OwG.permL (M:=(b4,O4):: (br,prO (vp bw 0) v1 v2):: (bw,wrO s a2 0):: (D4++ (D2++ (DG++ [(ba, .cells (zq_ p).toArray 93 (0,0)),(bc, .cells #[vi a] 3 (0,0))])))) (by classical exact List.perm_iff_count.2 fun a=>by simp only[List.count_append,List.count_cons,List.count_nil]<;>omega) (fun r hr=>by simp only[List.mem_cons,List.not_mem_nil,or_false] at hr;rcases hr with rfl|rfl<;>simp(disch:=omega) only[List.cons_append,List.nil_append,zr_,zm_]) ?_
        refine OwG.rest [15,16,17,18,19,20,21] rfl (by kernel_rfl) (by kernel_rfl) ?_
        refine kya ?_
        refine Ow.softA ?_
        refine Ow.permL (M:=D2++ ((b4,O4):: (br,prO (vp bw 0) v1 v2):: (bw,wrO s a2 0):: (D4++ (DG++ [(ba, .cells (zq_ p).toArray 93 (0,0)),(bc, .cells #[vi a] 3 (0,0))])))) (by classical exact List.perm_iff_count.2 fun a=>by simp only[List.count_append,List.count_cons,List.count_nil]<;>omega) ?_
        refine Ow.appendXG (e:=3) (k:=1) (new:=jt_ a) (X:=D2) v2 rfl rfl rfl rfl Tryz.underlying31 (id (by kernel_rfl):qc_ Tryz.prog 3=some (false,1)) (by kernel_rfl) (id (by kernel_rfl):zI_ Tryz.prog 3=some (vi 0)) rfl Tryz.underlying31 (by intro k h;cases h) hG2 (fun w' hw'=>AppX.one1 (hw'.has bc (.cells #[vi a] 3 (0,0)) (by simp)) (jm_ a) rfl) (by omega) (fun B5 v5 D5 hA5 hB5 hG5 hk51 hk52 hlk5=> ?_)
        have hN5:New w.heap.size D5:=New.of_le fun q hq=>by
         rcases hk52 q hq with h|h
         ·exact hN2.le q h
         ·omega
        refine Ow.permL (M:=(br,prO (vp bw 0) v1 v2):: (bw,wrO s a2 0):: (b4,O4):: (D4++ (D5++ (DG++ [(ba, .cells (zq_ p).toArray 93 (0,0)),(bc, .cells #[vi a] 3 (0,0))])))) (by classical exact List.perm_iff_count.2 fun a=>by simp only[List.count_append,List.count_cons,List.count_nil]<;>omega) ?_
        with_reducible refine Ow.nil ?_
        refine⟨(fun r hr=>by simp only[List.mem_cons,List.not_mem_nil,or_false] at hr;rcases hr with rfl|rfl<;>simp(disch:=omega) only[zr_,zm_]), ?_⟩
        have st4: ∀a,zn_ (some (a,1)) (some (prO (vp bw 0) v1 v2)) 1 v4=some (prO (vp bw 0) v4 v2):=fun a=>Jf_ _ v1 v2 v4 a hG4.cell
        have st5: ∀a,zn_ (some (a,1)) (some (prO (vp bw 0) v4 v2)) 2 v5=some (prO (vp bw 0) v4 v5):=fun a=>Jt_ _ v4 v2 v5 a hG5.cell
        refine kq @zT_ ?_
        refine Ow.store rfl rfl rfl (ke (And.intro @zT_ @st4)) ?_
        refine ko (And.intro @zT_ @st5) ?_
        subst hO4
        refine Jump.mk ⟨1,l++ [p],sp++ [a],a2,0,v4,v5,b4,p,D4,D5,DG++ [(ba, .cells (zq_ p).toArray 93 (0,0)),(bc, .cells #[vi a] 3 (0,0))]⟩ rfl (by show n - (l++ [p]).length+1<n - l.length+1;simp;omega) ⟨hw4,hN4,hN5,hNG.app ⟨hwa,hwc,trivial⟩,by simpa using hG4,by simpa using hG5,by simp[hsl],hle2.2,by simp;omega, .inl ⟨rfl, ?_⟩⟩ rfl rfl
        rw[hpr]
        simp
      ·refine Ow.buildSlice (e:=3) #[vi a] rfl rfl (by kernel_rfl) fun bc hbc hwc=> ?_
       with_reducible refine Ow.nil ?_
       refine⟨qk_ (by simp[keys]), ?_⟩
       refine kyb ?_
       refine OwG.one 7 _ (by kernel_rfl) rfl ?_
       refine Ow.buildSlice (e:=93) (zq_ p).toArray rfl rfl (qn_ (cs:=zq_ p) Tryz.underlying43 Tryz.ag93 xE_ (by decide) rfl) fun ba hba hwa=> ?_
       with_reducible refine Ow.nil ?_
       refine⟨qk_ (by simp[keys]), ?_⟩
       refine kyb ?_
       refine OwG.one 8 _ (by kernel_rfl) rfl ?_
       refine Ow.permL (M:=D1++ ((b4,O4):: (br,prO (vp bw 0) v1 v2):: (bw,wrO s a2 0):: (D2++ (DG++ [(ba, .cells (zq_ p).toArray 93 (0,0)),(bc, .cells #[vi a] 3 (0,0))])))) (by classical exact List.perm_iff_count.2 fun a=>by simp only[List.count_append,List.count_cons,List.count_nil]<;>omega) ?_
       refine Ow.appendXG (e:=93) (k:=1) (new:=zq_ p) (X:=D1) v1 rfl rfl rfl rfl Tryz.underlying43 Tryz.ag93 (by kernel_rfl) xE_ (by rw[jG_];rfl) Tryz.underlying43 (by intro k h;cases h) hG1 (fun w' hw'=>AppX.one1 (hw'.has ba (.cells (zq_ p).toArray 93 (0,0)) (by simp)) (jx_ _) (k6_ _)) (by omega) (fun B4 v4 D4 hA4 hB4 hG4 hk41 hk42 hlk4=> ?_)
       have hN4:New w.heap.size D4:=New.of_le fun q hq=>by
        rcases hk42 q hq with h|h
        ·exact hN1.le q h
        ·omega
       refine Ow.permL (M:=(b4,O4):: (br,prO (vp bw 0) v1 v2):: (bw,wrO s a2 0):: (D4++ (D2++ (DG++ [(ba, .cells (zq_ p).toArray 93 (0,0)),(bc, .cells #[vi a] 3 (0,0))])))) (by classical exact List.perm_iff_count.2 fun a=>by simp only[List.count_append,List.count_cons,List.count_nil]<;>omega) ?_
       with_reducible refine Ow.nil ?_
       refine⟨(fun r hr=>by simp only[List.mem_cons,List.not_mem_nil,or_false] at hr;rcases hr with rfl|rfl<;>simp(disch:=omega) only[List.cons_append,List.nil_append,zr_,zm_]), ?_⟩
       refine kyb ?_
       refine OwG.permL (M:=(b4,O4):: (br,prO (vp bw 0) v1 v2):: (bw,wrO s a2 0):: (D4++ (D2++ (DG++ [(ba, .cells (zq_ p).toArray 93 (0,0)),(bc, .cells #[vi a] 3 (0,0))])))) (by classical exact List.perm_iff_count.2 fun a=>by simp only[List.count_append,List.count_cons,List.count_nil]<;>omega) (fun r hr=>by simp only[List.mem_cons,List.not_mem_nil,or_false] at hr;rcases hr with rfl|rfl<;>simp(disch:=omega) only[List.cons_append,List.nil_append,zr_,zm_]) ?_
       refine OwG.rest [15,16,17,18,19,20,21] rfl (by kernel_rfl) (by kernel_rfl) ?_
       refine kya ?_
       refine Ow.softA ?_
       refine Ow.permL (M:=D2++ ((b4,O4):: (br,prO (vp bw 0) v1 v2):: (bw,wrO s a2 0):: (D4++ (DG++ [(ba, .cells (zq_ p).toArray 93 (0,0)),(bc, .cells #[vi a] 3 (0,0))])))) (by classical exact List.perm_iff_count.2 fun a=>by simp only[List.count_append,List.count_cons,List.count_nil]<;>omega) ?_
       refine Ow.appendXG (e:=3) (k:=1) (new:=jt_ a) (X:=D2) v2 rfl rfl rfl rfl Tryz.underlying31 (id (by kernel_rfl):qc_ Tryz.prog 3=some (false,1)) (by kernel_rfl) (id (by kernel_rfl):zI_ Tryz.prog 3=some (vi 0)) rfl Tryz.underlying31 (by intro k h;cases h) hG2 (fun w' hw'=>AppX.one1 (hw'.has bc (.cells #[vi a] 3 (0,0)) (by simp)) (jm_ a) rfl) (by omega) (fun B5 v5 D5 hA5 hB5 hG5 hk51 hk52 hlk5=> ?_)
       have hN5:New w.heap.size D5:=New.of_le fun q hq=>by
        rcases hk52 q hq with h|h
        ·exact hN2.le q h
        ·omega
       refine Ow.permL (M:=(br,prO (vp bw 0) v1 v2):: (bw,wrO s a2 0):: (b4,O4):: (D4++ (D5++ (DG++ [(ba, .cells (zq_ p).toArray 93 (0,0)),(bc, .cells #[vi a] 3 (0,0))])))) (by classical exact List.perm_iff_count.2 fun a=>by simp only[List.count_append,List.count_cons,List.count_nil]<;>omega) ?_
       with_reducible refine Ow.nil ?_
       refine⟨(fun r hr=>by simp only[List.mem_cons,List.not_mem_nil,or_false] at hr;rcases hr with rfl|rfl<;>simp(disch:=omega) only[zr_,zm_]), ?_⟩
       have st4: ∀a,zn_ (some (a,1)) (some (prO (vp bw 0) v1 v2)) 1 v4=some (prO (vp bw 0) v4 v2):=fun a=>Jf_ _ v1 v2 v4 a hG4.cell
       have st5: ∀a,zn_ (some (a,1)) (some (prO (vp bw 0) v4 v2)) 2 v5=some (prO (vp bw 0) v4 v5):=fun a=>Jt_ _ v4 v2 v5 a hG5.cell
       refine kq @zT_ ?_
       refine Ow.store rfl rfl rfl (ke (And.intro @zT_ @st4)) ?_
       refine ko (And.intro @zT_ @st5) ?_
       subst hO4
       refine Jump.mk ⟨1,l++ [p],sp++ [a],a2,0,v4,v5,b4,p,D4,D5,DG++ [(ba, .cells (zq_ p).toArray 93 (0,0)),(bc, .cells #[vi a] 3 (0,0))]⟩ rfl (by show n - (l++ [p]).length+1<n - l.length+1;simp;omega) ⟨hw4,hN4,hN5,hNG.app ⟨hwa,hwc,trivial⟩,by simpa using hG4,by simpa using hG5,by simp[hsl],hle2.2,by simp;omega, .inl ⟨rfl, ?_⟩⟩ rfl rfl
       rw[hpr]
       simp
    ·have d2: (e2 !=0)=true:=bne_iff_ne.2 he
     rw[if_neg he] at hpr
     refine ko (And.intro @zT_ @d2) ?_
     first|with_reducible refine ks [] (And.intro @zT_ @d2) ?_|refine kp (And.intro @zT_ @d2) ?_
     refine Jump.mk ⟨0,l,sp,a2,e2,v1,v2,b4,_,D1,D2,DG⟩ rfl (by show 0<n - l.length+1;omega) ⟨hw4,hN1,hN2,hNG,hG1,hG2,hsl,hle2.2,hln, .inr ⟨rfl, ?_⟩⟩ rfl rfl
     rw[hpr]
     simp
  ·obtain⟨hlab,hpr⟩:=hg
   simp only at hlab
   subst hlab
   simp only[RdL,RdH] at hpr ⊢
   simp only[xD_,ZS_,Bool.or_false,Bool.false_or,Bool.or_true,Bool.true_or,Nat.reduceBEq,beq_self_eq_true, ↓reduceIte,Bool.false_eq_true]
   refine kv ?_
   try with_reducible refine qr_ ?_
   first|with_reducible refine ks [] @zT_ ?_|refine kp @zT_ ?_
   refine⟨_,(ke @zT_), ?_⟩
   refine⟨acm_ ⟨hw4,hNr⟩,rfl,v1,v2,_,by rw[hpr], ?_, ?_⟩
   ·rw[hpr];exact Gr.i hG1 fun c hc=>by simp[hc]
   ·rw[hpr];exact Gr.i hG2 fun c hc=>by simp[hc]
 ·intro key
  repeat first|with_reducible refine ks [999999] @zT_ ?_|refine kw @zT_ ?_
  refine Ow.alloc rfl rfl xE_ fun b4 hb4 hw4=> ?_
  simp only[za_,List.nil_append,List.cons_append]
  refine ko @zT_ ?_
  repeat first|with_reducible refine ks [999999] @zT_ ?_|refine kw @zT_ ?_
  have key0:=fun f'=>key (⟨1,[],[],a0,e0, .slice none 0 0, .slice none 0 0,b4,z6_,[],[],[]⟩) f'
  simp only[xD_,ZS_,Bool.or_false,Bool.false_or,Bool.or_true,Bool.true_or,Nat.reduceBEq,beq_self_eq_true, ↓reduceIte,Bool.false_eq_true] at key0
  clear key
  refine Cw.label ?_
  refine key0 _ ⟨hw4,trivial,trivial,trivial,Gr.nl,Gr.nl,rfl,ha,Nat.zero_le _, .inl ⟨rfl, ?_⟩⟩ ?_
  ·rfl
  ·rfl
end Go.Proofs
end
section
open Go Go.Proofs Go.Sx Go.StP Go.Flo
namespace Go.Proofs
set_option maxRecDepth 10000
set_option maxHeartbeats 400000
set_option linter.unusedSimpArgs false
abbrev arg_ (w:World) (v:Value) (l:List Nat):Prop:=SlV 1 jt_ 0 w v l
abbrev ObSl (w:World) (v:Value) (l:List ObL):Prop:=SlV 2 obC ob0 w v l
def PackIn (w:World) (bp:Nat) (l:List PartL) (sp:List Nat) (ids:List IdL) (os:List ObL):Prop:=
 ∃v0 v1 v2 v3,w.heap[bp]? =some (pkO v0 v1 v2 v3)∧v8_ w v0 l∧arg_ w v1 sp∧IdS w v2 ids∧ObSl w v3 os
def PackD (D:zb_) (bp:Nat) (l:List PartL) (sp:List Nat) (ids:List IdL) (os:List ObL):Prop:=
 ∃v0 v1 v2 v3,(bp,pkO v0 v1 v2 v3)∈D∧GrI D 93 3 v0 l.length (l.map zq_).flatten∧GrI D 3 1 v1 sp.length (sp.map jt_).flatten∧GrI D 41 32 v2 ids.length (ids.map kq_).flatten∧GrI D 26 2 v3 os.length (os.map obC).flatten
theorem PackD.mono {D D':zb_} {bp:Nat} {l:List PartL} {sp:List Nat} {ids:List IdL} {os:List ObL} (h:PackD D bp l sp ids os) (hD: ∀p,p∈D→p∈D'):PackD D' bp l sp ids os:=by
 obtain⟨v0,v1,v2,v3,h1,h2,h3,h4,h5⟩:=h
 exact⟨v0,v1,v2,v3,hD _ h1,h2.mono hD,h3.mono hD,h4.mono hD,h5.mono hD⟩
theorem PackD.inW {w0 w:World} {D L:zb_} {bp:Nat} {l:List PartL} {sp:List Nat} {ids:List IdL} {os:List ObL} (h:PackD D bp l sp ids os) (hD: ∀p,p∈D→p∈L) (hw:Hp w0 L w):PackIn w bp l sp ids os:=by
 obtain⟨v0,v1,v2,v3,h1,h2,h3,h4,h5⟩:=h.mono hD
 exact⟨v0,v1,v2,v3,hw.has _ _ h1,h2.slV hw rfl rfl jx_,h3.slV hw rfl rfl jm_,h4.slV hw rfl rfl qT_,h5.slV hw rfl rfl Vx_⟩
theorem PackIn.old {w w':World} {L:zb_} {bp:Nat} {l:List PartL} {sp:List Nat} {ids:List IdL} {os:List ObL} (h:PackIn w bp l sp ids os) (hw:Hp w L w') (hn:New w.heap.size L):PackIn w' bp l sp ids os:=by
 obtain⟨v0,v1,v2,v3,h1,h2,h3,h4,h5⟩:=h
 exact⟨v0,v1,v2,v3,by rw[hw.old bp (Array.getElem?_eq_some_iff.1 h1).1 (hn.not (Array.getElem?_eq_some_iff.1 h1).1)];exact h1,h2.oldN hw hn,h3.oldN hw hn,h4.oldN hw hn,h5.oldN hw hn⟩
theorem aq6_ (b o:Nat):qL_ Tryz.prog .eql 34 (vp b o) (.pointer none)=some (.bool false):=by
 simp[qL_,eqX,qZ_,qF_,Tryz.underlying34,vp]
set_option linter.defProp false
def am7_:=And.intro (And.intro (And.intro (@zA_) (And.intro (@zz_) (@K2_))) (And.intro (@ad8_) (And.intro (@aed_) (@ad7_)))) (And.intro (And.intro (@aq6_) (And.intro (@ve_) (@xW_))) (And.intro (@xQ_) (And.intro (@kr_) (@wL_))))
theorem ajO_ (bp:Nat) (l:List PartL) (sp:List Nat) (ids:List IdL) (os:List ObL) (w:World) (h:PackIn w bp l sp ids os):
  Rets Tryz.prog 10 #[vp bp 0] w (fun v D=>v=vi l.length∧D= []):=by
 obtain⟨v0,v1,v2,v3,h1,h2,h3,h4,h5⟩:=h
 have ln:=h2.len
 refine Rets.enterV Tryz.func10 rfl (rs:= [.tmp 2]) Tryz.results10 Tryz.ntmps10 ?_
 refine kf ?_
 first|with_reducible refine ks [] (And.intro @am7_ (And.intro @h1 (@ln))) ?_|refine kp (And.intro @am7_ (And.intro @h1 (@ln))) ?_
 refine⟨_,(ke @am7_),trivial, ?_⟩
 rfl
end Go.Proofs
end
section
open Go Go.Proofs Go.Sx Go.StP Go.Flo
namespace Go.Proofs
set_option maxRecDepth 10000
set_option maxHeartbeats 400000
set_option linter.unusedSimpArgs false
theorem GlobC.newP {w0 w:World} {L:zb_} (hg:GlobC w0) (h:Hp w0 L w) (hn:New w0.heap.size L):GlobC w:=
 hg.of h (hn.not (by obtain⟨e,f,h⟩:=hg;exact(Array.getElem?_eq_some_iff.1 h).1))
theorem zrPk:zI_ Tryz.prog 70=some (.agg #[.slice none 0 0, .slice none 0 0, .slice none 0 0, .slice none 0 0]):=id (by kernel_rfl)
theorem ajd_ {w:World} {v0:Value} {l:List PartL} (hv:v8_ w v0 l):qR_ (x7_ Tryz.prog 70) (zI_ Tryz.prog 70) [(0,v0)]=some (.agg #[v0, .slice none 0 0, .slice none 0 0, .slice none 0 0]):=by
 rw[show x7_ Tryz.prog 70=some [(0,1),(1,1),(2,1),(3,1)] from id (by kernel_rfl),zrPk]
 obtain⟨b,off,c,arr,E,fz,hr,hc,⟨rfl,rfl,rfl⟩ | ⟨rfl,hb,hsz⟩⟩:=hv<;>rfl
theorem apt_ {α:Type} {m:Nat} {enc:α→List Value} {z:α} {w:World} {v:Value} {l:List α} (hv:SlV m enc z w v l) {b:Nat} (hb:slB v=some b):b<w.heap.size:=by
 obtain⟨bb,off,c,arr,E,fz,hr,hc,⟨rfl,-,-⟩ | ⟨rfl,h,-⟩⟩:=hv
 ·cases hb
 ·cases hb;exact(Array.getElem?_eq_some_iff.1 h).1
theorem wn_: ∀ (l:List PartL) (i g:Nat),g<l.length→q7_ i (l.take (g+1))=q7_ i (l.take g)++kV_ (i+g) (l.getD g z6_)
 | [],_,_,h=>absurd h (Nat.not_lt_zero _)
 |p::r,i,0,_=>by simp[q7_]
 |p::r,i,g+1,h=>by
  have:=wn_ r (i+1) g (by simpa using h)
  rw[List.take_succ_cons,q7_,this,List.take_succ_cons,q7_,List.getD_cons_succ,List.append_assoc,show i+1+g=i+ (g+1) by omega]
def SmallP (l:List PartL):Prop:= ∀g,g<l.length→(l.getD g z6_).x.length≤17000000
theorem af9_ {l:List PartL} {q:List IdL×List ObL} (h:fillV l=some q):SmallP l:=by
 unfold fillV at h
 cases ha:JB_ l with
 |error e=>rw[ha] at h;cases h
 |ok ts=>
  unfold JB_ at ha
  split at ha
  ·cases ha
  ·intro k hk
   have hp:=vE_ _ _ ha k hk
   unfold partV at hp
   cases hq:jZ_ l (k:Nat) with
   |error e=>rw[hq] at hp;cases hp
   |ok p=>
    rw[hq] at hp
    change w5_ l p= .ok _ at hp
    have hpk: ∃r,p=k::r:=by
     rcases j4_ hk hq with⟨rfl,-⟩ | ⟨b,q,rfl,-⟩
     ·exact⟨[],rfl⟩
     ·exact⟨q,rfl⟩
    obtain⟨r,rfl⟩:=hpk
    unfold w5_ at hp
    cases hf:w5_ l r with
    |error e=>rw[hf] at hp;cases hp
    |ok t=>
     rw[hf] at hp
     change(if(jD_ (l.getD k z6_) t).2=0 then _ else _)=_ at hp
     split at hp
     ·rename_i h0
      unfold jD_ at h0
      split at h0
      ·unfold xi_ at h0
       split at h0
       ·exact absurd (show(2:Int)=0 from h0) (by decide)
       ·rename_i p' hd;exact ae8_ hd
      ·split at h0
       ·exact absurd (show(19:Int)=0 from h0) (by decide)
       ·omega
     ·cases hp
theorem SmallP.bnd {l:List PartL} (h:SmallP l):BndL l:=fun g hg=>Nat.lt_of_le_of_lt (h g hg) (by omega)
theorem afK_ {i:Nat} {p:PartL} (h:p.x.length≤17000000): (kV_ i p).length≤17000012:=by
 have h1:=zp_ (ZX_ i p)
 have h2:=zp_ (p.x.length:Int)
 unfold kV_ jN_
 rw[List.length_append,List.length_append]
 omega
theorem Zf_ {l:List PartL} (h:SmallP l): ∀g,g≤l.length→(q7_ 0 (l.take g)).length≤g*17000012
 |0,_=>by simp[q7_]
 |g+1,hg=>by
  rw[wn_ l 0 g hg,List.length_append]
  have:=Zf_ h g (by omega)
  have:=afK_ (i:=0+g) (h g hg)
  omega
theorem ajp_ {l:List PartL} {q:List IdL×List ObL} (h:fillV l=some q) {k:Nat} (hk:k<l.length) (hd: (l.getD k z6_).d=true):0≤ (l.getD k z6_).b∧(l.getD k z6_).b<k:=by
 unfold fillV at h
 cases ha:JB_ l with
 |error e=>rw[ha] at h;cases h
 |ok ts=>
  unfold JB_ at ha
  split at ha
  ·cases ha
  ·have hp:=vE_ _ _ ha k hk
   unfold partV at hp
   cases hq:jZ_ l (k:Nat) with
   |error e=>rw[hq] at hp;cases hp
   |ok p=>
    rcases j4_ hk hq with⟨-,hd',-⟩ | ⟨b,q,-,-,hb,hlt,-⟩
    ·rw[hd] at hd';cases hd'
    ·rw[hb];omega
structure PwG where
 k:Nat
 D:zb_
set_option linter.defProp false
def qu_:=And.intro (And.intro (And.intro (@zA_) (@zz_)) (And.intro (@K2_) (And.intro (@vI_) (@vz_)))) (And.intro (And.intro (@vA_) (And.intro (@Kh_) (@jG_))) (And.intro (@xu_) (And.intro (@Sx.tup2_0) (@Sx.tup2_1))))
theorem aco_ (v0:Value) (l:List PartL) (w:World) (hv:v8_ w v0 l) (hG:GlobE w) (hC:GlobC w) (hb:BndL l) (hl:l.length<1000000):
  Rets Tryz.prog 15 #[v0] w (fun v D=>v= .tuple #[vs (wJ_ l).1,vi (wJ_ l).2]∧D= []):=by
 have hgr:3<w.heap.size:=by obtain⟨e0,e1,f0,f1,h0,h1⟩:=hG;exact(Array.getElem?_eq_some_iff.1 h1).1
 obtain⟨b1,off,arr,E,fz,hr⟩:=hv.row
 have ln:=hv.len
 refine Rets.enterV Tryz.func15 rfl (rs:= [.tmp 2, .tmp 3]) Tryz.results15 Tryz.ntmps15 ?_
 refine kf ?_
 first|with_reducible refine ks [4,1000011] @qu_ ?_|refine kp @qu_ ?_
 refine Ow.build (.agg #[v0, .slice none 0 0, .slice none 0 0, .slice none 0 0]) rfl (ajd_ hv) ?_
 refine ko @qu_ ?_
 refine Ow.box rfl rfl fun b4 hb4 hw4=> ?_
 simp only[zD_,zH_,zG_,za_,List.nil_append]
 refine Ow.permL (M:= [(b4,pkO v0 (.slice none 0 0) (.slice none 0 0) (.slice none 0 0))]) (List.Perm.refl _) ?_
 refine ko @qu_ ?_
 first|with_reducible refine ks [] @qu_ ?_|refine kp @qu_ ?_
 refine Ow.callX (Y:= []) (by simp) rfl rfl Tryz.call29 (fun w' hw' hX hn=>aaN_ b4 v0 (.slice none 0 0) l w' (hv.oldN hw' ⟨hw4,trivial⟩) (hG.new hw' ⟨hw4,trivial⟩) hb hl (hX _ List.mem_cons_self) (fun h=>by have:=apt_ hv h;omega) (by omega)) (fun v13 D13 hC13 hS13=> ?_)
 have hN13:New w.heap.size D13:=qA_ hC13 ⟨hw4,trivial⟩
 rw[List.append_nil]
 unfold adx_ at hS13
 unfold wJ_
 cases hf:fillV l with
 |none=>
  rw[hf] at hS13
  have hS13':v13= .bool false:=hS13
  subst hS13'
  refine ko @qu_ ?_
  first|with_reducible refine ks [] @qu_ ?_|refine kp @qu_ ?_
  refine⟨_,(ke @qu_),hN13, ?_⟩
  rfl
 |some q=>
  rw[hf] at hS13
  obtain⟨rfl,-⟩:=hS13
  have hx:=af9_ hf
  have hll:l.length≤200:=by
   unfold fillV at hf
   cases ha:JB_ l with
   |error e=>rw[ha] at hf;cases hf
   |ok ts=>exact(aeM_ ha).2.1
  refine ko @qu_ ?_
  refine Cw.forgetN [] (by exact hN13) (by intro p hp;simp only[List.mem_cons,List.not_mem_nil,or_false] at hp ⊢;all_goals (first| (rcases hp with rfl|hp<;>simp_all) | (subst hp;simp) |simp_all)) (by simp[keys]<;>omega) ?_
  first|with_reducible refine ks [] @qu_ ?_|refine kp @qu_ ?_
  refine Ow.alloc rfl rfl Tryz.zr89 fun b5 hb5 hw5=> ?_
  refine ko @qu_ ?_
  have hZ:BldAt b5 [] [(b5, .cells #[.pointer none, .slice none 0 0] 89 (0,0))]:=BldAt.zeroE b5 (zP_ _ _ _)
  refine Ow.buildSlice (e:=9) #[vs [83,80,75,49]] rfl rfl (by kernel_rfl) fun b15 hb15 hw15=> ?_
  have h515:b5<b15:=zh_ hb15 (by simp[keys])
  refine ko @qu_ ?_
  refine Ow.callX (Y:= [(b15, .cells #[vs [83,80,75,49]] 9 (0,0))]) (by simp) rfl rfl Tryz.call36 (fun w' hw' hX hn=>vu_ b5 [(b5, .cells #[.pointer none, .slice none 0 0] 89 (0,0))] [] _ b15 0 [[83,80,75,49]] _ _ _ w' hZ hX hn (StrS.lit [[83,80,75,49]] rfl rfl (hw'.has _ _ (List.mem_cons_of_mem _ List.mem_cons_self))) (fun _ hm=>by simp[keys] at hm;omega) (by simp) (by simp)) (fun v16 D16 hC16 hS16=> ?_)
  obtain⟨rfl,hB16⟩:=hS16
  have hN16:New w.heap.size D16:=qA_ hC16 ⟨hw5,trivial⟩
  refine ko @qu_ ?_
  first|with_reducible refine ks [] (And.intro @qu_ @ln) ?_|refine kp (And.intro @qu_ @ln) ?_
  refine Ow.buildSlice (e:=3) #[vi l.length] rfl rfl (by kernel_rfl) fun b19 hb19 hw19=> ?_
  refine ko @qu_ ?_
  rw[List.append_assoc]
  refine Ow.callX (Y:= [(b15, .cells #[vs [83,80,75,49]] 9 (0,0)),(b19, .cells #[vi l.length] 3 (0,0))]) (by simp) rfl rfl Tryz.call37 (fun w' hw' hX hn=>jH_ b5 D16 _ _ b19 0 [(l.length:Int)] _ _ _ w' hB16 hX hn (OneS.lit [(l.length:Int)] rfl rfl (hw'.has b19 (.cells #[vi l.length] 3 (0,0)) (by simp))) (fun _ hm=>Nat.lt_irrefl _ (zh_ hb19 (by rw[ze_];exact List.mem_append_left _ hm))) (by simp)) (fun v20 D20 hC20 hS20=> ?_)
  obtain⟨rfl,hB20⟩:=hS20
  rw[JI_] at hB20
  have hN20:New w.heap.size D20:=qA_ hC20 hN16
  have hB0:BldAt b5 (magB++ (jb_ (zx_ (l.length:Int))++q7_ 0 (l.take 0))) (D20++ [(b15, .cells #[vs [83,80,75,49]] 9 (0,0)),(b19, .cells #[vi l.length] 3 (0,0))]):=by
   have:=hB20.app (Y:= [(b15,Obj.cells #[vs [83,80,75,49]] 9 (0,0)),(b19, .cells #[vi l.length] 3 (0,0))])
   simpa [magB,q7_] using this
  refine ko @qu_ ?_
  first|with_reducible refine ks [] (And.intro @qu_ @ln) ?_|refine kp (And.intro @qu_ @ln) ?_
  have hnl:=zp_ (l.length:Int)
  refine Cw.loopG (G:=PwG) [24,25,26,27,7,6,8,28,29,30,31,32,33,34,35,36,37,38,39,40,41,23] (fun g=> [(23,vi g.k)]) (fun g=>g.D) (fun g=>g.k≤l.length∧New w.heap.size g.D∧BldAt b5 (magB++ (jb_ (zx_ (l.length:Int))++q7_ 0 (l.take g.k))) g.D) (fun g=>l.length - g.k) ⟨0,D20++ [(b15, .cells #[vs [83,80,75,49]] 9 (0,0)),(b19, .cells #[vi l.length] 3 (0,0))]⟩ rfl rfl ?_ ?_
  ·exact⟨Nat.zero_le _,hN20.app ⟨hw15,hw19,trivial⟩,hB0⟩
  intro g j hg
  refine kv ?_
  obtain⟨k,D⟩:=g
  simp only at hg ⊢
  obtain⟨hk,hN,hB⟩:=hg
  by_cases hlt:k<l.length
  ·have d1:decide ((k:Int)< (l.length:Int))=true:=decide_eq_true (by omega)
   have hb1:=hr.has (by omega)
   have hb1l:=hr.lt (by omega)
   have ix:=hr.idx true k hlt
   have ld:=hr.load jx_ (by omega) hlt
   have rd:zk_ w D b1=some (.cells arr E fz):=by rw[zX_ (hN.not hb1l)];exact hb1
   have hpl:=hx k hlt
   have hpt:=Zf_ hx k hk
   have hsn:=wn_ l 0 k hlt
   have hpb:=ajp_ hf hlt
   generalize hp:l.getD k z6_=p at*
   have hst:=xu_ p z6_ 93
   first|with_reducible refine ks [1000011] (And.intro @qu_ (And.intro @d1 (And.intro @ix (And.intro @rd (@ld))))) ?_|refine kp (And.intro @qu_ (And.intro @d1 (And.intro @ix (And.intro @rd (@ld))))) ?_
   refine Ow.alloc rfl rfl xE_ fun b7 hb7 hw7=> ?_
   simp only[za_,List.nil_append,List.cons_append]
   refine Ow.permL (M:=(b7, .cells (zq_ z6_).toArray 93 (0,0))::D) (by classical exact List.perm_iff_count.2 fun a=>by simp only[List.count_append,List.count_cons,List.count_nil]<;>omega) ?_
   refine ko (And.intro @qu_ @hst) ?_
   have hN7:New w.heap.size ((b7,Obj.cells (zq_ p).toArray 93 (0,0))::D):=⟨hw7,hN⟩
   refine Cw.cutO (G:=Unit) [8,28,29,30,31,32,33] (fun g=> [(8,vi (ZX_ k p))]) (fun g=>(b7, .cells (zq_ p).toArray 93 (0,0))::D) (fun g=>True) ?_ ?_
   ·cases hd:p.d with
    |true=>
     have hf:ZX_ k p=(k:Int) - p.b:=by unfold ZX_;rw[if_pos hd]
     have hb2:=hpb hd
     first|with_reducible refine ks [] (And.intro @qu_ @hd) ?_|refine kp (And.intro @qu_ @hd) ?_
     refine CutO.mk () trivial rfl ?_
     rw[hf];rfl
    |false=>
     have hf:ZX_ k p=0:=by unfold ZX_;rw[if_neg (by rw[hd];decide)]
     first|with_reducible refine ks [] (And.intro @qu_ @hd) ?_|refine kp (And.intro @qu_ @hd) ?_
     refine CutO.mk () trivial rfl ?_
     rw[hf];rfl
   ·intro u ju hu
    refine kv ?_
    first|with_reducible refine ks [] @qu_ ?_|refine kp @qu_ ?_
    have hfl:=zp_ (ZX_ k p)
    have hxl:=zp_ (p.x.length:Int)
    have htx:xA_ [p.x]=jN_ p.x:=by simp[xA_]
    have htl: (jN_ p.x).length=(jb_ (zx_ p.x.length)).length+p.x.length:=by unfold jN_;rw[List.length_append]
    have hml: (magB++ (jb_ (zx_ (l.length:Int))++q7_ 0 (l.take k))).length=4+ ((jb_ (zx_ (l.length:Int))).length+ (q7_ 0 (l.take k)).length):=by rw[List.length_append,List.length_append];rfl
    refine Ow.buildSlice (e:=3) #[vi (ZX_ k p)] rfl rfl (by kernel_rfl) fun b35 hb35 hw35=> ?_
    refine ko @qu_ ?_
    refine Ow.permL (M:=D++ [(b7,Obj.cells (zq_ p).toArray 93 (0,0)),(b35, .cells #[vi (ZX_ k p)] 3 (0,0))]) (by classical exact List.perm_iff_count.2 fun a=>by simp only[List.count_append,List.count_cons,List.count_nil]<;>omega) ?_
    refine Ow.callX (Y:= [(b7,Obj.cells (zq_ p).toArray 93 (0,0)),(b35, .cells #[vi (ZX_ k p)] 3 (0,0))]) (by simp) rfl rfl Tryz.call37 (fun w' hw' hX hn=>jH_ b5 D _ _ b35 0 [ZX_ k p] _ _ _ w' hB hX hn (OneS.lit [ZX_ k p] rfl rfl (hw'.has b35 (.cells #[vi (ZX_ k p)] 3 (0,0)) (by simp))) (fun _ hm=>Nat.lt_irrefl _ (zh_ hb35 (by simp[keys] at hm ⊢;exact .inr hm))) (by rw[hml];simp;omega)) (fun v36 D36 hC36 hS36=> ?_)
    obtain⟨rfl,hB36⟩:=hS36
    rw[JI_] at hB36
    have hN36:New w.heap.size D36:=qA_ hC36 hN
    refine Ow.permL (M:=(b7,Obj.cells (zq_ p).toArray 93 (0,0)):: (D36++ [(b35, .cells #[vi (ZX_ k p)] 3 (0,0))])) (by classical exact List.perm_iff_count.2 fun a=>by simp only[List.count_append,List.count_cons,List.count_nil]<;>omega) ?_
    refine ko @qu_ ?_
    first|with_reducible refine ks [] @qu_ ?_|refine kp @qu_ ?_
    refine Ow.buildSlice (e:=9) #[vs p.x] rfl rfl (by kernel_rfl) fun b39 hb39 hw39=> ?_
    refine ko @qu_ ?_
    refine Ow.permL (M:=D36++ [(b7,Obj.cells (zq_ p).toArray 93 (0,0)),(b35, .cells #[vi (ZX_ k p)] 3 (0,0)),(b39, .cells #[vs p.x] 9 (0,0))]) (by classical exact List.perm_iff_count.2 fun a=>by simp only[List.count_append,List.count_cons,List.count_nil]<;>omega) ?_
    refine Ow.callX (Y:= [(b7,Obj.cells (zq_ p).toArray 93 (0,0)),(b35, .cells #[vi (ZX_ k p)] 3 (0,0)),(b39, .cells #[vs p.x] 9 (0,0))]) (by simp) rfl rfl Tryz.call38 (fun w' hw' hX hn=>X5_ b5 D36 _ _ b39 0 [p.x] _ _ _ w' hB36 hX hn (StrS.lit [p.x] rfl rfl (hw'.has b39 (.cells #[vs p.x] 9 (0,0)) (by simp))) (fun _ hm=>Nat.lt_irrefl _ (zh_ hb39 (by simp[keys] at hm ⊢;exact .inr (.inl hm)))) (by rw[htx,List.length_append,hml,htl];omega) (by simp)) (fun v40 D40 hC40 hS40=> ?_)
    obtain⟨rfl,hB40⟩:=hS40
    rw[htx] at hB40
    have hN40:New w.heap.size D40:=qA_ hC40 hN36
    refine ko @qu_ ?_
    first|with_reducible refine ks [] @qu_ ?_|refine kp @qu_ ?_
    refine Again.mk ⟨k+1,D40++ [(b7,Obj.cells (zq_ p).toArray 93 (0,0)),(b35, .cells #[vi (ZX_ k p)] 3 (0,0)),(b39, .cells #[vs p.x] 9 (0,0))]⟩ (by show l.length - (k+1)<l.length - k;omega) ⟨hlt,hN40.app ⟨hw7,hw35,hw39,trivial⟩, ?_⟩ rfl rfl
    show BldAt b5 (magB++ (jb_ (zx_ (l.length:Int))++q7_ 0 (l.take (k+1)))) _
    rw[hsn]
    have:=hB40.app (Y:= [(b7,Obj.cells (zq_ p).toArray 93 (0,0)),(b35, .cells #[vi (ZX_ k p)] 3 (0,0)),(b39, .cells #[vs p.x] 9 (0,0))])
    rw[Nat.zero_add]
    simpa [kV_] using this
  ·obtain rfl:k=l.length:=by omega
   have d1:decide ((l.length:Int)< (l.length:Int))=false:=decide_eq_false (by omega)
   have hpt:=Zf_ hx l.length (Nat.le_refl _)
   rw[List.take_length] at hpt hB
   have hpl: (vl_ l).length<34359738368:=by
    unfold vl_
    rw[List.length_append,List.length_append,show magB.length=4 from rfl]
    omega
   first|with_reducible refine ks [] (And.intro @qu_ @d1) ?_|refine kp (And.intro @qu_ @d1) ?_
   refine Ow.callX (Y:= []) (by simp) rfl rfl Tryz.call40 (fun w' hw' hX hn=>xY_ b5 D (vl_ l) w' hB hX hn hpl) (fun v42 D42 hC42 hS42=> ?_)
   subst hS42
   have hN42:New w.heap.size D42:=qA_ hC42 hN
   rw[List.append_nil]
   refine ko @qu_ ?_
   refine Ow.callFV rfl Tryz.call39 (fun w' hw'=>Kg_ (vl_ l) w' (hC.newP hw' hN42) (by omega)) ?_
   refine ko @qu_ ?_
   first|with_reducible refine ks [] @qu_ ?_|refine kp @qu_ ?_
   refine⟨_,(ke @qu_),hN42, ?_⟩
   rfl
end Go.Proofs
end
section
open Go Go.Proofs Go.Sx Go.StP Go.Flo
namespace Go.Proofs
set_option maxRecDepth 10000
set_option maxHeartbeats 400000
set_option linter.unusedSimpArgs false
instance:DecidableEq PartL:=fun a b=>if h:a.d=b.d∧a.b=b.b∧a.x=b.x then .isTrue (by cases a;cases b;simp only at h;obtain⟨rfl,rfl,rfl⟩:=h;rfl) else .isFalse (fun e=>h (by rw[e];exact⟨rfl,rfl,rfl⟩))
set_option linter.defProp false
end Go.Proofs
end
section
open Go Go.Proofs Go.Sx Go.StP Go.Flo
namespace Go.Proofs
set_option maxRecDepth 10000
set_option maxHeartbeats 400000
set_option linter.unusedSimpArgs false
theorem ahE_ (s:List UInt8): ∃n:Nat,(xr_ s).1=n∧n≤200:=by
 unfold xr_
 split
 ·have:=q4_ (s:=s) (a:=(jp_ s 0 0 4).2.1) (e:=(jp_ s 0 0 4).2.2) (most:=200) (by omega)
  exact⟨(zs_ s (jp_ s 0 0 4).2.1 (jp_ s 0 0 4).2.2 200).1.toNat,by simp only;omega,by omega⟩
 ·exact⟨0,rfl,by omega⟩
theorem ame_ (s:List UInt8): (xr_ s).2.2.1≤s.length:=by
 have h1:=kw_ (s:=s) (a:=0) (e:=0) (n:=4) (Nat.zero_le _)
 unfold xr_
 split
 ·exact(qh_ (e:=(jp_ s 0 0 4).2.2) (most:=200) h1.2).2
 ·exact h1.2
theorem afH_ (s:List UInt8) (a:Nat) (e most:Int) (hm:0≤most): ((zS_ s a e most).1.length:Int)≤most:=by
 have h1:=q4_ (s:=s) (a:=a) (e:=e) (most:=most) hm
 have h2: ∀ (b:Nat) (e n:Int),0≤n→((jp_ s b e n).1.length:Int)≤n:=by
  intro b e n hn
  unfold jp_
  split
  ·simpa using hn
  ·split
   ·simpa using hn
   ·split
    ·simpa using hn
    ·simp only[List.length_take,List.length_drop];omega
 unfold zS_
 simp only
 split
 ·simpa using hm
 ·have:=h2 (zs_ s a e most).2.1 (zs_ s a e most).2.2 (zs_ s a e most).1 h1.1
  omega
theorem V8_ {s:List UInt8}: ∀ (k i a:Nat) (e:Int) (p:PartL),p∈ (qb_ s k i a e).1→p.x.length≤65536
 |0,i,a,e,p,h=>by cases h
 |k+1,i,a,e,p,h=>by
  unfold qb_ at h
  split at h
  ·rcases List.mem_cons.1 h with rfl|h
   ·have:=afH_ s (zs_ s a e 200).2.1 (zs_ s a e 200).2.2 65536 (by omega)
    show(zS_ s (zs_ s a e 200).2.1 (zs_ s a e 200).2.2 65536).1.length≤65536
    omega
   ·exact V8_ k _ _ _ p h
  ·cases h
theorem acv_ (s:List UInt8):SmallP (wq_ s).1:=fun g hg=>Nat.le_trans (V8_ _ _ _ _ _ (Ql_ hg)) (by omega)
theorem ajn_ (s:List UInt8): (wq_ s).1.length≤200∧(wq_ s).2.1.length=(wq_ s).1.length:=by
 obtain⟨n,hn,hle⟩:=ahE_ s
 have:=Jz_ (s:=s) (xr_ s).1.toNat 0 (xr_ s).2.2.1 (xr_ s).2.2.2
 unfold wq_
 rw[hn,Int.toNat_natCast] at this ⊢
 omega
theorem anr_ {D:zb_} {E:TypeId} {m n:Nat} {v:Value} {cs:List Value} (h:GrI D E m v n cs) {b:Nat} (hb:slB v=some b):b∈keys D:=by
 obtain⟨X,hX,h⟩:=h
 obtain⟨p,hp,rfl⟩:=List.mem_map.1 (h.key hb)
 exact List.mem_map.2 ⟨p,hX p hp,rfl⟩
theorem aex_ {D:zb_} {E:TypeId} {m n:Nat} {v:Value} {cs:List Value} (h:GrI D E m v n cs):Value.oneCell' v=true∧v.cells= #[v]:=by
 obtain⟨X,hX,h⟩:=h;exact h.cell
theorem aiN_ {v0 v1:Value} (h0:Value.oneCell' v0=true∧v0.cells= #[v0]) (h1:Value.oneCell' v1=true∧v1.cells= #[v1]):qR_ (x7_ Tryz.prog 70) (zI_ Tryz.prog 70) [(0,v0),(1,v1)]=some (.agg #[v0,v1, .slice none 0 0, .slice none 0 0]):=by
 rw[show x7_ Tryz.prog 70=some [(0,1),(1,1),(2,1),(3,1)] from id (by kernel_rfl),zrPk]
 simp[qR_,Sx.fillV,h0.2,h1.2,vV_]
theorem zrPr:zI_ Tryz.prog 64=some (.agg #[.pointer none, .slice none 0 0, .slice none 0 0]):=id (by kernel_rfl)
theorem al8_ (b:Nat):qR_ (x7_ Tryz.prog 64) (zI_ Tryz.prog 64) [(0,vp b 0)]=some (.agg #[vp b 0, .slice none 0 0, .slice none 0 0]):=by
 rw[show x7_ Tryz.prog 64=some [(0,1),(1,1),(2,1)] from id (by kernel_rfl),zrPr];rfl
def anX_ (b:List UInt8) (v:Value) (D:zb_):Prop:=match ajU_ b with
 |some q=> ∃bp,v= .tuple #[vp bp 0,vi 0]∧PackD D bp q.1 q.2.1 q.2.2.1 q.2.2.2
 |none=>v= .tuple #[.pointer none,vi 2]
set_option linter.defProp false
def qH_:=And.intro (And.intro (@zA_) (And.intro (@zz_) (@aew_))) (And.intro (And.intro (@aei_) (@aeT_)) (And.intro (@Sx.tup2_0) (@Sx.tup2_1)))
theorem af6_ (b:List UInt8) (w:World) (hG:GlobE w) (hC:GlobC w) (hb:b.length<1099511627776):
  Rets Tryz.prog 9 #[vs b] w (XS w [] (anX_ b)):=by
 have hgr:3<w.heap.size:=by obtain⟨e0,e1,f0,f1,h0,h1⟩:=hG;exact(Array.getElem?_eq_some_iff.1 h1).1
 refine Rets.enterX Tryz.func9 rfl (rs:= [.tmp 2, .tmp 3]) Tryz.results9 Tryz.ntmps9 (fun p hp=>by cases hp) (by simp[keys]) ?_
 refine kf ?_
 first|with_reducible refine ks [8] @qH_ ?_|refine kp @qH_ ?_
 refine Ow.callFV rfl Tryz.call24 (fun w' hw'=>WE_ b w' (hC.newP hw' trivial) (by omega)) ?_
 have hun: (js_ b).1.length≤b.length:=by
  unfold js_
  split
  ·simp
  ·split
   ·simp only[List.length_take];omega
   ·simp
 unfold anX_ ajU_
 generalize js_ b=u at*
 obtain⟨s,ok⟩:=u
 simp only at hun ⊢
 cases ok with
 |false=>
  rw[if_neg (by simp)]
  refine ko @qH_ ?_
  first|with_reducible refine ks [] @qH_ ?_|refine kp @qH_ ?_
  refine⟨_,(ke @qH_), ?_⟩
  exact⟨Ext.refl _ _,rfl⟩
 |true=>
  refine ko @qH_ ?_
  first|with_reducible refine ks [] @qH_ ?_|refine kp @qH_ ?_
  refine Ow.callF rfl rfl Tryz.call25 (S:=fun B v D=> ∃b',B≤b'∧v=vp b' 0∧D= [(b',wrO s 0 0)]) (fun w' hw'=>wy_ s w') ?_
  rintro B v D hab hB ⟨bw,hbw,rfl,rfl⟩
  have hww:w.heap.size≤bw:=by omega
  refine⟨_,Mrg.fresh (by intro q hq;simp only[keys,List.map_cons,List.map_nil,List.mem_singleton] at hq;omega), ?_⟩
  rw[List.nil_append]
  refine ko @qH_ ?_
  refine Ow.build (.agg #[vp bw 0, .slice none 0 0, .slice none 0 0]) rfl (al8_ bw) ?_
  refine ko @qH_ ?_
  refine Ow.box rfl rfl fun br hbr hwr=> ?_
  simp only[zD_,zH_,zG_,za_]
  have hwbr:bw<br:=zh_ hbr (by simp[keys])
  refine Ow.permL (M:= [(br,prO (vp bw 0) (.slice none 0 0) (.slice none 0 0)),(bw,wrO s 0 0)]) (List.Perm.swap _ _ _) ?_
  refine ko @qH_ ?_
  first|with_reducible refine ks [] @qH_ ?_|refine kp @qH_ ?_
  refine Ow.callX (Y:= []) (by simp) rfl rfl Tryz.call26 (fun w' hw' hX hn=>ai9_ br bw s (.slice none 0 0) (.slice none 0 0) w' (by omega) (by omega) (hX _ List.mem_cons_self) (hX _ (List.mem_cons_of_mem _ List.mem_cons_self))) (fun v22 D22 hC22 hS22=> ?_)
  obtain⟨rfl,rfl⟩:=hS22
  clear hC22
  obtain⟨n,hn,hn2⟩:=ahE_ s
  have hle:=ame_ s
  have hrp:wq_ s=qb_ s n 0 (xr_ s).2.2.1 (xr_ s).2.2.2:=by unfold wq_;rw[hn,Int.toNat_natCast]
  have hrl:=ajn_ s
  have hrs:=acv_ s
  rw[hn,List.append_nil]
  refine ko @qH_ ?_
  first|with_reducible refine ks [] @qH_ ?_|refine kp @qH_ ?_
  refine Ow.callX (Y:= []) (by simp) rfl rfl Tryz.call27 (fun w' hw' hX hn=>ahw_ br bw s n (xr_ s).2.2.1 (xr_ s).2.2.2 w' (by omega) (by omega) hle (by omega) (hX _ List.mem_cons_self) (hX _ (List.mem_cons_of_mem _ List.mem_cons_self))) (fun v27 D27 hC27 hS27=> ?_)
  obtain⟨rfl,v1,v2,D',rfl,hg1,hg2⟩:=hS27
  rw[←hrp] at hg1 hg2
  rw[←hrp]
  generalize (xr_ s).2.1=okh
  generalize wq_ s=r at*
  obtain⟨l,sp,a,e⟩:=r
  simp only at hg1 hg2 hrl hrs ⊢
  have hN:New w.heap.size D':=New.of_le fun c hc=>by
   rcases hC27.new c (by simp only[keys,List.map_cons,List.mem_cons];exact .inr (.inr hc)) with h|h
   ·simp[keys] at h;omega
   ·exact h.2
  rw[List.append_nil]
  refine ko @qH_ ?_
  first|with_reducible refine ks [] @qH_ ?_|refine kp @qH_ ?_
  refine Cw.regionS [br] [0,1,2,4,5,6,3,7,8,9,10] [] (by kernel_rfl) (by kernel_rfl) (by kernel_rfl) ?_
  refine kya ?_
  refine kq @qH_ ?_
  refine Ow.build (.agg #[v1,v2, .slice none 0 0, .slice none 0 0]) rfl (aiN_ (aex_ hg1) (aex_ hg2)) ?_
  refine kq @qH_ ?_
  refine Ow.softA ?_
  refine Ow.box rfl rfl fun bk hbk hwk=> ?_
  simp only[zD_,zH_,zG_,za_]
  have hbrk:br<bk:=zh_ hbk (by simp[keys])
  have hDk: ∀c,c∈keys D'→c<bk:=fun c hc=>zh_ hbk (by simp only[keys,List.map_cons,List.mem_cons];exact .inr (.inr hc))
  refine Ow.permL (M:=(bk, .cells #[v1,v2, .slice none 0 0, .slice none 0 0] 70 (0,0)):: ((br,prO (vp bw 0) v1 v2):: (bw,wrO s a e)::D')) (by classical exact List.perm_iff_count.2 fun a=>by simp only[List.count_append,List.count_cons,List.count_nil]<;>omega) ?_
  refine Ow.permL (M:=(bk,pkO v1 v2 (.slice none 0 0) (.slice none 0 0)):: ((br,prO (vp bw 0) v1 v2):: (bw,wrO s a e)::D')) (List.Perm.refl _) ?_
  with_reducible refine Ow.nil ?_
  refine⟨(fun r hr=>by rw[List.mem_singleton] at hr;subst hr;simp(disch:=omega) only[zr_,zm_]), ?_⟩
  refine kq @qH_ ?_
  have hN2:New w.heap.size ((br,prO (vp bw 0) v1 v2):: (bw,wrO s a e)::D'):=⟨hwr,hww,hN⟩
  have hN3:New w.heap.size ((bk,pkO v1 v2 (.slice none 0 0) (.slice none 0 0)):: (br,prO (vp bw 0) v1 v2):: (bw,wrO s a e)::D'):=⟨hwk,hN2⟩
  obtain hok|hok:okh=false∨okh=true:=by cases okh<;>simp
  ·subst hok
   rw[if_neg (by simp)]
   first|with_reducible refine ks [] @qH_ ?_|refine kp @qH_ ?_
   refine⟨_,(ke @qH_), ?_⟩
   exact⟨Ext.of_new hN3,rfl⟩
  ·subst hok
   first|with_reducible refine ks [] @qH_ ?_|refine kp @qH_ ?_
   refine Ow.callFV rfl Tryz.call28 (fun w' hw'=>kp_ bw s a e w' (hw'.has _ _ (List.mem_cons_of_mem _ (List.mem_cons_of_mem _ List.mem_cons_self)))) ?_
   by_cases he:xN_ s a e=0
   ·have e1: (xN_ s a e !=0)=false:=by simp[he]
    rw[if_pos ⟨rfl,rfl,he⟩]
    refine ko (And.intro @qH_ @e1) ?_
    refine Ow.callX (Y:=(br,prO (vp bw 0) v1 v2):: (bw,wrO s a e)::D') (by simp) rfl rfl Tryz.call29 (fun w' hw' hX hn=>aaN_ bk v1 v2 l w' ((hg1.mono (fun q hq=>by simp[hq])).slV hw' rfl rfl jx_) (hG.new hw' hN3) hrs.bnd (by omega) (hX _ List.mem_cons_self) (fun h=>by have:=hDk _ (anr_ hg1 h);omega) (by omega)) (fun v50 D50 hC50 hS50=> ?_)
    have hN50:New w.heap.size D50:=qA_ hC50 ⟨hwk,trivial⟩
    unfold adx_ at hS50
    cases hf:fillV l with
    |none=>
     rw[hf] at hS50
     have hS50':v50= .bool false:=hS50
     subst hS50'
     refine ko @qH_ ?_
     first|with_reducible refine ks [] @qH_ ?_|refine kp @qH_ ?_
     refine⟨_,(ke @qH_), ?_⟩
     exact⟨Ext.of_new (hN50.app hN2),rfl⟩
    |some q=>
     rw[hf] at hS50
     obtain⟨rfl,x2,x3,D'',rfl,hg3,hg4⟩:=hS50
     refine ko @qH_ ?_
     first|with_reducible refine ks [] @qH_ ?_|refine kp @qH_ ?_
     refine⟨_,(ke @qH_), ?_⟩
     refine⟨Ext.of_new (hN50.app hN2),bk,rfl,v1,v2,x2,x3, ?_, ?_, ?_, ?_, ?_⟩
     ·simp
     ·exact hg1.mono fun p hp=>by simp[hp]
     ·exact hg2.mono fun p hp=>by simp[hp]
     ·exact hg3.mono fun p hp=>by simp[hp]
     ·exact hg4.mono fun p hp=>by simp[hp]
   ·have e1: (xN_ s a e !=0)=true:=bne_iff_ne.2 he
    rw[if_neg (fun h=>he h.2.2)]
    refine ko (And.intro @qH_ @e1) ?_
    first|with_reducible refine ks [] @qH_ ?_|refine kp @qH_ ?_
    refine⟨_,(ke @qH_), ?_⟩
    exact⟨Ext.of_new hN3,rfl⟩
end Go.Proofs
end
section
open Go Go.Proofs Go.Sx Go.StP Go.Flo
namespace Go.Proofs
set_option maxRecDepth 10000
set_option maxHeartbeats 400000
set_option linter.unusedSimpArgs false
set_option linter.defProp false
end Go.Proofs
end
section
open Go Go.Proofs Go.Sx Go.StP Go.Flo
namespace Go.Proofs
set_option maxRecDepth 10000
set_option maxHeartbeats 400000
set_option linter.unusedSimpArgs false
end Go.Proofs
end
section
open Go Go.Proofs Go.Sx Go.StP Go.Flo
namespace Go.Proofs
set_option maxRecDepth 10000
set_option maxHeartbeats 400000
set_option linter.unusedSimpArgs false
set_option linter.defProp false
end Go.Proofs
end
section
open Go Go.Proofs Go.Sx Go.StP Go.Flo
namespace Go.Proofs
set_option maxRecDepth 10000
set_option maxHeartbeats 400000
set_option linter.unusedSimpArgs false
set_option linter.defProp false
end Go.Proofs
end
namespace Go.Sx
open Go
theorem Hp.later {w0 w1 w2:World} {L D:zb_} (h:Hp w0 L w1) (k:Hp w1 D w2) (hD:New w1.heap.size D):Hp w0 (L++D) w2:=
 Mrg.fresh hD.le w1 w2 rfl h k
theorem Ow.world {P:Program} {w0:World} {ops:Array Oper} {l:List Oper} {f:Fr} {L:zb_} {N:Fr→zb_→Prop} (h: ∀w,Hp w0 L w→Ow P w0 ops .seq l f L N):Ow P w0 ops .seq l f L N:=fun w hw=>h w hw w hw
theorem Rets.chunk {P:Program} {k:FuncId} {args:Array Value} {w:World} {S:Value→Obj→Prop} {X:zb_} {b:Nat} (hX: ∀p,p∈X→w.heap[p.1]? =some p.2) (hn: (keys X).Nodup) (hb:b∈keys X)
  (h:Rets P k args w (fun v D=> ∃o,D= [(b,o)]∧S v o)):Rets P k args w (XS w X (fun v D=> ∃o,D=setB X b o∧S v o)):=
 Calls.mono h fun e w' ⟨v,D,he,hp,o,hD,hS⟩=>⟨v,setB X b o,he,by subst hD;exact Mrg.set hb w w' rfl ((Hp.refl w).ownX hX hn) hp,(Ext.refl w X).setB,o,rfl,hS⟩
theorem Rets.chunkV {P:Program} {k:FuncId} {args:Array Value} {w:World} {S:Value→Prop} {X:zb_} (hX: ∀p,p∈X→w.heap[p.1]? =some p.2) (hn: (keys X).Nodup)
  (h:Rets P k args w (fun v D=>S v∧D= [])):Rets P k args w (XS w X (fun v D=>D=X∧S v)):=
 Calls.mono h fun e w' ⟨v,D,he,hp,hS,hD⟩=>⟨v,X,he,by subst hD;exact((Hp.refl w).ownX hX hn).trans_nil hp,Ext.refl w X,rfl,hS⟩
theorem Rets.toX {P:Program} {k:FuncId} {a:Array Value} {w:World} {S:Value→Prop} (h:Rets P k a w (fun v D=>S v∧D= [])):Rets P k a w (XS w [] (fun v D=>D= []∧S v)):=
 h.mono fun v D ⟨h1,h2⟩=>⟨by subst h2;exact Ext.refl w [],h2,h1⟩
theorem Gr.rowL {α:Type} {m:Nat} {enc:α→List Value} {z:α} {w0 w:World} {v:Value} {l:List α} {L:zb_} {E:TypeId} {n:Nat} (h:Gr L E m v n (l.map enc).flatten) (hn:l.length=n) (hw:Hp w0 L w) (hm: ∀x,(enc x).length=m):
  ∃b off arr F fz,RowS m enc z w v l b off arr F fz∧(0<l.length→look L b=some (.cells arr F fz)):=by
 obtain⟨b,off,c,arr,F,fz,hr,hc,⟨rfl,rfl,rfl⟩ | ⟨rfl,hb,hsz⟩⟩:=h.slV (z:=z) hw hn rfl hm
 ·exact⟨b,off,arr,F,fz,hr,fun h0=>absurd h0 (by simp)⟩
 ·refine⟨b,off,arr,F,fz,hr,fun _=> ?_⟩
  obtain⟨o,ho⟩:=VF_ (h.key (b:=b) rfl)
  have:=hw.has _ _ (zw_ ho)
  rw[hb] at this
  rw[ho,this]
theorem GrI.rowL {α:Type} {m:Nat} {enc:α→List Value} {z:α} {w0 w:World} {v:Value} {l:List α} {D:zb_} {E:TypeId} {n:Nat} (h:GrI D E m v n (l.map enc).flatten) (hn:l.length=n) (hw:Hp w0 D w) (hm: ∀x,(enc x).length=m):
  ∃b off arr F fz,RowS m enc z w v l b off arr F fz∧(0<l.length→look D b=some (.cells arr F fz)):=by
 obtain⟨X,hX,h⟩:=h
 obtain⟨b,off,c,arr,F,fz,hr,hc,⟨rfl,rfl,rfl⟩ | ⟨rfl,hb,hsz⟩⟩:=h.slM (z:=z) (fun b o hm=>hw.has b o (hX _ hm)) hn rfl hm
 ·exact⟨b,off,arr,F,fz,hr,fun h0=>absurd h0 (by simp)⟩
 ·refine⟨b,off,arr,F,fz,hr,fun _=> ?_⟩
  obtain⟨o,ho⟩:=VF_ (h.key (b:=b) rfl)
  have hm:=hX _ (zw_ ho)
  have:=hw.has _ _ hm
  rw[hb] at this
  rw[zF_ hw.nodup hm,this]
end Go.Sx
namespace Go.Sx
open Go
def kv (e:MapEntry):Value×Value:=(e.key,e.val)
def ItR (o:Obj) (bm:Nat) (om:Obj) (m dn lf:j1_):Prop:=
 ∃es clock,∃ds:List MapEntry,om= .map es clock∧(es.toList.map (·.born)++ [clock]).Pairwise (· < ·)∧o= .mapIter (some bm) clock (ds.map (·.born)).toArray clock∧
  ds.map kv=dn.map vX_∧(∀d,d∈ds→d∈es.toList)∧((es.toList.filter fun e=> !(ds.map (·.born)).contains e.born).map kv=lf.map vX_)∧(dn++lf).Perm m
theorem Kv_ {l:List MapEntry} {c:Nat} (h: (l.map (·.born)++ [c]).Pairwise (· < ·)): (l.map (·.born)).Nodup:=
 ((List.pairwise_append.1 h).1).imp fun h=>Nat.ne_of_lt h
theorem ItR.step {bm:Nat} {om:Obj} {m dn lf:j1_} {es:Array MapEntry} {clock:Nat} {ds:List MapEntry} {e:MapEntry} (hb: (es.toList.map (·.born)++ [clock]).Pairwise (· < ·))
  (hd:ds.map kv=dn.map vX_) (hm: ∀d,d∈ds→d∈es.toList) (hl: (es.toList.filter fun e=> !(ds.map (·.born)).contains e.born).map kv=lf.map vX_) (hp: (dn++lf).Perm m)
  (he:e∈es.toList.filter fun e=> !(ds.map (·.born)).contains e.born) (hom:om= .map es clock):
  ∃p lf',kv e=vX_ p∧lf.length=lf'.length+1∧ItR (.mapIter (some bm) clock ((ds.map (·.born)).toArray.push e.born) clock) bm om m (dn++ [p]) lf':=by
 obtain⟨A,C,hAC⟩:=List.append_of_mem he
 rw[hAC,List.map_append,List.map_cons] at hl
 obtain⟨l1,l2,rfl,h1,h2⟩:=List.append_eq_map_iff.1 hl
 obtain⟨p,l3,rfl,h3,h4⟩:=(List.map_eq_cons_iff.1 h2)
 refine⟨p,l1++l3,h3.symm,by simp;omega,es,clock,ds++ [e],hom,hb,by simp,by simp[hd,h3], ?_, ?_, ?_⟩
 ·intro d hd'
  rcases List.mem_append.1 hd' with h|h
  ·exact hm d h
  ·rw[List.mem_singleton] at h;subst h;exact(List.mem_filter.1 he).1
 ·have hnd: ((A++e::C).map (·.born)).Nodup:=by
   rw[←hAC]
   exact(Kv_ hb).sublist ((List.filter_sublist).map _)
  have e1: (es.toList.filter fun x=> !((ds++ [e]).map (·.born)).contains x.born)=(A++e::C).filter fun x=> !(x.born==e.born):=by
   rw[←hAC,List.filter_filter]
   refine List.filter_congr fun x hx=> ?_
   simp only[List.map_append,List.map_cons,List.map_nil,List.contains_append,List.contains_cons,List.contains_nil,Bool.or_false,Bool.not_or]
   rw[Bool.and_comm]
  rw[List.map_append,List.map_cons,List.nodup_append] at hnd
  obtain⟨-,hn2,hn3⟩:=hnd
  rw[List.nodup_cons] at hn2
  have e2: ((A++e::C).filter fun x=> !(x.born==e.born))=A++C:=by
   rw[List.filter_append,List.filter_cons]
   simp only[beq_self_eq_true,Bool.not_true,Bool.false_eq_true, ↓reduceIte]
   congr 1
   ·refine List.filter_eq_self.2 fun x hx=> ?_
    have:=hn3 x.born (List.mem_map.2 ⟨x,hx,rfl⟩) e.born List.mem_cons_self
    simpa using this
   ·refine List.filter_eq_self.2 fun x hx=> ?_
    have:x.born≠e.born:=fun h=>hn2.1 (h▸List.mem_map.2 ⟨x,hx,rfl⟩)
    simpa using this
  rw[e1,e2,List.map_append,List.map_append,h1,h4]
 ·refine List.Perm.trans ?_ hp
  rw[List.append_assoc]
  refine List.Perm.append_left dn ?_
  rw[List.singleton_append]
  exact List.perm_middle.symm
section
variable {P:Program} {w0:World} {f:Fr} {L:zb_} {N:Fr→zb_→Prop} {ops:Array Oper} {rest:List Oper} {md:Md}
 {d:Option Tmp} {ty:TypeId} {ps:String} {af:Array Edge} {g:Option (Nat×Bool)}
end
end Go.Sx
namespace Go.Sx
open Go
def ItG {α β:Type} (encK:α→Value) (encV:β→Value) (o:Obj) (bm:Nat) (om:Obj) (m dn lf:List (α×β)):Prop:=
 ∃es clock,∃ds:List MapEntry,om= .map es clock∧(es.toList.map (·.born)++ [clock]).Pairwise (· < ·)∧o= .mapIter (some bm) clock (ds.map (·.born)).toArray clock∧
  ds.map kv=dn.map (kQ_ encK encV)∧(∀d,d∈ds→d∈es.toList)∧((es.toList.filter fun e=> !(ds.map (·.born)).contains e.born).map kv=lf.map (kQ_ encK encV))∧(dn++lf).Perm m
theorem ItG.step {α β:Type} {encK:α→Value} {encV:β→Value} {bm:Nat} {om:Obj} {m dn lf:List (α×β)} {es:Array MapEntry} {clock:Nat} {ds:List MapEntry} {e:MapEntry} (hb: (es.toList.map (·.born)++ [clock]).Pairwise (· < ·))
  (hd:ds.map kv=dn.map (kQ_ encK encV)) (hm: ∀d,d∈ds→d∈es.toList) (hl: (es.toList.filter fun e=> !(ds.map (·.born)).contains e.born).map kv=lf.map (kQ_ encK encV)) (hp: (dn++lf).Perm m)
  (he:e∈es.toList.filter fun e=> !(ds.map (·.born)).contains e.born) (hom:om= .map es clock):
  ∃p lf',kv e=kQ_ encK encV p∧lf.length=lf'.length+1∧ItG encK encV (.mapIter (some bm) clock ((ds.map (·.born)).toArray.push e.born) clock) bm om m (dn++ [p]) lf':=by
 obtain⟨A,C,hAC⟩:=List.append_of_mem he
 rw[hAC,List.map_append,List.map_cons] at hl
 obtain⟨l1,l2,rfl,h1,h2⟩:=List.append_eq_map_iff.1 hl
 obtain⟨p,l3,rfl,h3,h4⟩:=(List.map_eq_cons_iff.1 h2)
 refine⟨p,l1++l3,h3.symm,by simp;omega,es,clock,ds++ [e],hom,hb,by simp,by simp[hd,h3], ?_, ?_, ?_⟩
 ·intro d hd'
  rcases List.mem_append.1 hd' with h|h
  ·exact hm d h
  ·rw[List.mem_singleton] at h;subst h;exact(List.mem_filter.1 he).1
 ·have hnd: ((A++e::C).map (·.born)).Nodup:=by
   rw[←hAC]
   exact(Kv_ hb).sublist ((List.filter_sublist).map _)
  have e1: (es.toList.filter fun x=> !((ds++ [e]).map (·.born)).contains x.born)=(A++e::C).filter fun x=> !(x.born==e.born):=by
   rw[←hAC,List.filter_filter]
   refine List.filter_congr fun x hx=> ?_
   simp only[List.map_append,List.map_cons,List.map_nil,List.contains_append,List.contains_cons,List.contains_nil,Bool.or_false,Bool.not_or]
   rw[Bool.and_comm]
  rw[List.map_append,List.map_cons,List.nodup_append] at hnd
  obtain⟨-,hn2,hn3⟩:=hnd
  rw[List.nodup_cons] at hn2
  have e2: ((A++e::C).filter fun x=> !(x.born==e.born))=A++C:=by
   rw[List.filter_append,List.filter_cons]
   simp only[beq_self_eq_true,Bool.not_true,Bool.false_eq_true, ↓reduceIte]
   congr 1
   ·refine List.filter_eq_self.2 fun x hx=> ?_
    have:=hn3 x.born (List.mem_map.2 ⟨x,hx,rfl⟩) e.born List.mem_cons_self
    simpa using this
   ·refine List.filter_eq_self.2 fun x hx=> ?_
    have:x.born≠e.born:=fun h=>hn2.1 (h▸List.mem_map.2 ⟨x,hx,rfl⟩)
    simpa using this
  rw[e1,e2,List.map_append,List.map_append,h1,h4]
 ·refine List.Perm.trans ?_ hp
  rw[List.append_assoc]
  refine List.Perm.append_left dn ?_
  rw[List.singleton_append]
  exact List.perm_middle.symm
section
variable {α β:Type} {encK:α→Value} {encV:β→Value} {P:Program} {w0:World} {f:Fr} {L:zb_} {N:Fr→zb_→Prop} {ops:Array Oper} {rest:List Oper} {md:Md}
 {d:Option Tmp} {ty:TypeId} {ps:String} {af:Array Edge} {g:Option (Nat×Bool)}
end
theorem abM_ (l:List UInt8):Instr.sameBits 10000 (.agg (a8 l)) (.agg (a8 l))=true:=by
 show Instr.sameBits (9999+1) _ _=true
 unfold Instr.sameBits
 simp only[beq_self_eq_true,Bool.true_and,List.all_eq_true]
 intro p hp
 obtain⟨i,hi,rfl⟩:=List.getElem_of_mem hp
 rw[List.getElem_zip]
 simp[a8,Instr.sameBits]
theorem Wc_ {P:Program} {t e:TypeId} {n:Nat} (hu:P.underlying t=some (.array n e)) (he:P.underlying e=some (.int .u8)) (hm:qc_ P e=some (false,1)) (l l':List UInt8) (hl:l.length=n) (hl':l'.length=n) (w:World):
  (Op.equal t (.agg (a8 l)) (.agg (a8 l'))).run P w= .ok (l==l') w:=
 adj_ P 8 9992 t _ _ _ (ah1_ (d:=6) hu he hm l l' hl hl') w
theorem JW_ {P:Program} {t e:TypeId} {n:Nat} (hu:P.underlying t=some (.array n e)) (he:P.underlying e=some (.int .u8)) (hm:qc_ P e=some (false,1)) (l:List UInt8) (hl:l.length=n) (em:Bool) (w:World):
  (Instr.checkKey em 10000 t (.agg (a8 l))).run P w= .ok () w:=by
 show(Instr.checkKey em (9999+1) t (.agg (a8 l))).run P w= .ok () w
 rw[Instr.checkKey]
 simp only[Sem.run_bind,run_underlying hu,Result.andThen_ok]
 simp only[Std.Legacy.Range.forIn_eq_forIn_range',Std.Legacy.Range.size,Nat.sub_zero,Nat.add_one_sub_one,Nat.div_one]
 have each: ∀j,j∈List.range' 0 n→j<l.length:=by
  intro j hj
  rw[List.mem_range'] at hj
  obtain⟨i,hi,rfl⟩:=hj
  omega
 generalize List.range' 0 n=is at each
 induction is with
 |nil=>simp
 |cons j is ih=>
  have hj:=each j (by simp)
  have p1: (part e (a8 l) (j*1)).run P w= .ok (v8 (l.getD j 0)) w:=by
   refine qU_ hm ?_ w
   simp[partV,a8,v8,hj]
  have p2: (Instr.checkKey em 9999 e (v8 (l.getD j 0))).run P w= .ok () w:=by
   show(Instr.checkKey em (9998+1) e (v8 (l.getD j 0))).run P w= .ok () w
   rw[Instr.checkKey]
   simp only[Sem.run_bind,run_underlying he,Result.andThen_ok,v8]
   rfl
  simp only[List.forIn_cons,Sem.run_bind,zv_ hm w,Result.andThen_ok,p1,p2,Sem.run_pure]
  exact ih (fun y hy=>each y (by simp[hy]))
theorem age_ {n:Nat} {e:TypeId} (x:Value): ∀ (es:List MapEntry) (i:Nat),es≠ []→Instr.findNow (.array n e) x es i=none
 | [],_,h=>absurd rfl h
 |_::_,_,_=>by cases x<;>rfl
theorem k9_ {α β:Type} [BEq α] {P:Program} {kt:TypeId} {encK:α→Value} {encV:β→Value} (he: ∀a b w,(Op.equal kt (encK a) (encK b)).run P w= .ok (a==b) w) (w:World) (k:α): ∀ (es:List MapEntry) (m:List (α×β)) (i:Nat),es.map (fun e=>(e.key,e.val))=m.map (kQ_ encK encV)→
  (Instr.findAsking kt (encK k) es i).run P w= .ok ((WI_ k m i).map fun p=>(p.1,encV p.2)) w
 | [],[],_,_=>rfl
 | [],_::_,_,h=>by cases h
 |_::_,[],_,h=>by cases h
 |e::es,p::m,i,h=>by
  simp only[List.map_cons,List.cons.injEq,kQ_,Prod.mk.injEq] at h
  obtain⟨⟨h1,h2⟩,h3⟩:=h
  unfold Instr.findAsking WI_
  rw[Sem.run_bind,h1,he]
  simp only[Result.andThen_ok]
  cases hk: (k==p.1)
  ·simp only[Bool.false_eq_true, ↓reduceIte]
   exact k9_ he w k es m (i+1) h3
  ·simp[h2]
theorem KeyOk.arr {α:Type} [BEq α] {P:Program} {kt e:TypeId} {n:Nat} (hu:P.underlying kt=some (.array n e)) (he:P.underlying e=some (.int .u8)) (hm:qc_ P e=some (false,1)) (bs:α→List UInt8) (hb: ∀a,(bs a).length=n) (hq: ∀a b,(bs a==bs b)=(a==b)):
  KeyOk P kt (fun a:α=> .agg (a8 (bs a))) where
 find encV w k es m h:=by
  cases es with
  |nil=>
   cases m with
   |nil=>simp only[Instr.findKey,Sem.run_bind,run_underlying hu w,Result.andThen_ok];rfl
   |cons=>cases h
  |cons e0 es=>
   simp only[Instr.findKey,Sem.run_bind,run_underlying hu w,Result.andThen_ok]
   rw[age_ _ _ _ (by simp)]
   exact k9_ (encK:=fun a:α=> .agg (a8 (bs a))) (fun a b w=>by rw[Wc_ hu he hm _ _ (hb a) (hb b) w,hq]) w k _ m 0 h
 check w e k:=JW_ hu he hm _ (hb k) e w
 bits k:=abM_ _
section
variable {α β:Type} [BEq α] [LawfulBEq α] {encK:α→Value} {encV:β→Value} {P:Program} {w0:World} {f:Fr} {L:zb_} {N:Fr→zb_→Prop} {ops:Array Oper} {rest:List Oper} {md:Md}
 {d:Option Tmp} {ty:TypeId} {ps:String} {af:Array Edge} {g:Option (Nat×Bool)}
omit [LawfulBEq α] in
end
end Go.Sx
namespace Go.Sx
open Go
theorem KeyOk.str {P:Program} {kt:TypeId} (hu:P.underlying kt=some .string):KeyOk P kt vs where
 find encV w k es m h:=by
  simp only[Instr.findKey,Sem.run_bind,run_underlying hu w,Result.andThen_ok]
  rw[Qz_ (encK:=vs) (fun a b=>by simp only[vs,Instr.sameNow,aaD_]) k es m 0 h]
  rfl
 check w e k:=by
  unfold Instr.checkKey
  simp only[Sem.run_bind,run_underlying hu w,Result.andThen_ok,vs]
  rfl
 bits k:=by simp only[vs,Instr.sameBits,aaD_,beq_self_eq_true]
section
variable {α β:Type} [BEq α] [LawfulBEq α]
variable {encK:α→Value} {encV:β→Value}
omit [LawfulBEq α] in
omit [LawfulBEq α] in
omit [LawfulBEq α] in
variable {P:Program} {w0:World} {f:Fr} {L:zb_} {N:Fr→zb_→Prop} {ops:Array Oper} {rest:List Oper} {md:Md}
 {d:Option Tmp} {ty:TypeId} {ps:String} {af:Array Edge} {g:Option (Nat×Bool)}
omit [LawfulBEq α] in
omit [BEq α] [LawfulBEq α] in
end
section
variable {P:Program} {w0:World} {f:Fr} {L:zb_} {N:Fr→zb_→Prop} {ops:Array Oper} {rest:List Oper} {md:Md}
 {d:Option Tmp} {ty:TypeId} {ps:String} {af:Array Edge} {g:Option (Nat×Bool)}
end
end Go.Sx
namespace Go.Sx
open Go
inductive Qu (L:zb_) (E:TypeId) (m:Nat):Value→Nat→List Value→Prop
 |nl:Qu L E m (.slice none 0 0) 0 []
 |at_ {b n c:Nat} {pre cs rest:List Value} (hl:look L b=some (.cells (pre++ (cs++rest)).toArray E (0,0))) (h1:cs.length=n*m) (h2:rest.length=(c - n)*m) (h3:n≤c) (h4:0<c):Qu L E m (vsl b pre.length n c) n cs
 |used {b off:Nat}:Qu L E m (vsl b off 0 0) 0 []
theorem Qu.keep {L L':zb_} {E:TypeId} {m n:Nat} {v:Value} {cs:List Value} (h:Qu L E m v n cs) (hk: ∀b o,slB v=some b→look L b=some o→look L' b=some o):Qu L' E m v n cs:=by
 cases h with
 |nl=>exact .nl
 |at_ hl h1 h2 h3 h4=>exact .at_ (hk _ _ rfl hl) h1 h2 h3 h4
 |used=>exact .used
theorem Qu.app {L M:zb_} {E:TypeId} {m n:Nat} {v:Value} {cs:List Value} (h:Qu L E m v n cs):Qu (L++M) E m v n cs:=h.keep fun _ _ _ ho=>qD_ ho
theorem Qu.cell {L:zb_} {E:TypeId} {m n:Nat} {v:Value} {cs:List Value} (h:Qu L E m v n cs):Value.oneCell' v=true∧v.cells= #[v]:=by cases h<;>exact⟨rfl,rfl⟩
theorem Qu.len {L:zb_} {E:TypeId} {m n:Nat} {v:Value} {cs:List Value} (h:Qu L E m v n cs) (x:Bool×Nat):wt_ (.sl x) v=some (vi n):=by cases h<;>rfl
theorem Qu.head {α:Type} {L:zb_} {E:TypeId} {m:Nat} {v:Value} {enc:α→List Value} {x:α} {l:List α} (h:Qu L E m v (l.length+1) ((x::l).map enc).flatten) (hm: ∀x,(enc x).length=m):
  ∃b off arr,look L b=some (.cells arr E (0,0))∧(∀a,z3_ (.sl (a,m)) v (some 0)=some (vp b off))∧zl_ (some (true,m)) (some (.cells arr E (0,0))) off=some (.agg (enc x).toArray):=by
 generalize hn:l.length+1=n at h
 generalize hc: ((x::l).map enc).flatten=cs at h
 cases h with
 |nl=>omega
 |used=>omega
 | @at_ b n c pre cs rest hl h1 h2 h3 h4=>
  refine⟨b,pre.length,_,hl,fun a=> ?_, ?_⟩
  ·have:=qz_ (a,m) b pre.length n c 0 ⟨by omega,by omega⟩
   simpa using this
  ·rw[←hc,List.map_cons,List.flatten_cons,List.append_assoc]
   exact kL_ _ _ _ E (0,0) rfl (hm x)
theorem Qu.tail {α:Type} {L:zb_} {E:TypeId} {m:Nat} {v:Value} {enc:α→List Value} {x:α} {l:List α} (h:Qu L E m v (l.length+1) ((x::l).map enc).flatten) (hm: ∀x,(enc x).length=m):
  ∃v',(∀a,qs_ (.sl (a,m)) v (some (some 1)) none=some v')∧Qu L E m v' l.length (l.map enc).flatten:=by
 generalize hn:l.length+1=n at h
 generalize hc: ((x::l).map enc).flatten=cs at h
 cases h with
 |nl=>omega
 |used=>omega
 | @at_ b n c pre cs rest hl h1 h2 h3 h4=>
  have hb:=aeR_ n c 1 ⟨by omega,by omega⟩
  by_cases h5:c=1
  ·subst h5
   have hl0:l= []:=List.eq_nil_of_length_eq_zero (by omega)
   subst hl0
   refine⟨vsl b pre.length 0 0,fun a=> ?_, .used⟩
   unfold qs_ vsl
   simp only[hb]
   simp;omega
  ·refine⟨vsl b (pre++enc x).length l.length (c - 1),fun a=> ?_, .at_ (pre:=pre++enc x) (rest:=rest) ?_ ?_ ?_ (by omega) (by omega)⟩
   ·unfold qs_ vsl
    simp only[hb]
    rw[if_neg (by simpa using h5)]
    simp[qB_,hm];omega
   ·rw[hl,←hc,List.map_cons,List.flatten_cons];simp
   ·rw[kv_ hm]
   ·rw[h2];congr 1;omega
section
variable {P:Program} {w0:World} {L:zb_}
variable {f:Fr} {N:Fr→zb_→Prop} {ops:Array Oper} {rest:List Oper} {md:Md}
 {d:Option Tmp} {ty:TypeId} {ps:String} {af:Array Edge} {g:Option (Nat×Bool)}
end
theorem afN_ {fs:Array Field} (x:Value): ∀ (es:List MapEntry) (i:Nat),es≠ []→Instr.findNow (.struct fs) x es i=none
 | [],_,h=>absurd rfl h
 |_::_,_,_=>by cases x<;>rfl
theorem KeyOk.struct {α:Type} [BEq α] {P:Program} {kt:TypeId} {fs:Array Field} (hu:P.underlying kt=some (.struct fs)) (enc:α→Value) (he: ∀a b,eqD P 8 kt (enc a) (enc b)=some (a==b))
  (hc: ∀ (w:World) (e:Bool) (k:α),(Instr.checkKey e 10000 kt (enc k)).run P w= .ok () w) (hb: ∀k,Instr.sameBits 10000 (enc k) (enc k)=true):KeyOk P kt enc where
 find encV w k es m h:=by
  cases es with
  |nil=>
   cases m with
   |nil=>simp only[Instr.findKey,Sem.run_bind,run_underlying hu w,Result.andThen_ok];rfl
   |cons=>cases h
  |cons e0 es=>
   simp only[Instr.findKey,Sem.run_bind,run_underlying hu w,Result.andThen_ok]
   rw[afN_ _ _ _ (by simp)]
   exact k9_ (encK:=enc) (fun a b w=>adj_ P 8 9992 kt _ _ _ (he a b) w) w k _ m 0 h
 check w e k:=hc w e k
 bits k:=hb k
end Go.Sx
namespace Go.Sx
open Go Go.Flo
section
variable {P:Program} {w0:World} {f:Fr} {L:zb_} {N:Fr→zb_→Prop} {ops:Array Oper} {rest:List Oper} {md:Md}
 {d:Option Tmp} {ty:TypeId} {ps:String} {af:Array Edge} {g:Option (Nat×Bool)}
theorem Ow.binR {op:BinOp} {t t':TypeId} {x y:Operand} {u v r:Value} (hs:zg_ ops f ⟨d, .binOp op t x y t',ty,ps,af,g⟩=false) (hx:ev f x=u) (hy:ev f y=v)
  (hr: ∀w,(binOp op t u v).run P w= .ok r w) (hg: ∀w,(eqGuard op t x y u v).run P w= .ok () w)
  (hn:Ow P w0 ops md.next rest (qd_ f d r) L N):Ow P w0 ops md (⟨d, .binOp op t x y t',ty,ps,af,g⟩::rest) f L N:=by
 refine Ow.pureV rfl hs (fun w=> ?_) hn
 simp only[execOp,Sem.run_bind,hx,hy]
 rw[hg,Result.andThen_ok,hr]
 rfl
theorem Ow.unR {op:UnOp} {t:TypeId} {x:Operand} {u r:Value} (hs:zg_ ops f ⟨d, .unOp op t x,ty,ps,af,g⟩=false) (hx:ev f x=u)
  (hr: ∀w,(Op.unary op u).run P w= .ok r w)
  (hn:Ow P w0 ops md.next rest (qd_ f d r) L N):Ow P w0 ops md (⟨d, .unOp op t x,ty,ps,af,g⟩::rest) f L N:=by
 refine Ow.pureV rfl hs (fun w=> ?_) hn
 simp only[execOp,Sem.run_bind,hx]
 rw[hr]
 rfl
theorem Ow.convUF {s dt:TypeId} {x:Operand} {c:UInt8} {md':Md} (he:md.turn=some md') (hsk:zg_ ops f ⟨d, .convert s dt x,ty,ps,af,g⟩=false)
  (hcv:cvT P s dt= .no) (hs:P.underlying s=some (.int .u8)) (hd:P.underlying dt=some (.float .f64)) (hx:ev f x=v8 c)
  (hn:Ow P w0 ops md' rest (qd_ f d (fl (c.toNat:Int))) L N):Ow P w0 ops md (⟨d, .convert s dt x,ty,ps,af,g⟩::rest) f L N:=by
 refine Ow.step he (by simp[jO_,hcv]) hsk fun w hw=> .inl ⟨fl (c.toNat:Int),w,L, ?_,hw,hn⟩
 have hc: (convert s dt (v8 c)).run P w= .ok (fl (c.toNat:Int)) w:=by
  unfold convert
  simp only[v8,Sem.run_bind,run_underlying hs w,run_underlying hd w,Result.andThen_ok]
  rfl
 simp only[execOp,Sem.run_bind,hx,hc]
 rfl
theorem anb_ (a b:Int): (some (compare a b)==some Ordering.lt)=decide (a<b):=by
 simp only[compare,compareOfLessAndEq]
 by_cases h1:a<b
 ·rw[if_pos h1,decide_eq_true (by omega)];rfl
 ·by_cases h2:a=b
  ·rw[if_neg h1,if_pos h2,decide_eq_false (by omega)];rfl
  ·rw[if_neg h1,if_neg h2,decide_eq_false (by omega)];rfl
end
theorem ah9_ (P:Program) (t:TypeId) (a:Int) (b:Nat):qL_ P .lss t (fl a) (.float .f64 b)=none:=rfl
theorem af5_ (P:Program) (t:TypeId) (a b a' b':Int):qL_ P .add t (cx a b) (cx a' b')=none:=rfl
theorem afd_ (P:Program) (t:TypeId) (a b a' b':Int):qL_ P .sub t (cx a b) (cx a' b')=none:=rfl
theorem aqa_ (a:Int):unV .neg (fl a)=none:=rfl
theorem Qu.appX {P:Program} {w0 w:World} {L:zb_} {E:TypeId} {m n:Nat} {v:Value} {cs:List Value} (h:Qu L E m v n cs) (h1:cs.all Value.oneCell'=true) (hw:Hp w0 L w):AppX P w m v n cs:=by
 cases h with
 |nl=>exact AppX.nil P w m
 |used=>exact⟨rfl,by simp only[vsl,Builtin.firstCells,Nat.zero_mul];rfl,rfl,by simp⟩
 | @at_ b n c pre cs rest hl hc1 hc2 hc3 hc4=>
  refine AppX.block (w0:=w0) (L:=L) (arr:=(pre++ (cs++rest)).toArray) (E:=E) (fz:=(0,0)) (zt_ hl) ?_ ?_ h1 hw
  ·rw[List.size_toArray,List.length_append,List.length_append,hc1];omega
  ·rw[←hc1]
   simp
section
variable {P:Program} {w0:World} {f:Fr} {L:zb_} {N:Fr→zb_→Prop} {ops:Array Oper} {rest:List Oper} {md:Md}
 {d:Option Tmp} {ty:TypeId} {ps:String} {af:Array Edge} {g:Option (Nat×Bool)}
end
end Go.Sx
namespace Go.Sx
open Go
def flw (a:Nat):Value:= .float .f64 a
def cxw (a b:Nat):Value:= .complex .f64 a b
def dt (b:Nat):Option Ieee.Datum:=match FloatKind.f64.decode b with
 | .nan .. =>none
 |d=>some d
def arD (op:BinOp):Option Ieee.Datum→Option Ieee.Datum→Option Ieee.Datum
 |some a,some b=>((match op with| .add=>a.sum b| .sub=>a.sum b.opposite|_=>a.product b).map FloatKind.f64.encode).bind dt
 |_,_=>none
abbrev CD:=Option Ieee.Datum×Option Ieee.Datum
def dtc (k:Nat×Nat):CD:=(dt k.1,dt k.2)
def arC (op:BinOp) (a b:CD):CD:=match op with
 | .mul=>(arD .sub (arD .mul a.1 b.1) (arD .mul a.2 b.2),arD .add (arD .mul a.1 b.2) (arD .mul a.2 b.1))
 |op=>(arD op a.1 b.1,arD op a.2 b.2)
theorem alo_ (q u:Nat) (_hq:q<2) (hu:u<4503599627370495): ∃s f,FloatKind.f64.decode (q*2^63+0x7ff0000000000000+1+u)= .nan s f:=by
 have hm: (q*2^63+0x7ff0000000000000+1+u)%2^63=0x7ff0000000000000+1+u:=by
  rw[show q*2^63+0x7ff0000000000000+1+u=(0x7ff0000000000000+1+u)+q*2^63 by omega,Nat.add_mul_mod_self_right,Nat.mod_eq_of_lt (by omega)]
 show∃s f,Ieee.double.read _=_
 generalize q*2^63+0x7ff0000000000000+1+u=W at*
 have e8:Ieee.double.binade=2^52:=rfl
 have e9:Ieee.double.infRung=0x7ff0000000000000:=rfl
 have e10:Ieee.double.signWeight=2^63:=rfl
 unfold Ieee.Format.read
 simp only[e8,e9,e10,hm]
 rw[if_neg (by omega),if_neg (by omega),if_neg (by omega)]
 exact⟨_,_,rfl⟩
theorem ajM_ {b:Nat} (h: ∃s f,FloatKind.f64.decode b= .nan s f):dt b=none:=by
 obtain⟨s,f,h⟩:=h
 unfold dt
 rw[h]
theorem apB_ (n:Nat):n% (2^52 - 1)<4503599627370495:=by omega
theorem apj_ (t:Nat):dt ((t%2)*2^63+0x7ff0000000000000+1+ (t / 2)% (2^52 - 1))=none:=
 ajM_ (alo_ _ _ (by omega) (apB_ _))
theorem Vv_ {b:Nat} (h:dt b=none): ∃s f,FloatKind.f64.decode b= .nan s f:=by
 unfold dt at h
 split at h
 ·exact⟨_,_,‹_›⟩
 ·cases h
theorem KN_ {b:Nat} {d:Ieee.Datum} (h:dt b=some d):FloatKind.f64.decode b=d:=by
 unfold dt at h
 split at h
 ·cases h
 ·simpa using h
section
variable {P:Program} {w0:World} {f:Fr} {L:zb_} {N:Fr→zb_→Prop} {ops:Array Oper} {rest:List Oper} {md:Md}
 {d:Option Tmp} {ty:TypeId} {ps:String} {af:Array Edge} {g:Option (Nat×Bool)}
def ArOp (op:BinOp):Prop:=op= .add∨op= .sub∨op= .mul
def nanF (k:FloatKind) (x y:Nat):Option Nat→Sem Value
 |some r=>pure (.float k r)
 |none=>do pure (.float k (←choose (.nanBits k x y)))
theorem ak1_ (x y:Nat) {w:World} (hw:Hp w0 L w) (o:Option Nat): ∃r w',((nanF .f64 x y o).run P w)= .ok (flw r) w'∧Hp w0 L w'∧dt r=o.bind dt:=by
 cases o with
 |some r=>exact⟨r,w,rfl,hw,rfl⟩
 |none=>exact⟨_,_,rfl,hw.drew,apj_ _⟩
theorem ae1_ (s:Bool) (f:Nat) (d:Ieee.Datum): (Ieee.Datum.nan s f).sum d=none:=by cases d<;>rfl
theorem ae2_ (s:Bool) (f:Nat) (d:Ieee.Datum):d.sum (Ieee.Datum.nan s f)=none:=by cases d<;>rfl
theorem ajj_ (s:Bool) (f:Nat) (d:Ieee.Datum): (Ieee.Datum.nan s f).product d=none:=by cases d<;>rfl
theorem ais_ (s:Bool) (f:Nat) (d:Ieee.Datum):d.product (Ieee.Datum.nan s f)=none:=by cases d<;>rfl
theorem kX_ {op:BinOp} (h:ArOp op) (x y:Nat) {w:World} (hw:Hp w0 L w): ∃r w',(Op.Complex.arith op .f64 x y).run P w= .ok r w'∧Hp w0 L w'∧dt r=arD op (dt x) (dt y):=by
 obtain⟨o,ho,hd⟩: ∃o,Op.floatArith op .f64 x y=nanF .f64 x y o∧o.bind dt=arD op (dt x) (dt y):=by
  cases hx:dt x with
  |none=>
   obtain⟨s,f,hx⟩:=Vv_ hx
   rcases h with rfl|rfl|rfl
   ·exact⟨FloatKind.f64.format.add x y,rfl,by unfold Ieee.Format.add;rw[show FloatKind.f64.format.read x=_ from hx,ae1_];rfl⟩
   ·exact⟨FloatKind.f64.format.sub x y,rfl,by unfold Ieee.Format.sub;rw[show FloatKind.f64.format.read x=_ from hx,ae1_];rfl⟩
   ·exact⟨FloatKind.f64.format.mul x y,rfl,by unfold Ieee.Format.mul;rw[show FloatKind.f64.format.read x=_ from hx,ajj_];rfl⟩
  |some a=>
   have hx:=KN_ hx
   cases hy:dt y with
   |none=>
    obtain⟨s,f,hy⟩:=Vv_ hy
    rcases h with rfl|rfl|rfl
    ·exact⟨FloatKind.f64.format.add x y,rfl,by unfold Ieee.Format.add;rw[show FloatKind.f64.format.read y=_ from hy,ae2_];rfl⟩
    ·exact⟨FloatKind.f64.format.sub x y,rfl,by unfold Ieee.Format.sub;rw[show FloatKind.f64.format.read y=_ from hy];unfold Ieee.Datum.opposite;rw[ae2_];rfl⟩
    ·exact⟨FloatKind.f64.format.mul x y,rfl,by unfold Ieee.Format.mul;rw[show FloatKind.f64.format.read y=_ from hy,ais_];rfl⟩
   |some b=>
    have hy:=KN_ hy
    rcases h with rfl|rfl|rfl
    ·exact⟨FloatKind.f64.format.add x y,rfl,by unfold Ieee.Format.add;rw[show FloatKind.f64.format.read x=_ from hx,show FloatKind.f64.format.read y=_ from hy];rfl⟩
    ·exact⟨FloatKind.f64.format.sub x y,rfl,by unfold Ieee.Format.sub;rw[show FloatKind.f64.format.read x=_ from hx,show FloatKind.f64.format.read y=_ from hy];rfl⟩
    ·exact⟨FloatKind.f64.format.mul x y,rfl,by unfold Ieee.Format.mul;rw[show FloatKind.f64.format.read x=_ from hx,show FloatKind.f64.format.read y=_ from hy];rfl⟩
 obtain⟨r,w',h1,h2,h3⟩:=ak1_ (P:=P) x y hw o
 refine⟨r,w', ?_,h2,h3.trans hd⟩
 unfold Op.Complex.arith
 rw[Sem.run_bind,ho,h1]
 rfl
theorem aoT_ {op:BinOp} (h:ArOp op) (a b c e:Nat) (t:TypeId) {w:World} (hw:Hp w0 L w): ∃r i w',(binOp op t (cxw a b) (cxw c e)).run P w= .ok (cxw r i) w'∧Hp w0 L w'∧dtc (r,i)=arC op (dtc (a,b)) (dtc (c,e)):=by
 have add: ∀op,ArOp op→ ∃r i w',((do pure (.complex .f64 (←Op.Complex.arith op .f64 a c) (←Op.Complex.arith op .f64 b e)):Sem Value).run P w)= .ok (cxw r i) w'∧Hp w0 L w'∧dt r=arD op (dt a) (dt c)∧dt i=arD op (dt b) (dt e):=by
  intro op h
  obtain⟨r,w1,h1,hw1,e1⟩:=kX_ (P:=P) h a c hw
  obtain⟨i,w2,h2,hw2,e2⟩:=kX_ (P:=P) h b e hw1
  refine⟨r,i,w2, ?_,hw2,e1,e2⟩
  simp only[Sem.run_bind,h1,Result.andThen_ok,h2]
  rfl
 rcases h with rfl|rfl|rfl
 ·obtain⟨r,i,w',h1,h2,h3,h4⟩:=add .add (.inl rfl)
  exact⟨r,i,w',h1,h2,by unfold dtc;rw[h3,h4];rfl⟩
 ·obtain⟨r,i,w',h1,h2,h3,h4⟩:=add .sub (.inr (.inl rfl))
  exact⟨r,i,w',h1,h2,by unfold dtc;rw[h3,h4];rfl⟩
 ·have m:ArOp .mul:= .inr (.inr rfl)
  obtain⟨r1,w1,h1,hw1,e1⟩:=kX_ (P:=P) m a c hw
  obtain⟨r2,w2,h2,hw2,e2⟩:=kX_ (P:=P) m b e hw1
  obtain⟨r3,w3,h3,hw3,e3⟩:=kX_ (P:=P) (.inr (.inl rfl)) r1 r2 hw2
  obtain⟨r4,w4,h4,hw4,e4⟩:=kX_ (P:=P) m a e hw3
  obtain⟨r5,w5,h5,hw5,e5⟩:=kX_ (P:=P) m b c hw4
  obtain⟨r6,w6,h6,hw6,e6⟩:=kX_ (P:=P) (.inl rfl) r4 r5 hw5
  refine⟨r3,r6,w6, ?_,hw6,by unfold dtc;rw[e3,e6,e1,e2,e4,e5];rfl⟩
  show(Op.complexOp .mul .f64 a b c e).run P w=_
  have cv: ∀ (x:Nat) (w:World),(Op.Complex.conv .f64 x .f64).run P w= .ok x w:=fun _ _=>rfl
  simp only[Op.complexOp,Sem.run_bind,cv,Result.andThen_ok,Op.Complex.product,Op.Complex.mul,Op.Complex.sub,Op.Complex.add,beq_self_eq_true, ↓reduceIte,h1,h2,h3,h4,h5,h6,Sem.run_pure]
  rfl
theorem Ow.seqStep {o:Oper} (hs:zg_ ops f o=false) (h:OpS P w0 f L o (fun v L'=>Ow P w0 ops .seq rest (qd_ f o.dst v) L' N)):Ow P w0 ops .seq (o::rest) f L N:=by
 intro w hw
 unfold wpList
 rw[qg_,hs]
 simp only[Bool.not_false, ↓reduceIte]
 exact .inl (h.wp (fun v L' w' hp hm=>hm w' hp) hw)
theorem Ow.cxArith {op:BinOp} (h:ArOp op) {t t':TypeId} {x y:Operand} {a b c e:Nat} (hs:zg_ ops f ⟨d, .binOp op t x y t',ty,ps,af,g⟩=false) (hx:ev f x=cxw a b) (hy:ev f y=cxw c e)
  (hn: ∀r i,dtc (r,i)=arC op (dtc (a,b)) (dtc (c,e))→Ow P w0 ops .seq rest (qd_ f d (cxw r i)) L N):Ow P w0 ops .seq (⟨d, .binOp op t x y t',ty,ps,af,g⟩::rest) f L N:=by
 refine Ow.seqStep hs fun w hw=> ?_
 obtain⟨r,i,w',h1,hw',he⟩:=aoT_ (P:=P) h a b c e t hw
 refine .inl ⟨cxw r i,w',L, ?_,hw',hn r i he⟩
 have hg: (eqGuard op t x y (cxw a b) (cxw c e)).run P w= .ok () w:=by rcases h with rfl|rfl|rfl<;>rfl
 simp only[execOp,Sem.run_bind,hx,hy,hg,Result.andThen_ok,h1]
 rfl
end
def ZW_ (a b:Nat×Nat):Bool:=Op.floatEq .f64 a.1 b.1&&Op.floatEq .f64 a.2 b.2
def X6_ (k:Nat×Nat):List (Nat×Nat)→Nat→Option Nat
 | [],_=>none
 |a::r,i=>if ZW_ k a then some i else X6_ k r (i+1)
theorem Zs_ {k:Nat×Nat}: ∀ {ks:List (Nat×Nat)} {i j:Nat},X6_ k ks i=some j→i≤j∧j - i<ks.length
 | [],_,_,h=>by cases h
 |a::r,i,j,h=>by
  unfold X6_ at h
  split at h
  ·cases h;exact⟨Nat.le_refl _,by simp⟩
  ·obtain⟨h1,h2⟩:=Zs_ h
   exact⟨by omega,by rw[List.length_cons];omega⟩
theorem W3_ (s:Bool) (m u k:Nat):Ieee.signed s m (u+k)=Ieee.signed s m u*2^k:=by
 unfold Ieee.signed
 cases s
 ·simp only[Bool.false_eq_true, ↓reduceIte,Nat.shiftLeft_eq,Nat.pow_add,←Nat.mul_assoc]
  rw[Int.natCast_mul,Int.natCast_pow];rfl
 ·simp only[↓reduceIte,Nat.shiftLeft_eq,Nat.pow_add,←Nat.mul_assoc]
  rw[Int.natCast_mul,Int.natCast_pow,Int.neg_mul];rfl
theorem Ju_ {s t:Bool} {m n:Nat} {i j b c:Int} (hc:c≤b) (hi:b≤i) (hj:b≤j):
  (Ieee.signed s m (i - b).toNat=Ieee.signed t n (j - b).toNat)↔(Ieee.signed s m (i - c).toNat=Ieee.signed t n (j - c).toNat):=by
 have e1: (i - c).toNat=(i - b).toNat+ (b - c).toNat:=by omega
 have e2: (j - c).toNat=(j - b).toNat+ (b - c).toNat:=by omega
 rw[e1,e2,W3_,W3_]
 have hp: (0:Int)<2^ (b - c).toNat:=Int.pow_pos (by omega)
 exact(Int.mul_eq_mul_right_iff (by omega)).symm
theorem afu_ {x y:Ieee.Datum} (h: (x.order y==some .eq)=true) (q:Ieee.Datum): (q.order x==some .eq)=(q.order y==some .eq):=by
 cases x with
 |nan s f=>cases y<;>cases h
 |infinity s=>
  cases y with
  |nan t f=>cases h
  |infinity t=>cases s<;>cases t<;>first|rfl|cases h
  |number t n j=>cases s<;>cases h
 |number s m i=>
  cases y with
  |nan t f=>cases h
  |infinity t=>cases t<;>cases h
  |number t n j=>
   cases q with
   |nan u f=>rfl
   |infinity u=>rfl
   |number u k l=>
    simp only[Ieee.Datum.order,KK_,beq_iff_eq] at h ⊢
    have h0:=(Ju_ (c:=min (min i j) l) (Int.min_le_left ..) (Int.min_le_left ..) (Int.min_le_right ..)).1 h
    rw[Bool.eq_iff_iff,beq_iff_eq,beq_iff_eq,Ju_ (c:=min (min i j) l) (by omega) (Int.min_le_left ..) (Int.min_le_right ..),h0,
     Ju_ (b:=min l j) (c:=min (min i j) l) (by omega) (Int.min_le_left ..) (Int.min_le_right ..)]
def ceqD:Option Ieee.Datum→Option Ieee.Datum→Bool
 |some x,some y=>x.order y==some .eq
 |_,_=>false
def ceqC (a b:CD):Bool:=ceqD a.1 b.1&&ceqD a.2 b.2
theorem Kr_ (a b:Nat):Op.floatEq .f64 a b=ceqD (dt a) (dt b):=by
 show((FloatKind.f64.decode a).order (FloatKind.f64.decode b)==some .eq)=_
 cases ha:dt a with
 |none=>
  obtain⟨s,f,h⟩:=Vv_ ha
  rw[h];cases FloatKind.f64.decode b<;>rfl
 |some x=>
  cases hb:dt b with
  |none=>
   obtain⟨s,f,h⟩:=Vv_ hb
   rw[h];cases FloatKind.f64.decode a<;>rfl
  |some y=>rw[KN_ ha,KN_ hb];rfl
theorem ajr_ (a b:Nat×Nat):ZW_ a b=ceqC (dtc a) (dtc b):=by
 unfold ZW_ ceqC
 rw[Kr_,Kr_];rfl
theorem Wr_ {x y:Option Ieee.Datum} (h:ceqD x y=true) (q:Option Ieee.Datum):ceqD q x=ceqD q y:=by
 cases x with
 |none=>cases y<;>cases h
 |some x=>
  cases y with
  |none=>cases h
  |some y=>
   cases q with
   |none=>rfl
   |some q=>exact afu_ h q
theorem aih_ {x y:CD} (h:ceqC x y=true) (q:CD):ceqC q x=ceqC q y:=by
 unfold ceqC at h ⊢
 simp only[Bool.and_eq_true] at h
 rw[Wr_ h.1,Wr_ h.2]
def fndM {β:Type} (k:CD):List (CD×β)→Nat→Option Nat
 | [],_=>none
 |a::r,i=>if ceqC k a.1 then some i else fndM k r (i+1)
inductive KsOk {β:Type}:List (Nat×Nat)→List (CD×β)→Prop
 |nil:KsOk [] []
 |cons {k:Nat×Nat} {a:CD×β} {ks:List (Nat×Nat)} {m:List (CD×β)} (h1: ∀q,ceqC q (dtc k)=ceqC q a.1) (h2:KsOk ks m):KsOk (k::ks) (a::m)
theorem KsOk.fnd {β:Type} {ks:List (Nat×Nat)} {m:List (CD×β)} (h:KsOk ks m) (k:Nat×Nat): ∀i,X6_ k ks i=fndM (dtc k) m i:=by
 induction h with
 |nil=>intro i;rfl
 |cons h1 _ ih=>
  intro i
  unfold X6_ fndM
  rw[ajr_,h1,ih]
theorem KsOk.snoc {β:Type} {ks:List (Nat×Nat)} {m:List (CD×β)} (h:KsOk ks m) (k:Nat×Nat) (b:β):KsOk (ks++ [k]) (m++ [(dtc k,b)]):=by
 induction h with
 |nil=>exact .cons (fun _=>rfl) .nil
 |cons h1 _ ih=>exact .cons h1 ih
theorem KsOk.len {β:Type} {ks:List (Nat×Nat)} {m:List (CD×β)} (h:KsOk ks m):ks.length=m.length:=by
 induction h with
 |nil=>rfl
 |cons _ _ ih=>rw[List.length_cons,List.length_cons,ih]
theorem aeK_ {k:Nat×Nat}: ∀ {ks:List (Nat×Nat)} {i j:Nat},X6_ k ks i=some j→ ∃a,ks[j - i]? =some a∧ZW_ k a=true
 | [],_,_,h=>by cases h
 |a::r,i,j,h=>by
  unfold X6_ at h
  split at h
  ·rename_i hc;cases h;exact⟨a,by simp,hc⟩
  ·obtain⟨b,h1,h2⟩:=aeK_ h
   have h3:=(Zs_ h).1
   exact⟨b,by rw[show j - i=(j - (i+1))+1 by omega,List.getElem?_cons_succ];exact h1,h2⟩
theorem KsOk.set {β:Type} {ks:List (Nat×Nat)} {m:List (CD×β)} (h:KsOk ks m) (b:β): ∀ (j:Nat) (k':Nat×Nat) (a:CD×β),m[j]? =some a→(∀q,ceqC q (dtc k')=ceqC q a.1)→KsOk (ks.set j k') (m.set j (a.1,b)):=by
 induction h with
 |nil=>intro j k' a h;cases h
 |cons h1 h2 ih=>
  intro j k' a hj hk
  cases j with
  |zero=>cases hj;exact .cons hk h2
  |succ j=>exact .cons h1 (ih j k' a hj hk)
theorem KsOk.get {β:Type} {ks:List (Nat×Nat)} {m:List (CD×β)} (h:KsOk ks m): ∀ (j:Nat) (k:Nat×Nat),ks[j]? =some k→ ∃a,m[j]? =some a∧ ∀q,ceqC q (dtc k)=ceqC q a.1:=by
 induction h with
 |nil=>intro j k h;cases h
 |cons h1 h2 ih=>
  intro j k hj
  cases j with
  |zero=>cases hj;exact⟨_,rfl,h1⟩
  |succ j=>exact ih j k hj
def getM {β:Type} (z:β) (k:CD) (m:List (CD×β)):β:=match fndM k m 0 with|some j=>(match m[j]? with|some a=>a.2|none=>z) |none=>z
def updM {β:Type} (k:CD) (b:β) (m:List (CD×β)):List (CD×β):=match fndM k m 0 with|some j=>(match m[j]? with|some a=>m.set j (a.1,b) |none=>m) |none=>m++ [(k,b)]
def MapC (o:Obj) (ks:List (Nat×Nat)) (vals:List Value):Prop:= ∃es clock,o= .map es clock∧es.toList.map (·.key)=ks.map (fun k=>cxw k.1 k.2)∧es.toList.map (·.val)=vals
def getC (k:Nat×Nat) (ks:List (Nat×Nat)) (vals:List Value) (z:Value):Value:=match X6_ k ks 0 with|some j=>vals.getD j z|none=>z
def updC (k:Nat×Nat) (ks:List (Nat×Nat)) (vals:List Value) (v:Value):List Value:=match X6_ k ks 0 with|some j=>vals.set j v|none=>vals++ [v]
section
variable {P:Program} {kt:TypeId}
theorem aoY_ (hu:P.underlying kt=some (.complex .f64)) (a b:Nat×Nat) (w:World): (Op.equal kt (cxw a.1 a.2) (cxw b.1 b.2)).run P w= .ok (ZW_ a b) w:=by
 have h: ∀n,(Op.equalIn (n+1) kt (cxw a.1 a.2) (cxw b.1 b.2)).run P w= .ok (ZW_ a b) w:=by
  intro n
  simp only[Op.equalIn,Sem.run_bind,run_underlying hu w,Result.andThen_ok,cxw]
  rfl
 exact h 9999
theorem Q4_ (hu:P.underlying kt=some (.complex .f64)) (k:Nat×Nat) (w:World) (z:Value): ∀ (es:List MapEntry) (ks:List (Nat×Nat)) (i:Nat),es.map (·.key)=ks.map (fun k=>cxw k.1 k.2)→
  (Instr.findAsking kt (cxw k.1 k.2) es i).run P w= .ok ((X6_ k ks i).map fun j=>(j,(es.map (·.val)).getD (j - i) z)) w
 | [],[],i,_=>rfl
 | [],_::_,_,h=>by cases h
 |_::_,[],_,h=>by cases h
 |e::es,a::ks,i,h=>by
  simp only[List.map_cons,List.cons.injEq] at h
  obtain⟨h1,h2⟩:=h
  unfold Instr.findAsking
  simp only[Sem.run_bind,h1,aoY_ hu,Result.andThen_ok]
  unfold X6_
  cases hc:ZW_ k a
  ·simp only[Bool.false_eq_true, ↓reduceIte]
   rw[Q4_ hu k w z es ks (i+1) h2]
   congr 1
   cases hf:X6_ k ks (i+1) with
   |none=>rfl
   |some j=>
    obtain⟨h3,h4⟩:=Zs_ hf
    simp only[Option.map_some,Option.some.injEq,Prod.mk.injEq,true_and]
    rw[show j - i=(j - (i+1))+1 by omega,List.map_cons,List.getD_cons_succ]
  ·simp only[↓reduceIte,Option.map_some,Nat.sub_self,List.map_cons,List.getD_cons_zero]
   rfl
theorem ZP_ (hu:P.underlying kt=some (.complex .f64)) (k:Nat×Nat) (w:World) (z:Value) (es:List MapEntry) (ks:List (Nat×Nat)) (h:es.map (·.key)=ks.map (fun k=>cxw k.1 k.2)):
  (Instr.findKey kt (cxw k.1 k.2) es).run P w= .ok ((X6_ k ks 0).map fun j=>(j,(es.map (·.val)).getD j z)) w:=by
 have ha:=Q4_ hu k w z es ks 0 h
 simp only[Nat.sub_zero] at ha
 unfold Instr.findKey
 simp only[Sem.run_bind,run_underlying hu w,Result.andThen_ok]
 match es,ks,h with
 | [],[],_=>rfl
 |e::es,a::ks,h=>
  have h1:e.key=cxw a.1 a.2:=by simp only[List.map_cons,List.cons.injEq] at h;exact h.1
  have hn:Instr.findNow (.complex .f64) (cxw k.1 k.2) (e::es) 0=none:=by
   unfold Instr.findNow
   rw[h1];rfl
  rw[hn]
  exact ha
theorem vB_ (hu:P.underlying kt=some (.complex .f64)) (e:Bool) (k:Nat×Nat) (w:World): (Instr.checkKey e 10000 kt (cxw k.1 k.2)).run P w= .ok () w:=by
 unfold Instr.checkKey
 simp only[Sem.run_bind,run_underlying hu w,Result.andThen_ok]
 rfl
variable {w0:World} {f:Fr} {L:zb_} {N:Fr→zb_→Prop} {ops:Array Oper} {rest:List Oper} {md:Md}
 {d:Option Tmp} {ty:TypeId} {ps:String} {af:Array Edge} {g:Option (Nat×Bool)}
theorem Ow.makeMapC {t:TypeId} {md':Md} (he:md.turn=some md') (hs:zg_ ops f ⟨d, .makeMap t none,ty,ps,af,g⟩=false)
  (hn: ∀b o,jM_ L b→w0.heap.size≤b→MapC o [] []→Ow P w0 ops md' rest (qd_ f d (vm b)) (L++ [(b,o)]) N):
  Ow P w0 ops md (⟨d, .makeMap t none,ty,ps,af,g⟩::rest) f L N:=by
 refine Ow.step he rfl hs fun w hw=> .inl ⟨vm w.heap.size,w.alloc (.map #[] 0),_, ?_,hw.alloc _,hn _ _ (z2_ fun b hb=>hw.lt hb) hw.size ⟨#[],0,rfl,rfl,rfl⟩⟩
 simp only[execOp,Instr.makeMap,Sem.run_bind,Option.map_none]
 rfl
theorem Ow.mapGetC {t vt:TypeId} {x y:Operand} {b:Nat} {o:Obj} {ks:List (Nat×Nat)} {vals:List Value} {k:Nat×Nat} {z:Value} {md':Md} (he:md.turn=some md') (hs:zg_ ops f ⟨d, .lookup t x y false,ty,ps,af,g⟩=false) (hu:P.underlying t=some (.map kt vt)) (hk:P.underlying kt=some (.complex .f64))
  (hz:zI_ P vt=some z) (hx:ev f x=vm b) (hy:ev f y=cxw k.1 k.2) (hl:zk_ w0 L b=some o) (hm:MapC o ks vals)
  (hn:Ow P w0 ops md' rest (qd_ f d (getC k ks vals z)) L N):
  Ow P w0 ops md (⟨d, .lookup t x y false,ty,ps,af,g⟩::rest) f L N:=by
 obtain⟨es,c,rfl,hes,hv⟩:=hm
 refine Ow.step he rfl hs fun w hw=> ?_
 have hb:=hw.read hl
 have hfk:=ZP_ hk k w z es.toList ks hes
 rw[hv] at hfk
 refine .inl ⟨_,w,L, ?_,hw,hn⟩
 have: (Instr.lookup t (vm b) (cxw k.1 k.2) false).run P w= .ok (getC k ks vals z) w:=by
  unfold getC
  cases hf:X6_ k ks 0 with
  |none=>
   rw[hf] at hfk
   simp only[Instr.lookup,vm,Sem.run_bind,run_underlying hu w,Result.andThen_ok,q3_ hb,Sem.run_pure,vB_ hk,hfk,Option.map_none,jf_ hz w,Bool.false_eq_true, ↓reduceIte]
  |some j=>
   rw[hf] at hfk
   simp only[Instr.lookup,vm,Sem.run_bind,run_underlying hu w,Result.andThen_ok,q3_ hb,Sem.run_pure,vB_ hk,hfk,Option.map_some,Bool.false_eq_true, ↓reduceIte]
 simp only[execOp,Sem.run_bind,hx,hy]
 rw[this];rfl
theorem ahT_ (a b:Value) {w:World} (hw:Hp w0 L w): ∃c w',(Instr.keyThatStays a b).run P w= .ok c w'∧Hp w0 L w'∧(c=a∨c=b):=by
 unfold Instr.keyThatStays
 split
 ·exact⟨b,w,rfl,hw, .inr rfl⟩
 ·refine⟨_,_,rfl,hw.drew, ?_⟩
  split
  ·exact .inr rfl
  ·exact .inl rfl
def UpdK (k:Nat×Nat) (ks ks':List (Nat×Nat)):Prop:=match X6_ k ks 0 with
 |none=>ks'=ks++ [k]
 |some j=> ∃k',ks'=ks.set j k'∧(k'=k∨ks[j]? =some k')
theorem UpdK.ok {β:Type} {k:Nat×Nat} {ks ks':List (Nat×Nat)} {m:List (CD×β)} (h:UpdK k ks ks') (hk:KsOk ks m) (b:β):KsOk ks' (updM (dtc k) b m):=by
 unfold UpdK at h
 unfold updM
 rw[hk.fnd k 0] at h
 cases hf:fndM (dtc k) m 0 with
 |none=>rw[hf] at h;simp only at h ⊢;rw[h];exact hk.snoc k b
 |some j=>
  rw[hf] at h
  obtain⟨k',rfl,hk'⟩:=h
  have hf':X6_ k ks 0=some j:=by rw[hk.fnd k 0,hf]
  obtain⟨a,h1,h2⟩:=aeK_ hf'
  rw[Nat.sub_zero] at h1
  obtain⟨c,h3,h4⟩:=hk.get j a h1
  simp only[h3]
  refine hk.set b j k' c h3 fun q=> ?_
  rcases hk' with rfl|hk'
  ·rw[ajr_] at h2
   rw[aih_ h2 q,h4 q]
  ·rw[h1] at hk'
   cases hk'
   exact h4 q
theorem Ow.mapUpdateC {t vt:TypeId} {x y zz:Operand} {b:Nat} {o:Obj} {ks:List (Nat×Nat)} {vals:List Value} {k:Nat×Nat} {v:Value} {md':Md} (he:md.turn=some md') (hs:zg_ ops f ⟨d, .mapUpdate t x y zz,ty,ps,af,g⟩=false) (hu:P.underlying t=some (.map kt vt)) (hk:P.underlying kt=some (.complex .f64))
  (hx:ev f x=vm b) (hy:ev f y=cxw k.1 k.2) (hz:ev f zz=v) (hl:look L b=some o) (hm:MapC o ks vals)
  (hn: ∀o' ks',MapC o' ks' (updC k ks vals v)→UpdK k ks ks'→Ow P w0 ops md' rest (qd_ f d undef) (setB L b o') N):
  Ow P w0 ops md (⟨d, .mapUpdate t x y zz,ty,ps,af,g⟩::rest) f L N:=by
 obtain⟨es,c,rfl,hes,hv⟩:=hm
 refine Ow.step he rfl hs fun w hw=> ?_
 have hb:=hw.has _ _ (zw_ hl)
 have hfk:=ZP_ hk k w undef es.toList ks hes
 cases hf:X6_ k ks 0 with
 |none=>
  rw[hf] at hfk
  refine .inr (.inl ⟨{w with heap:=w.heap.setIfInBounds b (.map (es.push {key:=cxw k.1 k.2,val:=v,born:=c}) (c+1))},_, ?_,hw.set (zo_ hl) rfl rfl rfl rfl,hn _ (ks++ [k]) ⟨_,_,rfl, ?_, ?_⟩ (by unfold UpdK;rw[hf])⟩)
  ·have: (Instr.mapUpdate t (vm b) (cxw k.1 k.2) v).run P w= .ok () {w with heap:=w.heap.setIfInBounds b (.map (es.push {key:=cxw k.1 k.2,val:=v,born:=c}) (c+1))}:=by
    simp only[Instr.mapUpdate,vm,Sem.run_bind,run_underlying hu w,Result.andThen_ok,q3_ hb,vB_ hk,hfk,Option.map_none,xs_ hb]
   simp only[execOp,Sem.run_bind,hx,hy,hz]
   rw[this];rfl
  ·rw[Array.toList_push,List.map_append,hes,List.map_append];rfl
  ·unfold updC
   rw[hf,Array.toList_push,List.map_append,hv];rfl
 |some j=>
  rw[hf] at hfk
  obtain⟨-,hj⟩:=Zs_ hf
  rw[Nat.sub_zero] at hj
  have hlen:es.toList.length=ks.length:=by
   have:=congrArg List.length hes
   simpa using this
  have hsz:es.size=ks.length:=by simpa using hlen
  have hje:j<es.size:=by omega
  obtain⟨kk,w',hst,hw',hkk⟩:=ahT_ (P:=P) (((es[j]?).map (·.key)).getD (cxw k.1 k.2)) (cxw k.1 k.2) hw
  have hb':=hw'.has _ _ (zw_ hl)
  obtain⟨k',hk',hko⟩: ∃k':Nat×Nat,kk=cxw k'.1 k'.2∧(k'=k∨ks[j]? =some k'):=by
   rcases hkk with rfl|rfl
   ·have:=congrArg (·[j]?) hes
    simp only[List.getElem?_map,List.getElem?_eq_getElem hj,Option.map_some] at this
    have e1:es.toList[j]? =es[j]? :=by simp
    rw[e1] at this
    exact⟨ks[j],by rw[this];rfl, .inr (List.getElem?_eq_getElem hj)⟩
   ·exact⟨k,rfl, .inl rfl⟩
  refine .inr (.inl ⟨{w' with heap:=w'.heap.setIfInBounds b (.map (es.modify j fun e=>{e with key:=kk,val:=v}) c)},_, ?_,hw'.set (zo_ hl) rfl rfl rfl rfl,hn _ (ks.set j k') ⟨_,_,rfl, ?_, ?_⟩ (by unfold UpdK;rw[hf];exact⟨k',rfl,hko⟩)⟩)
  ·have: (Instr.mapUpdate t (vm b) (cxw k.1 k.2) v).run P w= .ok () {w' with heap:=w'.heap.setIfInBounds b (.map (es.modify j fun e=>{e with key:=kk,val:=v}) c)}:=by
    simp only[Instr.mapUpdate,vm,Sem.run_bind,run_underlying hu w,Result.andThen_ok,q3_ hb,vB_ hk,hfk,Option.map_some,hst,xs_ hb']
   simp only[execOp,Sem.run_bind,hx,hy,hz]
   rw[this];rfl
  ·rw[Array.toList_modify]
   apply List.ext_getElem?
   intro i
   have:=congrArg (·[i]?) hes
   simp only[List.getElem?_map] at this
   simp only[List.getElem?_map,List.getElem?_modify,List.getElem?_set]
   by_cases hi:j=i
   ·subst hi
    simp[hk',hj,hje]
   ·simp only[Array.getElem?_toList] at this
    simp[hi,this]
  ·unfold updC
   rw[hf,Array.toList_modify]
   apply List.ext_getElem?
   intro i
   have:=congrArg (·[i]?) hv
   simp only[List.getElem?_map] at this
   have hjv:j<vals.length:=by rw[←hv,List.length_map,hlen];exact hj
   simp only[List.getElem?_map,List.getElem?_modify,List.getElem?_set]
   by_cases hi:j=i
   ·subst hi
    simp[hjv,hje]
   ·simp only[Array.getElem?_toList] at this
    simp[hi,this]
end
end Go.Sx
section
open Go Go.Proofs Go.Sx Go.StP Go.Flo
namespace Go.Proofs
set_option maxRecDepth 10000
set_option maxHeartbeats 400000
set_option linter.unusedSimpArgs false
theorem cvUF:cvT Tryz.prog 5 185= .no:=id (by kernel_rfl)
def cxC (k:Nat×Nat):List Value:= [cxw k.1 k.2]
theorem aiL_ (k:Nat×Nat): (cxC k).length=1:=rfl
def GlobT (T:List CD) (w:World):Prop:= ∃l:List (Nat×Nat),l.length=4∧l.map dtc=T∧ ∃e f,w.heap[(4:Nat)]? =some (.cells (l.map cxC).flatten.toArray e f)
theorem GlobT.of {T:List CD} {w w':World} {L:zb_} (h:GlobT T w) (hw:Hp w L w') (hn: (4:Nat)∉keys L):GlobT T w':=by
 obtain⟨l,hl,hT,e,f,h⟩:=h
 exact⟨l,hl,hT,e,f,by rw[hw.old _ (Array.getElem?_eq_some_iff.1 h).1 hn];exact h⟩
theorem GlobT.new {T:List CD} {w w':World} {L:zb_} (h:GlobT T w) (hw:Hp w L w') (hn:New w.heap.size L):GlobT T w':=by
 refine h.of hw ?_
 obtain⟨l,hl,hT,e,f,h⟩:=h
 exact hn.not (Array.getElem?_eq_some_iff.1 h).1
theorem akk_ (l:List (Nat×Nat)): (l.map cxC).flatten=l.map fun k=>cxw k.1 k.2:=by
 induction l with
 |nil=>rfl
 |cons a r ih=>rw[List.map_cons,List.flatten_cons,ih];rfl
theorem agR_ (l:List (Nat×Nat)) (E:TypeId) (f:Nat×Nat) {k:Nat} (hk:k<l.length) (n:Nat):zl_ (some (false,n)) (some (.cells (l.map cxC).flatten.toArray E f)) k=some (cxw (l.getD k (0,0)).1 (l.getD k (0,0)).2):=by
 unfold zl_
 rw[akk_]
 simp only[List.getElem?_toArray,List.getElem?_map,List.getElem?_eq_getElem hk,List.getD_eq_getElem?_getD]
 simp
set_option linter.defProp false
def zV_:=And.intro (@zA_) (@zz_)
def bR (c:UInt8):Int:=((c&&&15).toNat:Int)
def bI (c:UInt8):Int:=((kP_ c 4).toNat:Int)
theorem jT_ (c:UInt8) (w:World):Rets Tryz.prog 86 #[v8 c] w (fun v D=>v=cx (bR c) (bI c)∧D= []):=by
 have s:zj_ .shr (v8 c) (Value.int .u64 4)=some (v8 (kP_ c 4)):=vw_ c .u64 4
 have a:zj_ .and (v8 c) (Value.int .u8 15)=some (v8 (c&&&15)):=KC_ c 15
 refine Rets.enterV Tryz.func86 rfl (rs:= [.tmp 2]) Tryz.results86 Tryz.ntmps86 ?_
 refine kf ?_
 first|with_reducible refine ks [] (And.intro @zV_ @a) ?_|refine kp (And.intro @zV_ @a) ?_
 refine Ow.convUF rfl rfl cvUF Tryz.underlying5 Tryz.underlying185 rfl ?_
 refine ko (And.intro @zV_ @s) ?_
 refine Ow.convUF rfl rfl cvUF Tryz.underlying5 Tryz.underlying185 rfl ?_
 refine Ow.complexB rfl rfl rfl ?_
 refine ko @zV_ ?_
 first|with_reducible refine ks [] @zV_ ?_|refine kp @zV_ ?_
 refine⟨_,(ke @zV_),trivial, ?_⟩
 rfl
def amk_ (c:UInt8):CD:=dtc (F (bR c),F (bI c))
def od0:CD:=(none,none)
def winD (T:List CD) (s:List UInt8):Nat→CD
 |0=>dtc (0,0)
 |k+1=>arC .add (winD T s k) (arC .mul (amk_ (s.getD k 0)) (T.getD ((15 - k)%4) od0))
def acp_ (T:List CD) (h:CD) (x y:UInt8):CD:=arC .add (arC .sub (arC .mul h (T.getD 1 od0)) (amk_ x)) (amk_ y)
theorem afa_ {T:List CD} {l:List (Nat×Nat)} (h:l.map dtc=T) {k:Nat} (hk:k<l.length):T.getD k od0=dtc (l.getD k (0,0)):=by
 rw[←h,List.getD_eq_getElem?_getD,List.getD_eq_getElem?_getD,List.getElem?_map,List.getElem?_eq_getElem hk];rfl
structure WnG where
 k:Nat
 h:Nat×Nat
theorem ap1_ (j:Nat) (hj:j<16): ((15 - (j:Int))%4).toNat<4∧(15 - (j:Int))%4=(((15 - j)%4:Nat):Int):=by omega
theorem aeX_ (T:List CD) (s:List UInt8) (w:World) (hG:GlobT T w) (hs:s.length=16):Rets Tryz.prog 147 #[vs s] w (fun v D=>(∃r i,v= .tuple #[cxw r i, .bool true]∧dtc (r,i)=winD T s 16)∧D= []):=by
 obtain⟨tl,htl,hT,e,fz,htab⟩:=hG
 refine Rets.enterV Tryz.func147 rfl (rs:= [.tmp 2, .tmp 3]) Tryz.results147 Tryz.ntmps147 ?_
 refine kf ?_
 have d0: ((s.length:Int) !=16)=false:=by rw[hs];rfl
 first|with_reducible refine ks [] (And.intro @zV_ @d0) ?_|refine kp (And.intro @zV_ @d0) ?_
 refine Cw.loopG (G:=WnG) [10,11,5,12,13,14,15,16,17,18,19,20,21,22,23,4,24,9] (fun g=> [(9,vi g.k),(4,cxw g.h.1 g.h.2)]) (fun g=> []) (fun g=>g.k≤16∧dtc g.h=winD T s g.k) (fun g=>16 - g.k) ⟨0,(0,0)⟩ rfl rfl ?_ ?_
 ·exact⟨Nat.zero_le _,rfl⟩
 intro g j hg
 refine kv ?_
 obtain⟨k,hh⟩:=g
 simp only at hg ⊢
 obtain⟨hg,hD⟩:=hg
 by_cases hlt:k<16
 ·have hd:decide ((k:Int)<16)=true:=decide_eq_true (by omega)
  obtain⟨m1,m2⟩:=ap1_ k hlt
  have l4:=agR_ tl e fz (k:=(15 - k)%4) (by omega) 1
  have rt:zk_ w [] (4:Nat)=some (.cells (tl.map cxC).flatten.toArray e fz):=by rw[zY_];exact htab
  first|with_reducible refine ks [] (And.intro @zV_ @hd) ?_|refine kp (And.intro @zV_ @hd) ?_
  refine Cw.regionG [4] [] 13 (by kernel_rfl) rfl ?_
  refine kyc ?_
  refine OwG.run [0,1,2,3,5,6,7,8,9] [true,true,true,true,false,true,true,true,true,true,false,false,false] 4 rfl (by kernel_rfl) (by kernel_rfl) fun k hk=> ?_
  refine kya ?_
  refine kp (And.intro @zV_ (And.intro @Md.next_sofnil (And.intro @l4 (And.intro @rt (@m2))))) ?_
  (with_reducible refine hk _ _ _ ?_);clear hk k
  refine OwG.one 4 _ (by kernel_rfl) rfl ?_
  refine Ow.callC rfl rfl Tryz.call86 (fun w' hw'=>Rets.toX (jT_ (s.getD k 0) w')) (fun B4 v4 D4 hA4 hB4 hN4 hS4=> ?_)
  obtain⟨rfl,rfl⟩:=hS4
  rw[List.append_nil]
  with_reducible refine Ow.nilD ?_
  refine kyb ?_
  refine OwG.one 10 _ (by kernel_rfl) rfl ?_
  refine Ow.cxArith (.inr (.inr rfl)) rfl rfl rfl fun r5 i5 h5=> ?_
  with_reducible refine Ow.nilD ?_
  refine kyb ?_
  refine OwG.one 11 _ (by kernel_rfl) rfl ?_
  refine Ow.cxArith (.inl rfl) rfl rfl rfl fun r6 i6 h6=> ?_
  with_reducible refine Ow.nilD ?_
  refine kyb ?_
  refine OwG.rest [12] rfl (by kernel_rfl) (by kernel_rfl) ?_
  refine kya ?_
  refine kq @zV_ ?_
  first|with_reducible refine ks [] @zV_ ?_|refine kp @zV_ ?_
  refine Again.mk ⟨k+1,(r6,i6)⟩ (by show 16 - (k+1)<16 - k;omega) ⟨hlt, ?_⟩ rfl rfl
  show dtc (r6,i6)=arC .add (winD T s k) (arC .mul (amk_ (s.getD k 0)) (T.getD ((15 - k)%4) od0))
  rw[h6,h5,afa_ hT (by omega),←hD];rfl
 ·obtain rfl:k=16:=by omega
  have hd:decide ((16:Int)<16)=false:=rfl
  first|with_reducible refine ks [] (And.intro @zV_ @hd) ?_|refine kp (And.intro @zV_ @hd) ?_
  refine⟨_,(ke @zV_),trivial, ?_⟩
  exact⟨_,_,rfl,hD⟩
theorem ail_ (T:List CD) (h:Nat×Nat) (x y:UInt8) (w:World) (hG:GlobT T w):Rets Tryz.prog 148 #[cxw h.1 h.2,v8 x,v8 y] w (fun v D=>(∃r i,v=cxw r i∧dtc (r,i)=acp_ T (dtc h) x y)∧D= []):=by
 obtain⟨tl,htl,hT,e,fz,htab⟩:=hG
 have l4:=agR_ tl e fz (k:=1) (by omega) 1
 have rt:zk_ w [] (4:Nat)=some (.cells (tl.map cxC).flatten.toArray e fz):=by rw[zY_];exact htab
 refine Rets.enterV Tryz.func148 rfl (rs:= [.tmp 6]) Tryz.results148 Tryz.ntmps148 ?_
 refine kf ?_
 first|with_reducible refine ks [] @zV_ ?_|refine kp @zV_ ?_
 refine Cw.regionG [4] [] 11 (by kernel_rfl) rfl ?_
 refine kyc ?_
 refine OwG.run [0,1,2,4,7] [true,true,true,false,true,false,false,true,false,false,false] 6 rfl (by kernel_rfl) (by kernel_rfl) fun k hk=> ?_
 refine kya ?_
 refine kp (And.intro @zV_ (And.intro @Md.next_sofnil (And.intro @l4 (@rt)))) ?_
 (with_reducible refine hk _ _ _ ?_);clear hk k
 refine OwG.two 3 5 _ _ (by kernel_rfl) rfl rfl ?_ ?_
 ·skip
  refine Ow.cxArith (.inr (.inr rfl)) rfl rfl rfl fun r3 i3 h3=> ?_
  with_reducible refine Ow.nilD ?_
  refine kyb ?_
  refine OwG.one 5 _ (by kernel_rfl) rfl ?_
  refine Ow.callC rfl rfl Tryz.call86 (fun w' hw'=>Rets.toX (jT_ x w')) (fun B4 v4 D4 hA4 hB4 hN4 hS4=> ?_)
  obtain⟨rfl,rfl⟩:=hS4
  rw[List.append_nil]
  with_reducible refine Ow.nilD ?_
  refine kyb ?_
  refine OwG.two 6 8 _ _ (by kernel_rfl) rfl rfl ?_ ?_
  ·skip
   refine Ow.cxArith (.inr (.inl rfl)) rfl rfl rfl fun r6 i6 h6=> ?_
   with_reducible refine Ow.nilD ?_
   refine kyb ?_
   refine OwG.one 8 _ (by kernel_rfl) rfl ?_
   refine Ow.callC rfl rfl Tryz.call86 (fun w' hw'=>Rets.toX (jT_ y w')) (fun B4 v4 D4 hA4 hB4 hN4 hS4=> ?_)
   obtain⟨rfl,rfl⟩:=hS4
   rw[List.append_nil]
   with_reducible refine Ow.nilD ?_
   refine kyb ?_
   refine OwG.one 9 _ (by kernel_rfl) rfl ?_
   refine Ow.cxArith (.inl rfl) rfl rfl rfl fun r9 i9 h9=> ?_
   with_reducible refine Ow.nilD ?_
   refine kyb ?_
   refine OwG.rest [10] rfl (by kernel_rfl) (by kernel_rfl) ?_
   refine kya ?_
   refine kq @zV_ ?_
   first|with_reducible refine ks [] @zV_ ?_|refine kp @zV_ ?_
   refine⟨_,(ke @zV_),trivial, ?_⟩
   exact⟨_,_,rfl,by rw[h9,h6,h3,acp_,afa_ hT (by omega)];rfl⟩
  ·skip
   refine Ow.callC rfl rfl Tryz.call86 (fun w' hw'=>Rets.toX (jT_ y w')) (fun B4 v4 D4 hA4 hB4 hN4 hS4=> ?_)
   obtain⟨rfl,rfl⟩:=hS4
   rw[List.append_nil]
   with_reducible refine Ow.nilD ?_
   refine kyb ?_
   refine OwG.one 6 _ (by kernel_rfl) rfl ?_
   refine Ow.cxArith (.inr (.inl rfl)) rfl rfl rfl fun r6 i6 h6=> ?_
   with_reducible refine Ow.nilD ?_
   refine kyb ?_
   refine OwG.one 9 _ (by kernel_rfl) rfl ?_
   refine Ow.cxArith (.inl rfl) rfl rfl rfl fun r9 i9 h9=> ?_
   with_reducible refine Ow.nilD ?_
   refine kyb ?_
   refine OwG.rest [10] rfl (by kernel_rfl) (by kernel_rfl) ?_
   refine kya ?_
   refine kq @zV_ ?_
   first|with_reducible refine ks [] @zV_ ?_|refine kp @zV_ ?_
   refine⟨_,(ke @zV_),trivial, ?_⟩
   exact⟨_,_,rfl,by rw[h9,h6,h3,acp_,afa_ hT (by omega)];rfl⟩
 ·skip
  refine Ow.callC rfl rfl Tryz.call86 (fun w' hw'=>Rets.toX (jT_ x w')) (fun B4 v4 D4 hA4 hB4 hN4 hS4=> ?_)
  obtain⟨rfl,rfl⟩:=hS4
  rw[List.append_nil]
  with_reducible refine Ow.nilD ?_
  refine kyb ?_
  refine OwG.two 3 8 _ _ (by kernel_rfl) rfl rfl ?_ ?_
  ·skip
   refine Ow.cxArith (.inr (.inr rfl)) rfl rfl rfl fun r3 i3 h3=> ?_
   with_reducible refine Ow.nilD ?_
   refine kyb ?_
   refine OwG.two 6 8 _ _ (by kernel_rfl) rfl rfl ?_ ?_
   ·skip
    refine Ow.cxArith (.inr (.inl rfl)) rfl rfl rfl fun r6 i6 h6=> ?_
    with_reducible refine Ow.nilD ?_
    refine kyb ?_
    refine OwG.one 8 _ (by kernel_rfl) rfl ?_
    refine Ow.callC rfl rfl Tryz.call86 (fun w' hw'=>Rets.toX (jT_ y w')) (fun B4 v4 D4 hA4 hB4 hN4 hS4=> ?_)
    obtain⟨rfl,rfl⟩:=hS4
    rw[List.append_nil]
    with_reducible refine Ow.nilD ?_
    refine kyb ?_
    refine OwG.one 9 _ (by kernel_rfl) rfl ?_
    refine Ow.cxArith (.inl rfl) rfl rfl rfl fun r9 i9 h9=> ?_
    with_reducible refine Ow.nilD ?_
    refine kyb ?_
    refine OwG.rest [10] rfl (by kernel_rfl) (by kernel_rfl) ?_
    refine kya ?_
    refine kq @zV_ ?_
    first|with_reducible refine ks [] @zV_ ?_|refine kp @zV_ ?_
    refine⟨_,(ke @zV_),trivial, ?_⟩
    exact⟨_,_,rfl,by rw[h9,h6,h3,acp_,afa_ hT (by omega)];rfl⟩
   ·skip
    refine Ow.callC rfl rfl Tryz.call86 (fun w' hw'=>Rets.toX (jT_ y w')) (fun B4 v4 D4 hA4 hB4 hN4 hS4=> ?_)
    obtain⟨rfl,rfl⟩:=hS4
    rw[List.append_nil]
    with_reducible refine Ow.nilD ?_
    refine kyb ?_
    refine OwG.one 6 _ (by kernel_rfl) rfl ?_
    refine Ow.cxArith (.inr (.inl rfl)) rfl rfl rfl fun r6 i6 h6=> ?_
    with_reducible refine Ow.nilD ?_
    refine kyb ?_
    refine OwG.one 9 _ (by kernel_rfl) rfl ?_
    refine Ow.cxArith (.inl rfl) rfl rfl rfl fun r9 i9 h9=> ?_
    with_reducible refine Ow.nilD ?_
    refine kyb ?_
    refine OwG.rest [10] rfl (by kernel_rfl) (by kernel_rfl) ?_
    refine kya ?_
    refine kq @zV_ ?_
    first|with_reducible refine ks [] @zV_ ?_|refine kp @zV_ ?_
    refine⟨_,(ke @zV_),trivial, ?_⟩
    exact⟨_,_,rfl,by rw[h9,h6,h3,acp_,afa_ hT (by omega)];rfl⟩
  ·skip
   refine Ow.callC rfl rfl Tryz.call86 (fun w' hw'=>Rets.toX (jT_ y w')) (fun B4 v4 D4 hA4 hB4 hN4 hS4=> ?_)
   obtain⟨rfl,rfl⟩:=hS4
   rw[List.append_nil]
   with_reducible refine Ow.nilD ?_
   refine kyb ?_
   refine OwG.one 3 _ (by kernel_rfl) rfl ?_
   refine Ow.cxArith (.inr (.inr rfl)) rfl rfl rfl fun r3 i3 h3=> ?_
   with_reducible refine Ow.nilD ?_
   refine kyb ?_
   refine OwG.one 6 _ (by kernel_rfl) rfl ?_
   refine Ow.cxArith (.inr (.inl rfl)) rfl rfl rfl fun r6 i6 h6=> ?_
   with_reducible refine Ow.nilD ?_
   refine kyb ?_
   refine OwG.one 9 _ (by kernel_rfl) rfl ?_
   refine Ow.cxArith (.inl rfl) rfl rfl rfl fun r9 i9 h9=> ?_
   with_reducible refine Ow.nilD ?_
   refine kyb ?_
   refine OwG.rest [10] rfl (by kernel_rfl) (by kernel_rfl) ?_
   refine kya ?_
   refine kq @zV_ ?_
   first|with_reducible refine ks [] @zV_ ?_|refine kp @zV_ ?_
   refine⟨_,(ke @zV_),trivial, ?_⟩
   exact⟨_,_,rfl,by rw[h9,h6,h3,acp_,afa_ hT (by omega)];rfl⟩
structure WaG where
 l:List (Nat×Nat)
 v:Value
 h:Nat×Nat
 X:zb_
 Y:zb_
theorem zrCx:zI_ Tryz.prog 102=some (cxw 0 0):=id (by kernel_rfl)
theorem adW_ (k:Nat×Nat):xh_ Tryz.prog 216 1 [(0,cxw k.1 k.2)]=some (102,(cxC k).toArray):=id (by kernel_rfl)
def wA (T:List CD) (s:List UInt8):Nat→CD
 |0=>winD T (s.take 16) 16
 |i+1=>acp_ T (wA T s i) (s.getD i 0) (s.getD (i+16) 0)
def allD (T:List CD) (s:List UInt8):List CD:=(List.range (s.length - 15)).map (wA T s)
def WaS (T:List CD) (s:List UInt8) (r:Value) (D:zb_):Prop:= ∃l:List (Nat×Nat),l.map dtc=allD T s∧GrI D 102 1 r l.length (l.map cxC).flatten
set_option linter.defProp false
def zc_:=And.intro (And.intro (@zA_) (@zz_)) (And.intro (@Sx.tup2_0) (@Sx.tup2_1))
theorem al2_ (T:List CD) (s:List UInt8) (w:World) (hG:GlobT T w) (hs:s.length≤100000):Rets Tryz.prog 139 #[vs s] w (XS w [] (WaS T s)):=by
 refine Rets.enterX Tryz.func139 rfl (rs:= [.tmp 2]) Tryz.results139 Tryz.ntmps139 (fun p hp=>by cases hp) (by simp[keys]) ?_
 refine kf ?_
 by_cases h16:s.length<16
 ·have d0:decide ((s.length:Int)<16)=true:=decide_eq_true (by omega)
  first|with_reducible refine ks [] (And.intro @zc_ @d0) ?_|refine kp (And.intro @zc_ @d0) ?_
  refine⟨_,(ke @zc_), ?_⟩
  exact⟨Ext.of_new trivial,[],by rw[allD,show s.length - 15=0 by omega];rfl,Gr.i (X:= []) Gr.nl (fun p hp=>by cases hp)⟩
 have d0:decide ((s.length:Int)<16)=false:=decide_eq_false (by omega)
 have lt: (s.take 16).length=16:=by rw[List.length_take];omega
 first|with_reducible refine ks [] (And.intro @zc_ @d0) ?_|refine kp (And.intro @zc_ @d0) ?_
 refine Ow.callC rfl rfl Tryz.call147 (fun w' hw'=>Rets.toX (aeX_ T (s.take 16) w' (hG.new hw' trivial) lt)) (fun B4 v4 D4 hA4 hB4 hN4 hS4=> ?_)
 obtain⟨rfl,r4,i4,rfl,h4⟩:=hS4
 rw[List.append_nil]
 refine ko @zc_ ?_
 first|with_reducible refine ks [] @zc_ ?_|refine kp @zc_ ?_
 refine Ow.buildSlice (e:=102) (cxC (r4,i4)).toArray rfl rfl (adW_ (r4,i4)) fun b4 hb4 hw4=> ?_
 refine ko @zc_ ?_
 first|with_reducible refine ks [] @zc_ ?_|refine kp @zc_ ?_
 refine Cw.loopG (G:=WaG) [18,19,20,21,24,25,26,27,28,29,30,31,32,3,33,34,35,36,5,22,23,6] (fun g=> [(6,vi ((g.l.length+15:Nat):Int)),(5,g.v),(3,cxw g.h.1 g.h.2)]) (fun g=>g.X++g.Y) (fun g=>0<g.l.length∧g.l.length≤s.length - 15∧New w.heap.size g.X∧New w.heap.size g.Y∧g.l.map dtc=(List.range g.l.length).map (wA T s)∧dtc g.h=wA T s (g.l.length - 1)∧Gr g.X 102 1 g.v g.l.length (g.l.map cxC).flatten) (fun g=>s.length - g.l.length) ⟨[(r4,i4)],_,(r4,i4),[(b4, .cells (cxC (r4,i4)).toArray 102 (0,0))],[]⟩ rfl rfl ?_ ?_
 ·exact⟨Nat.zero_lt_one,by show 1≤_;omega,⟨hw4,trivial⟩,trivial,by show [dtc (r4,i4)]= [wA T s 0];rw[h4];rfl,h4, .inl (Buf.at_ (rest:= []) (by simp[Sx.look]) rfl rfl (Nat.le_refl 1) Nat.one_pos)⟩
 intro g j hg
 refine kv ?_
 obtain⟨l,v,h,X,Y⟩:=g
 simp only at hg ⊢
 obtain⟨hl0,hl1,hNX,hNY,hm,hh,hGr⟩:=hg
 generalize hn:l.length=n at*
 by_cases hlt:n+15<s.length
 ·have hd:decide (((n+15:Nat):Int)< (s.length:Int))=true:=decide_eq_true (by omega)
  have e16: ((n+15:Nat):Int) - 16=((n - 1:Nat):Int):=by omega
  first|with_reducible refine ks [] (And.intro @zc_ @hd) ?_|refine kp (And.intro @zc_ @hd) ?_
  refine Cw.regionG [] [] 10 (by kernel_rfl) rfl ?_
  refine kyc ?_
  refine OwG.run [0,1,2,3,4,5,6,7] [true,true,true,true,true,true,true,true,false,false] 2 rfl (by kernel_rfl) (by kernel_rfl) fun k hk=> ?_
  refine kya ?_
  refine kp (And.intro @zc_ (And.intro @Md.next_sofnil (@e16))) ?_
  (with_reducible refine hk _ _ _ ?_);clear hk k
  refine OwG.one 8 _ (by kernel_rfl) rfl ?_
  refine Ow.callC rfl rfl Tryz.call148 (fun w' hw'=>Rets.toX (ail_ T h (s.getD (n - 1) 0) (s.getD (n+15) 0) w' (hG.new hw' (hNX.app hNY)))) (fun B5 v5 D5 hA5 hB5 hN5 hS5=> ?_)
  obtain⟨rfl,r5,i5,rfl,h5⟩:=hS5
  rw[List.append_nil]
  with_reducible refine Ow.nil ?_
  refine⟨(fun r hr=>by cases hr), ?_⟩
  refine kyb ?_
  refine OwG.rest [9] rfl (by kernel_rfl) (by kernel_rfl) ?_
  refine kya ?_
  refine kq @zc_ ?_
  first|with_reducible refine ks [] @zc_ ?_|refine kp @zc_ ?_
  refine Ow.buildSlice (e:=102) (cxC (r5,i5)).toArray rfl rfl (adW_ (r5,i5)) fun b9 hb9 hw9=> ?_
  refine ko @zc_ ?_
  refine Ow.appendXG (e:=102) (k:=1) (new:=cxC (r5,i5)) (X:=X) v (List.append_assoc _ _ _) rfl rfl rfl Tryz.underlying216 Tryz.ag102 (by kernel_rfl) zrCx rfl Tryz.underlying216 (by intro k h;cases h) hGr (fun w' hw'=>AppX.one1 (hw'.has b9 (.cells (cxC (r5,i5)).toArray 102 (0,0)) (by simp)) (aiL_ _) rfl) (by omega) (fun B3 v3 D3 hA3 hB3 hG3 hk13 hk23 hlk3=> ?_)
  have hN3:New w.heap.size D3:=New.of_le fun c hc=>by
   rcases hk23 c hc with h|h
   ·exact hNX.le c h
   ·omega
  refine ko @zc_ ?_
  first|with_reducible refine ks [] @zc_ ?_|refine kp @zc_ ?_
  have hwa:dtc (r5,i5)=wA T s n:=by
   rw[h5,hh]
   obtain⟨m,rfl⟩: ∃m,n=m+1:=⟨n - 1,by omega⟩
   rfl
  refine Again.mk ⟨l++ [(r5,i5)],v3,(r5,i5),D3,Y++ [(b9, .cells (cxC (r5,i5)).toArray 102 (0,0))]⟩ ?_ ⟨?_, ?_,hN3,hNY.app ⟨hw9,trivial⟩, ?_, ?_, ?_⟩ (by simp[List.append_assoc]) (by simp[hn];rfl)
  ·show s.length - (l++ [(r5,i5)]).length<s.length - l.length
   rw[List.length_append,hn,List.length_singleton];omega
  ·show 0< (l++ [(r5,i5)]).length
   rw[List.length_append,hn,List.length_singleton];omega
  ·show(l++ [(r5,i5)]).length≤s.length - 15
   rw[List.length_append,hn,List.length_singleton];omega
  ·show(l++ [(r5,i5)]).map dtc=(List.range (l++ [(r5,i5)]).length).map (wA T s)
   rw[List.length_append,hn,List.length_singleton,List.map_append,hm,List.range_succ,List.map_append]
   show _++ [dtc (r5,i5)]=_++ [wA T s n]
   rw[hwa]
  ·show dtc (r5,i5)=wA T s ((l++ [(r5,i5)]).length - 1)
   rw[List.length_append,hn,List.length_singleton,hwa];rfl
  ·show Gr D3 102 1 v3 (l++ [(r5,i5)]).length ((l++ [(r5,i5)]).map cxC).flatten
   rw[List.length_append,hn,List.length_singleton,List.map_append,List.flatten_append]
   simpa using hG3
 ·obtain rfl:n=s.length - 15:=by omega
  have hd:decide (((s.length - 15+15:Nat):Int)< (s.length:Int))=false:=decide_eq_false (by omega)
  first|with_reducible refine ks [] (And.intro @zc_ @hd) ?_|refine kp (And.intro @zc_ @hd) ?_
  refine⟨_,(ke @zc_), ?_⟩
  exact⟨Ext.of_new (hNX.app hNY),l,by rw[hm];rfl,by rw[hn];exact hGr.i fun p hp=>by simp[hp]⟩
end Go.Proofs
end
section
open Go Go.Proofs Go.Sx Go.StP Go.Flo
namespace Go.Proofs
set_option maxRecDepth 10000
set_option maxHeartbeats 400000
set_option linter.unusedSimpArgs false
def qC_:List UInt8→List UInt8→Nat
 |x::a,y::b=>if x=y then qC_ a b+1 else 0
 |_,_=>0
theorem JV_: ∀ (a b:List UInt8),qC_ a b≤a.length∧qC_ a b≤b.length
 | [],b=>by simp[qC_]
 |_::_,[]=>by simp[qC_]
 |x::a,y::b=>by
  have:=JV_ a b
  unfold qC_
  split<;>simp<;>omega
theorem Qt_: ∀ (a b:List UInt8),a.take (qC_ a b)=b.take (qC_ a b)
 | [],b=>by simp[qC_]
 |_::_,[]=>by simp[qC_]
 |x::a,y::b=>by
  unfold qC_
  split
  ·rename_i h
   rw[List.take_succ_cons,List.take_succ_cons,h,Qt_ a b]
  ·rfl
theorem acQ_ {a b:List UInt8} {n:Nat} (ha:n<a.length) (hb:n<b.length):qC_ (a.drop n) (b.drop n)=if a.getD n 0=b.getD n 0 then qC_ (a.drop (n+1)) (b.drop (n+1))+1 else 0:=by
 rw[List.drop_eq_getElem_cons ha,List.drop_eq_getElem_cons hb]
 simp only[qC_,List.getD_eq_getElem?_getD,List.getElem?_eq_getElem ha,List.getElem?_eq_getElem hb,Option.getD_some]
theorem Ke_ {a b:List UInt8} {n:Nat} (h: ¬ (n<a.length∧n<b.length)):qC_ (a.drop n) (b.drop n)=0:=by
 by_cases ha:n<a.length
 ·have e:b.drop n= []:=List.drop_eq_nil_of_le (by omega)
  rw[e]
  cases a.drop n<;>rfl
 ·have e:a.drop n= []:=List.drop_eq_nil_of_le (by omega)
  rw[e];simp[qC_]
theorem eq8 (x y:UInt8):zj_ .eql (v8 x) (v8 y)=some (.bool (decide (x=y))):=by
 show some (Value.bool ((x.toNat:Int)==(y.toNat:Int)))=_
 congr 2
 by_cases h:x=y
 ·simp[h]
 ·rw[decide_eq_false h,beq_eq_false_iff_ne]
  intro e
  exact h (UInt8.toNat_inj.1 (by omega))
structure AkG where
 n:Nat
set_option linter.defProp false
def qy_:=And.intro (@zA_) (@zz_)
theorem agI_ (a b:List UInt8) (w:World) (ha:a.length<1000000) (_hb:b.length<1000000):Rets Tryz.prog 141 #[vs a,vs b] w (fun v D=>v=vi (qC_ a b)∧D= []):=by
 refine Rets.enterV Tryz.func141 rfl (rs:= [.tmp 4]) Tryz.results141 Tryz.ntmps141 ?_
 refine kf ?_
 first|with_reducible refine ks [] @qy_ ?_|refine kp @qy_ ?_
 refine Cw.loopG (G:=AkG) [6,7,8,9,10,11,12,13,14,15,16,17,18,19,20,21,22,23,24,25,26,5] (fun g=> [(5,vi g.n)]) (fun g=> []) (fun g=>g.n≤a.length∧g.n≤b.length∧qC_ a b=g.n+qC_ (a.drop g.n) (b.drop g.n)) (fun g=>a.length - g.n) ⟨0⟩ rfl rfl ?_ ?_
 ·exact⟨Nat.zero_le _,Nat.zero_le _,by simp⟩
 intro g j hg
 refine kv ?_
 obtain⟨n⟩:=g
 simp only at hg ⊢
 obtain⟨h1,h2,h3⟩:=hg
 by_cases hla:n<a.length
 ·have d1:decide ((n:Int)< (a.length:Int))=true:=decide_eq_true (by omega)
  by_cases hlb:n<b.length
  ·have d2:decide ((n:Int)< (b.length:Int))=true:=decide_eq_true (by omega)
   have e:=eq8 (a.getD n 0) (b.getD n 0)
   rw[acQ_ hla hlb] at h3
   by_cases hx:a.getD n 0=b.getD n 0
   ·rw[decide_eq_true hx] at e
    rw[if_pos hx] at h3
    first|with_reducible refine ks [] @qy_ ?_|refine kp @qy_ ?_
    refine Cw.regionG [] [] 19 (by kernel_rfl) rfl ?_
    refine kyc ?_
    refine OwG.run [0,1,2,3,4,5,6,7,8,9,10,11,12,13,14,15,16,17] [true,true,true,true,true,true,true,true,true,true,true,true,true,true,true,true,true,true,false] 1 rfl (by kernel_rfl) (by kernel_rfl) fun k hk=> ?_
    refine kya ?_
    refine kp (And.intro @qy_ (And.intro @Md.next_sofnil (And.intro @d1 (And.intro @d2 (@e))))) ?_
    (with_reducible refine hk _ _ _ ?_);clear hk k
    refine OwG.rest [18] rfl (by kernel_rfl) (by kernel_rfl) ?_
    refine kya ?_
    refine kq @qy_ ?_
    try with_reducible refine Ow.nil ?_
    first|with_reducible refine ks [] @qy_ ?_|refine kp @qy_ ?_
    exact Again.mk ⟨n+1⟩ (by show a.length - (n+1)<a.length - n;omega) ⟨hla,hlb,by show qC_ a b=n+1+qC_ (a.drop (n+1)) (b.drop (n+1));omega⟩ rfl rfl
   ·rw[decide_eq_false hx] at e
    rw[if_neg hx] at h3
    first|with_reducible refine ks [] @qy_ ?_|refine kp @qy_ ?_
    refine Cw.regionG [] [] 19 (by kernel_rfl) rfl ?_
    refine kyc ?_
    refine OwG.run [0,1,2,3,4,5,6,7,8,9,10,11,12,13,14,15,16,17] [true,true,true,true,true,true,true,true,true,true,true,true,true,true,true,true,true,true,false] 1 rfl (by kernel_rfl) (by kernel_rfl) fun k hk=> ?_
    refine kya ?_
    refine kp (And.intro @qy_ (And.intro @Md.next_sofnil (And.intro @d1 (And.intro @d2 (@e))))) ?_
    (with_reducible refine hk _ _ _ ?_);clear hk k
    refine OwG.rest [18] rfl (by kernel_rfl) (by kernel_rfl) ?_
    refine kya ?_
    refine kq @qy_ ?_
    try with_reducible refine Ow.nil ?_
    first|with_reducible refine ks [] @qy_ ?_|refine kp @qy_ ?_
    refine⟨_,(ke @qy_),trivial, ?_⟩
    rw[h3];rfl
  ·have d2:decide ((n:Int)< (b.length:Int))=false:=decide_eq_false (by omega)
   rw[Ke_ (by omega)] at h3
   first|with_reducible refine ks [] @qy_ ?_|refine kp @qy_ ?_
   refine Cw.regionG [] [] 19 (by kernel_rfl) rfl ?_
   refine kyc ?_
   refine OwG.run [0,1,2,3,4,5,6,7,8,9,10,11,12,13,14,15,16,17] [true,true,true,true,true,true,true,true,true,true,true,true,true,true,true,true,true,true,false] 1 rfl (by kernel_rfl) (by kernel_rfl) fun k hk=> ?_
   refine kya ?_
   refine kp (And.intro @qy_ (And.intro @Md.next_sofnil (And.intro @d1 (@d2)))) ?_
   (with_reducible refine hk _ _ _ ?_);clear hk k
   refine OwG.rest [18] rfl (by kernel_rfl) (by kernel_rfl) ?_
   refine kya ?_
   refine kq @qy_ ?_
   try with_reducible refine Ow.nil ?_
   first|with_reducible refine ks [] @qy_ ?_|refine kp @qy_ ?_
   refine⟨_,(ke @qy_),trivial, ?_⟩
   rw[h3];rfl
 ·have d1:decide ((n:Int)< (a.length:Int))=false:=decide_eq_false (by omega)
  rw[Ke_ (by omega)] at h3
  first|with_reducible refine ks [] @qy_ ?_|refine kp @qy_ ?_
  refine Cw.regionG [] [] 19 (by kernel_rfl) rfl ?_
  refine kyc ?_
  refine OwG.run [0,1,2,3,4,5,6,7,8,9,10,11,12,13,14,15,16,17] [true,true,true,true,true,true,true,true,true,true,true,true,true,true,true,true,true,true,false] 1 rfl (by kernel_rfl) (by kernel_rfl) fun k hk=> ?_
  refine kya ?_
  refine kp (And.intro @qy_ (And.intro @Md.next_sofnil (@d1))) ?_
  (with_reducible refine hk _ _ _ ?_);clear hk k
  refine OwG.rest [18] rfl (by kernel_rfl) (by kernel_rfl) ?_
  refine kya ?_
  refine kq @qy_ ?_
  try with_reducible refine Ow.nil ?_
  first|with_reducible refine ks [] @qy_ ?_|refine kp @qy_ ?_
  refine⟨_,(ke @qy_),trivial, ?_⟩
  rw[h3];rfl
end Go.Proofs
end
section
open Go Go.Proofs Go.Sx Go.StP Go.Flo
namespace Go.Proofs
set_option maxRecDepth 10000
set_option maxHeartbeats 400000
set_option linter.unusedSimpArgs false
abbrev PlM:=List (CD×List Nat)
def ql_ (T:List CD) (s:List UInt8):Nat→PlM
 |0=> []
 |i+1=>if(getM [] (wA T s i) (ql_ T s i)).length<8 then updM (wA T s i) (getM [] (wA T s i) (ql_ T s i)++ [i]) (ql_ T s i) else ql_ T s i
def SlotP (X:zb_) (v:Value) (l:List Nat):Prop:=Buf X 3 1 v l.length (l.map jt_).flatten
structure PoolP (X:zb_) (vals:List Value) (m:PlM):Prop where
 len:vals.length=m.length
 slot: ∀ (j:Nat) (v:Value) (a:CD×List Nat),vals[j]? =some v→m[j]? =some a→SlotP X v a.2
 apart: ∀ (i j:Nat) (v u:Value),vals[i]? =some v→vals[j]? =some u→i≠j→ ∀b,slB v=some b→slB u≠some b
theorem PoolP.get {X:zb_} {vals:List Value} {m:PlM} (h:PoolP X vals m) {kz:List (Nat×Nat)} (hk:KsOk kz m) (k:Nat×Nat):SlotP X (getC k kz vals (.slice none 0 0)) (getM [] (dtc k) m):=by
 unfold getC getM
 rw[hk.fnd k 0]
 cases hf:fndM (dtc k) m 0 with
 |none=>exact Buf.nl
 |some j=>
  have hj:j<m.length:=by
   have h1:X6_ k kz 0=some j:=by rw[hk.fnd k 0,hf]
   have:=(Zs_ h1).2
   rw[←hk.len];omega
  have hv:j<vals.length:=by rw[h.len];exact hj
  simp only[List.getElem?_eq_getElem hj,List.getD_eq_getElem?_getD,List.getElem?_eq_getElem hv,Option.getD_some]
  exact h.slot j _ _ (List.getElem?_eq_getElem hv) (List.getElem?_eq_getElem hj)
theorem SlotP.key {X:zb_} {v:Value} {l:List Nat} (h:SlotP X v l) {b:Nat} (hb:slB v=some b):b∈keys X:=by
 rcases Buf.inv h with⟨rfl,-,-⟩ | ⟨c,n,rest,rfl,hl,-⟩
 ·cases hb
 ·cases hb;exact zo_ hl
theorem ahS_ {k:Nat×Nat} {kz:List (Nat×Nat)} {vals:List Value} {z:Value} {j:Nat} (h:X6_ k kz 0=some j) (hv:j<vals.length):vals[j]? =some (getC k kz vals z):=by
 unfold getC
 rw[h]
 simp only[List.getD_eq_getElem?_getD,List.getElem?_eq_getElem hv,Option.getD_some]
theorem PoolP.upd {X X2:zb_} {vals:List Value} {m:PlM} {kz:List (Nat×Nat)} {k:Nat×Nat} {gv v:Value} {l:List Nat} (h:PoolP X vals m) (hk:KsOk kz m) (hg:gv=getC k kz vals (.slice none 0 0))
  (hX: ∀c o,slB gv≠some c→Sx.look X c=some o→Sx.look X2 c=some o) (hv:SlotP X2 v l) (hf: ∀b,slB v=some b→slB gv=some b∨b∉keys X):PoolP X2 (updC k kz vals v) (updM (dtc k) l m):=by
 have hfk:=hk.fnd k 0
 unfold updC updM
 cases hj:X6_ k kz 0 with
 |none=>
  rw[←hfk,hj]
  have hg0:gv= .slice none 0 0:=by rw[hg];unfold getC;rw[hj]
  have hgn:slB gv=none:=by rw[hg0];rfl
  have keep: ∀ (u:Value) (a:CD×List Nat),SlotP X u a.2→SlotP X2 u a.2:=fun u a hs=>Buf.keep hs fun b o _ hl=>hX b o (by rw[hgn];simp) hl
  refine⟨by simp[h.len], ?_, ?_⟩
  ·intro j u a hu ha
   rcases Nat.lt_or_ge j vals.length with h1|h1
   ·rw[List.getElem?_append_left h1] at hu
    rw[List.getElem?_append_left (by rw[←h.len];exact h1)] at ha
    exact keep u a (h.slot j u a hu ha)
   ·rw[List.getElem?_append_right h1] at hu
    rw[List.getElem?_append_right (by rw[←h.len];exact h1),←h.len] at ha
    cases hd:j - vals.length with
    |zero=>rw[hd] at hu ha;cases hu;cases ha;exact hv
    |succ n=>rw[hd] at hu;cases hu
  ·intro i j u1 u2 hu1 hu2 hij b hb1 hb2
   have key: ∀ (i:Nat) (u:Value),(vals++ [v])[i]? =some u→(i<vals.length∧vals[i]? =some u∧(∀b,slB u=some b→b∈keys X))∨(i=vals.length∧u=v):=by
    intro i u hu
    rcases Nat.lt_or_ge i vals.length with h1|h1
    ·rw[List.getElem?_append_left h1] at hu
     have h2:i<m.length:=by rw[←h.len];exact h1
     exact .inl ⟨h1,hu,fun b hb=>(h.slot i u _ hu (List.getElem?_eq_getElem h2)).key hb⟩
    ·rw[List.getElem?_append_right h1] at hu
     cases hd:i - vals.length with
     |zero=>rw[hd] at hu;cases hu;exact .inr ⟨by omega,rfl⟩
     |succ n=>rw[hd] at hu;cases hu
   rcases key i u1 hu1 with⟨a1,a2,a3⟩ | ⟨a1,rfl⟩<;>rcases key j u2 hu2 with⟨c1,c2,c3⟩ | ⟨c1,rfl⟩
   ·exact h.apart i j u1 u2 a2 c2 hij b hb1 hb2
   ·rcases hf b hb2 with h5|h5
    ·rw[hgn] at h5;cases h5
    ·exact h5 (a3 b hb1)
   ·rcases hf b hb1 with h5|h5
    ·rw[hgn] at h5;cases h5
    ·exact h5 (c3 b hb2)
   ·omega
 |some q=>
  rw[←hfk,hj]
  have hq:q<m.length:=by have:=(Zs_ hj).2;rw[←hk.len];omega
  have hqv:q<vals.length:=by rw[h.len];exact hq
  have hgq:vals[q]? =some gv:=by rw[hg];exact ahS_ hj hqv
  simp only[List.getElem?_eq_getElem hq]
  have key: ∀ (i:Nat) (u:Value),(vals.set q v)[i]? =some u→(i≠q∧vals[i]? =some u)∨(i=q∧u=v):=by
   intro i u hu
   rw[List.getElem?_set] at hu
   by_cases hi:q=i
   ·subst hi
    simp[hqv] at hu
    exact .inr ⟨rfl,hu.symm⟩
   ·rw[if_neg hi] at hu;exact .inl ⟨fun e=>hi e.symm,hu⟩
  refine⟨by simp[h.len], ?_, ?_⟩
  ·intro j u a hu ha
   rcases key j u hu with⟨h1,h2⟩ | ⟨rfl,rfl⟩
   ·rw[List.getElem?_set,if_neg (fun e=>h1 e.symm)] at ha
    refine Buf.keep (h.slot j u a h2 ha) fun b o hb hl=>hX b o (fun hgb=> ?_) hl
    exact h.apart q j gv u hgq h2 (fun e=>h1 e.symm) b hgb hb
   ·rw[List.getElem?_set] at ha
    simp[hq] at ha
    rw[←ha];exact hv
  ·intro i j u1 u2 hu1 hu2 hij b hb1 hb2
   have kx: ∀ (i:Nat) (u:Value),vals[i]? =some u→slB u=some b→b∈keys X:=fun i u hu hb=>by
    have h2:i<m.length:=by rw[←h.len];exact(List.getElem?_eq_some_iff.1 hu).1
    exact(h.slot i u _ hu (List.getElem?_eq_getElem h2)).key hb
   rcases key i u1 hu1 with⟨a1,a2⟩ | ⟨a1,rfl⟩<;>rcases key j u2 hu2 with⟨c1,c2⟩ | ⟨c1,rfl⟩
   ·exact h.apart i j u1 u2 a2 c2 hij b hb1 hb2
   ·rcases hf b hb2 with h5|h5
    ·exact h.apart q i gv u1 hgq a2 (fun e=>a1 e.symm) b h5 hb1
    ·exact h5 (kx i u1 a2 hb1)
   ·rcases hf b hb1 with h5|h5
    ·exact h.apart q j gv u2 hgq c2 (fun e=>c1 e.symm) b h5 hb2
    ·exact h5 (kx j u2 c2 hb2)
   ·omega
theorem amr_ (s:List UInt8) (b:Nat):qR_ (x7_ Tryz.prog 215) (zI_ Tryz.prog 215) [(0,vs s),(1,vm b)]=some (.agg #[vs s,vm b]):=id (by kernel_rfl)
theorem ad3_ (s:List UInt8) (b:Nat) (E:TypeId) (n:Nat):zl_ (some (false,n)) (some (.cells #[vs s,vm b] E (0,0))) 0=some (vs s):=(rfl)
theorem adX_ (s:List UInt8) (b:Nat) (E:TypeId) (n:Nat):zl_ (some (false,n)) (some (.cells #[vs s,vm b] E (0,0))) 1=some (vm b):=(rfl)
theorem zrIs:zI_ Tryz.prog 31=some (.slice none 0 0):=id (by kernel_rfl)
theorem af1_ {X:zb_} {v:Value} {l:List Nat} (h:SlotP X v l): ∃X0 X',X.Perm (X0++X')∧SlotP X0 v l∧ ∀c,c∈keys X0→slB v=some c:=by
 rcases Buf.inv h with⟨rfl,h1,h2⟩ | ⟨b,c,rest,rfl,hl,h1,h2,h3,h4⟩
 ·exact⟨[],X,List.Perm.refl _,by unfold SlotP;rw[h1,h2];exact Buf.nl,fun c hc=>by cases hc⟩
 ·obtain⟨X',hp⟩:=aar_ hl
  refine⟨[(b, .cells ((l.map jt_).flatten++rest).toArray 3 (0,0))],X',hp,Buf.at_ (by simp[Sx.look]) h1 h4 h2 h3,fun c hc=> ?_⟩
  simp only[keys,List.map_cons,List.map_nil,List.mem_singleton] at hc
  rw[hc];rfl
theorem KG_ {b:Nat} {x:Obj}: ∀ {D M:zb_},b∉keys D→setB (D++M) b x=D++setB M b x
 | [],_,_=>rfl
 | (c,o)::D,M,h=>by
  have h1:c≠b:=fun e=>h (by simp[keys,e])
  have h2:b∉keys D:=fun e=>h (by simp only[keys,List.map_cons,List.mem_cons];exact .inr e)
  rw[List.cons_append,q2_ _ _ _ _ _ h1,KG_ h2];rfl
theorem apA_:zI_ Tryz.prog 3=some (vi 0):=id (by kernel_rfl)
structure MnG where
 i:Nat
 o:Obj
 kz:List (Nat×Nat)
 vals:List Value
 X:zb_
 Y:zb_
def IxD (bx:Nat) (base:List UInt8) (m:PlM) (D:zb_):Prop:= ∃bm o kz vals X,(bx,Obj.cells #[vs base,vm bm] 215 (0,0))∈D∧(bm,o)∈D∧MapC o kz vals∧KsOk kz m∧PoolP X vals m∧(∀p,p∈X→p∈D)
set_option linter.defProp false
def qN_:=And.intro (And.intro (@zA_) (@zz_)) (And.intro (@ad3_) (@adX_))
theorem ah6_ (T:List CD) (s:List UInt8) (w:World) (hG:GlobT T w) (hs:s.length≤4099):Rets Tryz.prog 121 #[vs s] w (XS w [] (fun r D=> ∃bx,r=vp bx 0∧IxD bx s (ql_ T s (s.length - 15)) D)):=by
 refine Rets.enterX Tryz.func121 rfl (rs:= [.tmp 2]) Tryz.results121 Tryz.ntmps121 (fun p hp=>by cases hp) (by simp[keys]) ?_
 refine kf ?_
 first|with_reducible refine ks [] @qN_ ?_|refine kp @qN_ ?_
 refine Ow.makeMapC rfl rfl fun bm om hbm hwm hm0=> ?_
 refine ko @qN_ ?_
 refine Ow.build (.agg #[vs s,vm bm]) rfl (amr_ s bm) ?_
 refine Ow.box rfl rfl fun bx hbx hwx=> ?_
 simp only[zD_,zH_,zG_,za_,List.nil_append,List.cons_append]
 refine Ow.go rfl ?_
 simp(disch:=(first|assumption|omega| (simp only[wr_,we_,UInt64.reduceToNat];try omega))) only[↓Sx.S0,Sx.S1,Tryz.fx,qN_,Nat.reduceAdd,Nat.reducePow,Int.reducePow,Nat.reduceBEq, ↓reduceIte,UInt8.reduceToNat,UInt16.reduceToNat,UInt32.reduceToNat,UInt64.reduceToNat,Int.reduceToNat]
 first|with_reducible refine ks [] @qN_ ?_|refine kp @qN_ ?_
 refine Ow.callC rfl rfl Tryz.call139 (fun w' hw'=>al2_ T s w' (hG.new hw' ⟨hwm,hwx,trivial⟩) (by omega)) (fun B4 vL DW hA4 hB4 hN4 hS4=> ?_)
 obtain⟨l,hlD,hGL⟩:=hS4
 refine Ow.world fun wz hwz=> ?_
 obtain⟨lb,off,arr,E,fz,hr,hlk⟩:=hGL.rowL (z:=(0,0)) rfl ((hwz.perm (M:=DW++ [(bm,om),(bx,Obj.cells #[vs s,vm bm] 215 (0,0))]) List.perm_append_comm).part) aiL_
 have hnl:l.length=s.length - 15:=by
  have:=congrArg List.length hlD
  simpa [allD] using this
 have ln:=fun x=>hr.len x
 have ix:=fun k hk=>hr.idx false k hk
 have ld: ∀k,k<l.length→zl_ (some (false,1)) (some (.cells arr E fz)) (off+k*1)=some (cxw (l.getD k (0,0)).1 (l.getD k (0,0)).2):=fun k hk=>by
  have:=hr.cell (j:=0) (n:=1) hk (by omega)
  rwa [Nat.add_zero] at this
 have hlD': ∀k,k<l.length→dtc (l.getD k (0,0))=wA T s k:=fun k hk=>by
  have:=congrArg (·[k]?) hlD
  simp only[List.getElem?_map,List.getElem?_eq_getElem hk,Option.map_some,allD,List.getElem?_range (show k<s.length - 15 by omega)] at this
  rw[List.getD_eq_getElem?_getD,List.getElem?_eq_getElem hk]
  exact Option.some.inj this
 have hNW:New w.heap.size DW:=hN4.mono hB4
 clear hr hwz wz hlD hGL hN4
 clear hA4 hB4
 refine ko (And.intro @qN_ @ln) ?_
 first|with_reducible refine ks [] (And.intro @qN_ @ln) ?_|refine kp (And.intro @qN_ @ln) ?_
 refine Cw.loopG (G:=MnG) [15,16,17,18,4,5,19,20,21,22,23,24,6,25,26,27,28,29,30,31,32,33,34,35,36,37,14] (fun g=> [(14,vi g.i)]) (fun g=>(bm,g.o):: (bx, .cells #[vs s,vm bm] 215 (0,0)):: (g.X++ (g.Y++DW))) (fun g=>g.i≤l.length∧MapC g.o g.kz g.vals∧KsOk g.kz (ql_ T s g.i)∧PoolP g.X g.vals (ql_ T s g.i)∧New w.heap.size g.X∧New w.heap.size g.Y) (fun g=>l.length - g.i) ⟨0,om,[],[],[],[]⟩ rfl rfl ?_ ?_
 ·exact⟨Nat.zero_le _,hm0, .nil,⟨rfl,(fun j v a h=>by cases h),(fun i j v u h=>by cases h)⟩,trivial,trivial⟩
 intro g j hg
 refine kv ?_
 obtain⟨i,o,kz,vals,X,Y⟩:=g
 simp only at hg ⊢
 obtain⟨hi,hm,hk,hP,hNX,hNY⟩:=hg
 refine Cw.world fun wz hwz=> ?_
 have hnd:=hwz.nodup
 clear hwz wz
 by_cases hlt:i<l.length
 ·have d1:decide ((i:Int)< (l.length:Int))=true:=decide_eq_true (by omega)
  have ix1:=ix i hlt
  have ld1:=ld i hlt
  rw[Nat.mul_one] at ld1 ix1
  have rd:zk_ w ((bm,o):: (bx, .cells #[vs s,vm bm] 215 (0,0)):: (X++ (Y++DW))) lb=some (.cells arr E fz):=zt_ (zF_ hnd (by simp[zw_ (hlk (by omega))]))
  have rx:zk_ w ((bm,o):: (bx, .cells #[vs s,vm bm] 215 (0,0)):: (X++ (Y++DW))) bx=some (.cells #[vs s,vm bm] 215 (0,0)):=zt_ (zF_ hnd (by simp))
  have rm:zk_ w ((bm,o):: (bx, .cells #[vs s,vm bm] 215 (0,0)):: (X++ (Y++DW))) bm=some o:=zt_ (zF_ hnd (by simp))
  first|with_reducible refine ks [8] (And.intro @qN_ (And.intro @d1 (And.intro @ix1 (And.intro @ld1 (And.intro @rd (@rx)))))) ?_|refine kp (And.intro @qN_ (And.intro @d1 (And.intro @ix1 (And.intro @ld1 (And.intro @rd (@rx)))))) ?_
  refine Ow.mapGetC (k:=l.getD i (0,0)) rfl rfl Tryz.underlying213 Tryz.underlying102 zrIs rfl rfl rm hm ?_
  have hg1:=hP.get hk (l.getD i (0,0))
  rw[hlD' i hlt] at hg1
  generalize hgv:getC (l.getD i (0,0)) kz vals (.slice none 0 0)=gv at*
  have ln2:=fun x=>hg1.len x
  refine ko (And.intro @qN_ @ln2) ?_
  generalize hg':getM [] (wA T s i) (ql_ T s i)=gl at*
  by_cases h8:gl.length<8
  ·have d8:decide ((gl.length:Int)<8)=true:=decide_eq_true (by omega)
   first|with_reducible refine ks [8] (And.intro @qN_ (And.intro @ln2 (@d8))) ?_|refine kp (And.intro @qN_ (And.intro @ln2 (@d8))) ?_
   obtain⟨X0,X',hpX,hB0,hk0⟩:=af1_ hg1
   refine Cw.permL (M:=X0++ ((bm,o):: (bx, .cells #[vs s,vm bm] 215 (0,0)):: (X'++ (Y++DW)))) (List.Perm.symm ((((hpX.append_right (Y++DW)).cons _).cons _).trans (by classical exact List.perm_iff_count.2 fun a=>by simp only[List.count_append,List.count_cons,List.count_nil]<;>omega))) ?_
   refine Cw.world fun wz hwz=> ?_
   have hnd0:=hwz.nodup
   clear hwz wz
   have rx0:zk_ w (X0++ ((bm,o):: (bx, .cells #[vs s,vm bm] 215 (0,0)):: (X'++ (Y++DW)))) bx=some (.cells #[vs s,vm bm] 215 (0,0)):=zt_ (zF_ hnd0 (by simp))
   refine Cw.regionG [bx] [] 10 (by kernel_rfl) rfl ?_
   refine kyc ?_
   refine OwG.run [0,1,2,3,4,5,6] [true,true,true,true,true,true,true,false,false,false] 3 rfl (by kernel_rfl) (by kernel_rfl) fun k hk=> ?_
   refine kya ?_
   refine kp (And.intro @qN_ (And.intro @Md.next_sofnil (@rx0))) ?_
   (with_reducible refine hk _ _ _ ?_);clear hk k
   refine OwG.one 7 _ (by kernel_rfl) rfl ?_
   refine Ow.buildSlice (e:=3) #[vi i] rfl rfl (by kernel_rfl) fun b9 hb9 hw9=> ?_
   with_reducible refine Ow.nil ?_
   refine⟨(qk_ (by simp[ze_,keys])), ?_⟩
   refine kyb ?_
   refine OwG.one 8 _ (by kernel_rfl) rfl ?_
   refine Ow.appendXG (e:=3) (k:=1) (new:=jt_ i) (X:=X0) gv (List.append_assoc _ _ _) rfl rfl rfl Tryz.underlying31 Tryz.ag3 (by kernel_rfl) apA_ rfl Tryz.underlying31 (by intro k h;cases h) (.inl hB0) (fun w' hw'=>AppX.one1 (hw'.has b9 (.cells #[vi i] 3 (0,0)) (by simp)) (jm_ _) rfl) (by omega) (fun B3 v3 D3 hA3 hB3 hG3 hk13 hk23 hlk3=> ?_)
   refine Ow.world fun wz hwz=> ?_
   have hnd3:=hwz.nodup
   clear hwz wz
   have hq1:zk_ w (X0++ ((bm,o):: (bx, .cells #[vs s,vm bm] 215 (0,0)):: (X'++ (Y++DW)))++ [(b9,Obj.cells #[vi i] 3 (0,0))]) bx=some (.cells #[vs s,vm bm] 215 (0,0)):=zt_ (qD_ (zF_ hnd0 (by simp)))
   have hq2:zk_ w (D3++ ((bm,o):: (bx, .cells #[vs s,vm bm] 215 (0,0)):: (X'++ (Y++DW))++ [(b9,Obj.cells #[vi i] 3 (0,0))])) bx=some (.cells #[vs s,vm bm] 215 (0,0)):=zt_ (zF_ hnd3 (by simp))
   have hl3:Sx.look (D3++ ((bm,o):: (bx, .cells #[vs s,vm bm] 215 (0,0)):: (X'++ (Y++DW))++ [(b9,Obj.cells #[vi i] 3 (0,0))])) bm=some o:=zF_ hnd3 (by simp)
   have hbD:bm∉keys D3:=fun hc=>by
    rw[ze_,List.nodup_append] at hnd3
    exact hnd3.2.2 bm hc bm (by simp[keys]) rfl
   with_reducible refine Ow.nil ?_
   refine⟨(fun r hr=>by rw[List.mem_singleton.1 hr,hq2,hq1]), ?_⟩
   refine kyb ?_
   refine OwG.one 9 _ (by kernel_rfl) rfl ?_
   refine Ow.mapUpdateC (k:=l.getD i (0,0)) (v:=v3) rfl rfl Tryz.underlying213 Tryz.underlying102 rfl rfl rfl hl3 hm fun o' kz' hm' hU=> ?_
   rw[KG_ hbD,List.cons_append,jc_]
   refine Ow.world fun wz hwz=> ?_
   have hnd4:=hwz.nodup
   clear hwz wz
   have hq4:zk_ w (D3++ ((bm,o'):: ((bx, .cells #[vs s,vm bm] 215 (0,0)):: (X'++ (Y++DW))++ [(b9,Obj.cells #[vi i] 3 (0,0))]))) bx=some (.cells #[vs s,vm bm] 215 (0,0)):=zt_ (zF_ hnd4 (by simp))
   with_reducible refine Ow.nil ?_
   refine⟨(fun r hr=>by rw[List.mem_singleton.1 hr,hq4];exact hq2.symm), ?_⟩
   refine kyb ?_
   refine OwG.rest [] rfl (by kernel_rfl) (by kernel_rfl) ?_
   refine kya ?_
   rw[show∀k:List Oper→Prop,nl [] k=k [] from fun _=>rfl]
   with_reducible refine Ow.nil ?_
   first|with_reducible refine ks [8] @qN_ ?_|refine kp @qN_ ?_
   have hgr3:SlotP D3 v3 (gl++ [i]):=by
    have e: ((gl++ [i]).map jt_).flatten=(gl.map jt_).flatten++jt_ i:=by simp
    unfold SlotP
    rw[List.length_append,List.length_singleton,e]
    rcases hG3 with h| ⟨h,-⟩
    ·exact h
    ·omega
   have hndX: (keys (X0++X')).Nodup:=by
    have:=hnd
    simp only[keys,List.map_cons,List.nodup_cons,List.map_append,List.nodup_append] at this
    have h2: (keys X).Nodup:=this.2.2.1
    exact((hpX.map Prod.fst).nodup_iff).1 h2
   have hpool:PoolP (D3++X') (updC (l.getD i (0,0)) kz vals v3) (updM (wA T s i) (gl++ [i]) (ql_ T s i)):=by
    rw[←hlD' i hlt]
    refine hP.upd hk hgv.symm (fun c o hc hl=> ?_) (Buf.app hgr3) (fun b hb=> ?_)
    ·have hm2: (c,o)∈X0++X':=hpX.mem_iff.1 (zw_ hl)
     have hc0:c∉keys X0:=fun h=>hc (hk0 c h)
     rcases List.mem_append.1 hm2 with h|h
     ·exact absurd (List.mem_map.2 ⟨(c,o),h,rfl⟩) hc0
     ·have hcD:c∉keys D3:=fun hd=>by
       rw[ze_,List.nodup_append] at hnd3
       exact hnd3.2.2 c hd c (by simp only[keys,List.map_cons,List.map_append,List.mem_cons,List.mem_append];exact .inl (.inr (.inr (.inl (List.mem_map.2 ⟨(c,o),h,rfl⟩))))) rfl
      rw[z9_ hcD]
      refine zF_ ?_ h
      rw[ze_,List.nodup_append] at hndX
      exact hndX.2.1
    ·have hbD3:=hgr3.key hb
     rcases hk23 b hbD3 with h|h
     ·exact .inl (hk0 b h)
     ·right
      intro hbX
      have h5:b∈keys (X0++X'):=(hpX.map Prod.fst).mem_iff.1 hbX
      have h6:b<B3:=zh_ hA3 (by
       rw[ze_] at h5
       simp only[ze_,keys,List.map_cons,List.map_append,List.mem_append,List.mem_cons]
       rcases List.mem_append.1 h5 with h7|h7
       ·exact .inl (.inl h7)
       ·exact .inl (.inr (.inr (.inr (.inl h7)))))
      omega
   have hN3:New w.heap.size (D3++X'):=by
    have hNX':New w.heap.size (X0++X'):=hNX.perm hpX
    refine New.of_le fun c hc=> ?_
    rw[ze_] at hc
    rcases List.mem_append.1 hc with h|h
    ·rcases hk23 c h with h|h
     ·exact hNX'.le c (by rw[ze_];exact List.mem_append_left _ h)
     ·omega
    ·exact hNX'.le c (by rw[ze_];exact List.mem_append_right _ h)
   have hp1:ql_ T s (i+1)=updM (wA T s i) (gl++ [i]) (ql_ T s i):=by rw[ql_,hg',if_pos h8]
   have hku:=hU.ok hk (gl++ [i])
   rw[hlD' i hlt] at hku
   refine Cw.permL (M:=(bm,o'):: (bx, .cells #[vs s,vm bm] 215 (0,0)):: ((D3++X')++ ((Y++ [(b9,Obj.cells #[vi i] 3 (0,0))])++DW))) (by classical exact List.perm_iff_count.2 fun a=>by simp only[List.count_append,List.count_cons,List.count_nil]<;>omega) ?_
   first|with_reducible refine ks [] @qN_ ?_|refine kp @qN_ ?_
   exact Again.mk ⟨i+1,o',kz',_,D3++X',Y++ [(b9,Obj.cells #[vi i] 3 (0,0))]⟩ (by show l.length - (i+1)<l.length - i;omega) ⟨hlt,hm',by rw[hp1];exact hku,by rw[hp1];exact hpool,hN3,hNY.app ⟨hw9,trivial⟩⟩ rfl rfl
  ·have d8:decide ((gl.length:Int)<8)=false:=decide_eq_false (by omega)
   first|with_reducible refine ks [8] (And.intro @qN_ (And.intro @ln2 (@d8))) ?_|refine kp (And.intro @qN_ (And.intro @ln2 (@d8))) ?_
   first|with_reducible refine ks [] @qN_ ?_|refine kp @qN_ ?_
   have hp1:ql_ T s (i+1)=ql_ T s i:=by rw[ql_,hg',if_neg h8]
   exact Again.mk ⟨i+1,o,kz,vals,X,Y⟩ (by show l.length - (i+1)<l.length - i;omega) ⟨hlt,hm,by rw[hp1];exact hk,by rw[hp1];exact hP,hNX,hNY⟩ rfl rfl
 ·obtain rfl:i=l.length:=by omega
  have d1:decide ((l.length:Int)< (l.length:Int))=false:=by simp
  first|with_reducible refine ks [] (And.intro @qN_ @d1) ?_|refine kp (And.intro @qN_ @d1) ?_
  refine⟨_,(ke @qN_), ?_⟩
  rw[hnl] at hk hP
  exact⟨Ext.of_new ⟨hwm,hwx,hNX.app (hNY.app hNW)⟩,bx,rfl,bm,o,kz,vals,X,by simp,by simp,hm,hk,hP,fun p hp=>by simp[hp]⟩
end Go.Proofs
end
section
open Go Go.Proofs Go.Sx Go.StP Go.Flo
namespace Go.Proofs
set_option maxRecDepth 10000
set_option maxHeartbeats 400000
set_option linter.unusedSimpArgs false
def IxW (w:World) (bx:Nat) (base:List UInt8) (m:PlM):Prop:= ∃bm o kz vals,w.heap[bx]? =some (.cells #[vs base,vm bm] 215 (0,0))∧w.heap[bm]? =some o∧MapC o kz vals∧KsOk kz m∧ ∀k:Nat×Nat,SlV 1 jt_ 0 w (getC k kz vals (.slice none 0 0)) (getM [] (dtc k) m)
theorem IxD.W {bx:Nat} {base:List UInt8} {m:PlM} {D:zb_} {w:World} (h:IxD bx base m D) (hD: ∀p,p∈D→w.heap[p.1]? =some p.2):IxW w bx base m:=by
 obtain⟨bm,o,kz,vals,X,h1,h2,h3,h4,h5,h6⟩:=h
 refine⟨bm,o,kz,vals,hD _ h1,hD _ h2,h3,h4,fun k=> ?_⟩
 have hs:Gr X 3 1 _ _ _:= .inl (h5.get h4 k)
 exact hs.slM (fun b o hm=>hD (b,o) (h6 _ hm)) rfl rfl jm_
theorem IxW.old {w w':World} {L:zb_} {bx:Nat} {base:List UInt8} {m:PlM} (h:IxW w bx base m) (hw:Hp w L w') (hN:New w.heap.size L):IxW w' bx base m:=by
 obtain⟨bm,o,kz,vals,h1,h2,h3,h4,h5⟩:=h
 refine⟨bm,o,kz,vals, ?_, ?_,h3,h4,fun k=>(h5 k).oldN hw hN⟩
 ·rw[hw.old _ (Array.getElem?_eq_some_iff.1 h1).1 (hN.not (Array.getElem?_eq_some_iff.1 h1).1)];exact h1
 ·rw[hw.old _ (Array.getElem?_eq_some_iff.1 h2).1 (hN.not (Array.getElem?_eq_some_iff.1 h2).1)];exact h2
theorem amd_ (n:Nat): (jt_ n).all Value.oneCell'=true:=rfl
theorem amD_ (b o n c:Nat):qL_ Tryz.prog .eql 31 (vsl b o n c) (.slice none 0 0)=some (.bool false):=by
 simp[qL_,eqX,qZ_,qF_,Tryz.underlying31,vsl]
theorem ad4_:qL_ Tryz.prog .eql 31 (.slice none 0 0) (.slice none 0 0)=some (.bool true):=by
 simp[qL_,eqX,qZ_,qF_,Tryz.underlying31]
set_option linter.defProp false
def v5_:=And.intro (@zA_) (@zz_)
theorem adc_ (v:Value) (ls:List Nat) (w:World) (hv:SlV 1 jt_ 0 w v ls) (hl:ls.length<1000000):
  Rets Tryz.prog 149 #[v] w (XS w [] (fun v D=>Gr D 3 1 v ls.length (ls.map jt_).flatten)):=by
 obtain⟨b,off,c,arr,E,fz,hr,hc,⟨rfl,rfl,rfl⟩ | ⟨rfl,hb,hsz⟩⟩:=hv
 ·refine Rets.enterX Tryz.func149 rfl (rs:= [.tmp 2]) Tryz.results149 Tryz.ntmps149 (fun p hp=>by cases hp) (by simp[keys]) ?_
  refine kf ?_
  first|with_reducible refine ks [] (And.intro @v5_ (And.intro @amD_ (@ad4_))) ?_|refine kp (And.intro @v5_ (And.intro @amD_ (@ad4_))) ?_
  refine⟨_,(ke @v5_), ?_⟩
  exact⟨Ext.refl _ _,Gr.nl⟩
 ·have hbl:=(Array.getElem?_eq_some_iff.1 hb).1
  have hv:SlV 1 jt_ 0 w (vsl b off ls.length c) ls:=⟨b,off,c,arr,E,fz,hr,hc, .inr ⟨rfl,hb,hsz⟩⟩
  refine Rets.enterX Tryz.func149 rfl (rs:= [.tmp 2]) Tryz.results149 Tryz.ntmps149 (fun p hp=>by cases hp) (by simp[keys]) ?_
  refine kf ?_
  first|with_reducible refine ks [] (And.intro @v5_ (And.intro @amD_ (@ad4_))) ?_|refine kp (And.intro @v5_ (And.intro @amD_ (@ad4_))) ?_
  refine Ow.buildSlice (e:=3) #[] rfl rfl (by kernel_rfl) fun b1 hb1 hw1=> ?_
  refine ko @v5_ ?_
  refine Ow.appendG (e:=3) (k:=ls.length) (new:=(ls.map jt_).flatten) (vsl b1 0 0 0) rfl rfl rfl Tryz.underlying31 Tryz.ag3 (by kernel_rfl) apA_ rfl Tryz.underlying31 (by intro k h;cases h) (.inr ⟨rfl,rfl,b1,rfl,adV_ hb1⟩) (fun w' hw'=>(hv.oldN hw' ⟨hw1,trivial⟩).appX jm_ amd_) (kv_ jm_ ls) (by omega) (fun v2 L2 hB hB2 hG hS=> ?_)
  rw[Nat.zero_add,List.nil_append] at hB
  refine ko @v5_ ?_
  first|with_reducible refine ks [] @v5_ ?_|refine kp @v5_ ?_
  refine⟨_,(ke @v5_), ?_⟩
  exact⟨((Ext.refl w []).app (o:=Obj.cells #[] 3 (0,0)) hw1).grew hG,hB⟩
theorem arn_ (b off:Nat):qL_ Tryz.prog .eql 197 (vp b off) (.pointer none)=some (.bool false):=by
 simp[qL_,eqX,qZ_,qF_,Tryz.underlying197,vp]
def plcV (T:List CD) (m:PlM) (s:List UInt8) (at_:Nat):List Nat:=if at_+16≤s.length then getM [] (winD T ((s.take (at_+16)).drop at_) 16) m else []
def acS_ (m:PlM):Prop:= ∀k,(getM [] k m).length≤8
set_option linter.defProp false
def qq_:=And.intro (And.intro (@zA_) (And.intro (@zz_) (@ad3_))) (And.intro (And.intro (@adX_) (@arn_)) (And.intro (@Sx.tup2_0) (@Sx.tup2_1)))
theorem acx_ (T:List CD) (bx:Nat) (base:List UInt8) (m:PlM) (s:List UInt8) (at_:Nat) (w:World) (hG:GlobT T w) (hI:IxW w bx base m) (hm:acS_ m) (ha:at_<s.length) (hs:s.length<1000000):
  Rets Tryz.prog 140 #[vp bx 0,vs s,vi at_] w (XS w [] (fun r D=>Gr D 3 1 r (plcV T m s at_).length ((plcV T m s at_).map jt_).flatten)):=by
 have hI0:=hI
 obtain⟨bm,o,kz,vals,hbx,hbm,hmc,hk,hsl⟩:=hI
 refine Rets.enterX Tryz.func140 rfl (rs:= [.tmp 6]) Tryz.results140 Tryz.ntmps140 (fun p hp=>by cases hp) (by simp[keys]) ?_
 refine kf ?_
 have d0:decide ((at_:Int)<0)=false:=decide_eq_false (by omega)
 by_cases h16:at_+16≤s.length
 ·have d1:decide ((s.length:Int) - 16< (at_:Int))=false:=decide_eq_false (by omega)
  have hpv:plcV T m s at_=getM [] (winD T ((s.take (at_+16)).drop at_) 16) m:=by rw[plcV,if_pos h16]
  have hlen: ((s.take (at_+16)).drop at_).length=16:=by rw[List.length_drop,List.length_take];omega
  first|with_reducible refine ks [] (And.intro @qq_ (And.intro @d0 (@d1))) ?_|refine kp (And.intro @qq_ (And.intro @d0 (@d1))) ?_
  refine Ow.callC rfl rfl Tryz.call147 (fun w' hw'=>Rets.toX (aeX_ T ((s.take (at_+16)).drop at_) w' (hG.new hw' trivial) hlen)) (fun B4 v4 D4 hA4 hB4 hN4 hS4=> ?_)
  obtain⟨rfl,r4,i4,rfl,h4⟩:=hS4
  rw[List.append_nil]
  have rm:zk_ w [] bm=some o:=by rw[zY_];exact hbm
  refine ko @qq_ ?_
  first|with_reducible refine ks [] (And.intro @qq_ @hbx) ?_|refine kp (And.intro @qq_ @hbx) ?_
  refine Ow.mapGetC (k:=(r4,i4)) rfl rfl Tryz.underlying213 Tryz.underlying102 zrIs rfl rfl rm hmc ?_
  have hsl4:=hsl (r4,i4)
  rw[h4] at hsl4
  generalize getC (r4,i4) kz vals (.slice none 0 0)=gv at*
  rw[hpv]
  have h8:=hm (winD T ((s.take (at_+16)).drop at_) 16)
  generalize getM [] (winD T ((s.take (at_+16)).drop at_) 16) m=gl at*
  refine Ow.callC rfl rfl Tryz.call149 (fun w' hw'=>adc_ gv gl w' (hsl4.oldN hw' trivial) (by omega)) (fun B5 v5 D5 hA5 hB5 hN5 hS5=> ?_)
  refine ko @qq_ ?_
  first|with_reducible refine ks [] @qq_ ?_|refine kp @qq_ ?_
  refine⟨_,(ke @qq_), ?_⟩
  exact⟨Ext.of_new (hN5.mono hB5),hS5⟩
 ·have d1:decide ((s.length:Int) - 16< (at_:Int))=true:=decide_eq_true (by omega)
  have hpv:plcV T m s at_= []:=by rw[plcV,if_neg h16]
  first|with_reducible refine ks [] (And.intro @qq_ (And.intro @d0 (@d1))) ?_|refine kp (And.intro @qq_ (And.intro @d0 (@d1))) ?_
  refine⟨_,(ke @qq_), ?_⟩
  rw[hpv]
  exact⟨Ext.refl _ _,Gr.nl⟩
def wo_ (base s:List UInt8) (at_:Nat):List Nat→Nat×Nat→Nat×Nat
 | [],q=>q
 |p::r,q=>wo_ base s at_ r (if 16≤qC_ (base.drop p) (s.drop at_)∧q.2<qC_ (base.drop p) (s.drop at_) then(p,qC_ (base.drop p) (s.drop at_)) else q)
theorem KD_ (base s:List UInt8) (at_ p:Nat) (r:List Nat) (q:Nat×Nat):wo_ base s at_ (p::r) q=wo_ base s at_ r (if 16≤qC_ (base.drop p) (s.drop at_)∧q.2<qC_ (base.drop p) (s.drop at_) then(p,qC_ (base.drop p) (s.drop at_)) else q):=rfl
def KS_ (T:List CD) (m:PlM) (base s:List UInt8) (at_:Nat):Nat×Nat:=wo_ base s at_ (plcV T m s at_) (0,0)
def PlOk (m:PlM) (n:Nat):Prop:= ∀k p,p∈getM [] k m→p+16≤n
theorem aiw_ {T:List CD} {m:PlM} {n:Nat} (h:PlOk m n) (s:List UInt8) (at_:Nat): ∀p,p∈plcV T m s at_→p+16≤n:=by
 intro p hp
 unfold plcV at hp
 split at hp
 ·exact h _ p hp
 ·cases hp
structure FnG where
 i:Nat
 q:Nat×Nat
set_option linter.defProp false
theorem aiF_ (T:List CD) (bx:Nat) (base:List UInt8) (m:PlM) (s:List UInt8) (at_:Nat) (w:World) (hG:GlobT T w) (hI:IxW w bx base m) (hm:acS_ m) (hok:PlOk m base.length) (ha:at_<s.length) (hs:s.length<1000000) (hb:base.length<1000000):
  Rets Tryz.prog 122 #[vp bx 0,vs s,vi at_] w (XS w [] (fun r _D=>r= .tuple #[vi (KS_ T m base s at_).1,vi (KS_ T m base s at_).2])):=by
 have hI0:=hI
 obtain⟨bm,o,kz,vals,hbx,hbm,hmc,hk,hsl⟩:=hI
 have hbxl:=(Array.getElem?_eq_some_iff.1 hbx).1
 refine Rets.enterX Tryz.func122 rfl (rs:= [.tmp 6, .tmp 7]) Tryz.results122 Tryz.ntmps122 (fun p hp=>by cases hp) (by simp[keys]) ?_
 refine kf ?_
 first|with_reducible refine ks [] @qq_ ?_|refine kp @qq_ ?_
 refine Ow.callC rfl rfl Tryz.call140 (fun w' hw'=>acx_ T bx base m s at_ w' (hG.new hw' trivial) (hI0.old hw' trivial) hm ha hs) (fun B4 v4 D4 hA4 hB4 hN4 hS4=> ?_)
 have hpl:=aiw_ (T:=T) hok s at_
 unfold KS_
 have hpb: (plcV T m s at_).length≤8:=by
  unfold plcV
  split
  ·exact hm _
  ·exact Nat.zero_le _
 generalize plcV T m s at_=l at*
 refine Ow.world fun wz hwz=> ?_
 obtain⟨lb,off,arr,E,fz,hr,hlk⟩:=hS4.rowL (z:=0) rfl hwz jm_
 have ln:=fun x=>hr.len x
 have ix:=fun k hk=>hr.idx false k hk
 have ld: ∀k,k<l.length→zl_ (some (false,1)) (some (.cells arr E fz)) (off+k)=some (vi (l.getD k 0)):=fun k hk=>by
  have:=hr.cell (j:=0) (n:=1) hk (by omega)
  rwa [Nat.add_zero,Nat.mul_one] at this
 clear hr hwz wz
 have hND:New w.heap.size D4:=hN4.mono hB4
 clear hN4 hA4 hB4
 refine ko (And.intro @qq_ @ln) ?_
 first|with_reducible refine ks [] (And.intro @qq_ @ln) ?_|refine kp (And.intro @qq_ @ln) ?_
 refine Cw.loopG (G:=FnG) [19,20,21,11,22,23,24,25,26,27,28,29,30,31,12,32,33,34,35,36,37,38,39,40,8,9,41,18] (fun g=> [(18,vi g.i),(8,vi g.q.1),(9,vi g.q.2)]) (fun g=>D4) (fun g=>g.i≤l.length∧g.q.2<1000000∧wo_ base s at_ (l.drop g.i) g.q=wo_ base s at_ l (0,0)) (fun g=>l.length - g.i) ⟨0,(0,0)⟩ rfl rfl ?_ ?_
 ·exact⟨Nat.zero_le _,by decide,rfl⟩
 intro g j hg
 refine kv ?_
 obtain⟨i,q1,q2⟩:=g
 simp only at hg ⊢
 obtain⟨hi,hq,hbest⟩:=hg
 by_cases hlt:i<l.length
 ·have d1:decide ((i:Int)< (l.length:Int))=true:=decide_eq_true (by omega)
  have ix1:=ix i hlt
  have ld1:=ld i hlt
  rw[Nat.mul_one] at ix1
  have rd:zk_ w D4 lb=some (.cells arr E fz):=zt_ (hlk (by omega))
  have rx:zk_ w D4 bx=some (.cells #[vs base,vm bm] 215 (0,0)):=by rw[zX_ (hND.not hbxl)];exact hbx
  have hp1:=hpl (l.getD i 0) (by rw[List.getD_eq_getElem?_getD,List.getElem?_eq_getElem hlt];exact List.getElem_mem hlt)
  rw[List.drop_eq_getElem_cons hlt,show l[i]=l.getD i 0 by rw[List.getD_eq_getElem?_getD,List.getElem?_eq_getElem hlt];rfl] at hbest
  rw[KD_] at hbest
  generalize l.getD i 0=p at*
  first|with_reducible refine ks [] (And.intro @qq_ (And.intro @d1 (And.intro @ix1 (And.intro @ld1 (@rd))))) ?_|refine kp (And.intro @qq_ (And.intro @d1 (And.intro @ix1 (And.intro @ld1 (@rd))))) ?_
  refine Cw.regionG [bx] [] 11 (by kernel_rfl) rfl ?_
  refine kyc ?_
  refine OwG.run [0,1,2,3,4,5,6,7,8] [true,true,true,true,true,true,true,true,true,false,false] 2 rfl (by kernel_rfl) (by kernel_rfl) fun k hk=> ?_
  refine kya ?_
  refine kp (And.intro @qq_ (And.intro @Md.next_sofnil (@rx))) ?_
  (with_reducible refine hk _ _ _ ?_);clear hk k
  refine OwG.one 9 _ (by kernel_rfl) rfl ?_
  refine Ow.callFV rfl Tryz.call141 (fun w' hw'=>agI_ (base.drop p) (s.drop at_) w' (by rw[List.length_drop];omega) (by rw[List.length_drop];omega)) ?_
  have hal:=(JV_ (base.drop p) (s.drop at_)).1
  rw[List.length_drop] at hal
  generalize qC_ (base.drop p) (s.drop at_)=n at*
  with_reducible refine Ow.nilD ?_
  refine kyb ?_
  refine OwG.rest [10] rfl (by kernel_rfl) (by kernel_rfl) ?_
  refine kya ?_
  by_cases h16:16≤n
  ·have e1:decide ((16:Int)≤ (n:Int))=true:=decide_eq_true (by omega)
   by_cases hqn:q2<n
   ·have e2:decide ((q2:Int)< (n:Int))=true:=decide_eq_true (by omega)
    rw[if_pos ⟨h16,hqn⟩] at hbest
    refine kq (And.intro @qq_ (And.intro @e1 (@e2))) ?_
    first|with_reducible refine ks [] (And.intro @qq_ (And.intro @e1 (@e2))) ?_|refine kp (And.intro @qq_ (And.intro @e1 (@e2))) ?_
    exact Again.mk ⟨i+1,p,n⟩ (by show l.length - (i+1)<l.length - i;omega) ⟨hlt,by show n<1000000;omega,hbest⟩ rfl rfl
   ·have e2:decide ((q2:Int)< (n:Int))=false:=decide_eq_false (by omega)
    rw[if_neg (fun h=>hqn h.2)] at hbest
    refine kq (And.intro @qq_ (And.intro @e1 (@e2))) ?_
    first|with_reducible refine ks [] (And.intro @qq_ (And.intro @e1 (@e2))) ?_|refine kp (And.intro @qq_ (And.intro @e1 (@e2))) ?_
    exact Again.mk ⟨i+1,q1,q2⟩ (by show l.length - (i+1)<l.length - i;omega) ⟨hlt,hq,hbest⟩ rfl rfl
  ·have e1:decide ((16:Int)≤ (n:Int))=false:=decide_eq_false (by omega)
   rw[if_neg (fun h=>h16 h.1)] at hbest
   refine kq (And.intro @qq_ @e1) ?_
   first|with_reducible refine ks [] (And.intro @qq_ @e1) ?_|refine kp (And.intro @qq_ @e1) ?_
   exact Again.mk ⟨i+1,q1,q2⟩ (by show l.length - (i+1)<l.length - i;omega) ⟨hlt,hq,hbest⟩ rfl rfl
 ·obtain rfl:i=l.length:=by omega
  have d1:decide ((l.length:Int)< (l.length:Int))=false:=by simp
  rw[List.drop_length,show wo_ base s at_ [] (q1,q2)=(q1,q2) from rfl] at hbest
  first|with_reducible refine ks [] (And.intro @qq_ @d1) ?_|refine kp (And.intro @qq_ @d1) ?_
  refine⟨_,(ke @qq_), ?_⟩
  rw[←hbest]
  exact⟨Ext.of_new hND,rfl⟩
end Go.Proofs
end
section
open Go Go.Proofs Go.Sx Go.StP Go.Flo
namespace Go.Proofs
set_option maxRecDepth 10000
set_option maxHeartbeats 400000
set_option linter.unusedSimpArgs false
def Z3_ (s:List UInt8) (fr at_:Nat):List PcL:=if fr<at_ then [⟨0,0,(s.take at_).drop fr⟩] else []
def jL_ (F:Nat→Nat×Nat) (s:List UInt8):Nat→Nat→Nat→List PcL
 |0,_,_=> []
 |k+1,fr,at_=>if at_<s.length then(if(F at_).2=0 then jL_ F s k fr (at_+1) else Z3_ s fr at_++ ⟨(F at_).1,(F at_).2,[]⟩::jL_ F s k (at_+ (F at_).2) (at_+ (F at_).2)) else Z3_ s fr s.length
def amR_ (F:Nat→Nat×Nat) (base s:List UInt8):Prop:= ∀at_,at_<s.length→(F at_).2=0∨(16≤ (F at_).2∧(F at_).1+ (F at_).2≤base.length∧at_+ (F at_).2≤s.length∧(base.drop (F at_).1).take (F at_).2=(s.drop at_).take (F at_).2)
theorem aeJ_ (base s:List UInt8) (at_:Nat): ∀ (l:List Nat) (q:Nat×Nat),(q.2=0∨(16≤q.2∧q.1+q.2≤base.length∧at_+q.2≤s.length∧(base.drop q.1).take q.2=(s.drop at_).take q.2))→(∀p,p∈l→p≤base.length)→at_≤s.length→
  (wo_ base s at_ l q).2=0∨(16≤ (wo_ base s at_ l q).2∧(wo_ base s at_ l q).1+ (wo_ base s at_ l q).2≤base.length∧at_+ (wo_ base s at_ l q).2≤s.length∧(base.drop (wo_ base s at_ l q).1).take (wo_ base s at_ l q).2=(s.drop at_).take (wo_ base s at_ l q).2)
 | [],q,h,_,_=>h
 |p::r,q,h,hl,ha=>by
  rw[KD_]
  refine aeJ_ base s at_ r _ ?_ (fun x hx=>hl x (List.mem_cons_of_mem _ hx)) ha
  split
  ·rename_i h1
   have h2:=JV_ (base.drop p) (s.drop at_)
   have h3:=hl p List.mem_cons_self
   rw[List.length_drop,List.length_drop] at h2
   exact .inr ⟨h1.1,by show p+_≤_;omega,by show at_+_≤_;omega,Qt_ _ _⟩
  ·exact h
theorem ad2_ {T:List CD} {m:PlM} {base:List UInt8} (hok:PlOk m base.length) (s:List UInt8):amR_ (KS_ T m base s) base s:=by
 intro at_ ha
 unfold KS_
 refine aeJ_ base s at_ _ _ (.inl rfl) (fun p hp=> ?_) (by omega)
 have:=aiw_ hok s at_ p hp
 omega
structure DmG where
 k:Nat
 fr:Nat
 at_:Nat
 out:List PcL
 v:Value
 X:zb_
 Y:zb_
def mkF (T:List CD) (base s:List UInt8):Nat→Nat×Nat:=KS_ T (ql_ T base (base.length - 15)) base s
def Zy_ (T:List CD) (base s:List UInt8):List PcL:=jL_ (mkF T base s) s (s.length+1) 0 0
def AllM (Q:List Nat→Prop) (m:PlM):Prop:= ∀a,a∈m→Q a.2
theorem AllM.upd {Q:List Nat→Prop} {m:PlM} (h:AllM Q m) {l:List Nat} (hl:Q l) (k:CD):AllM Q (updM k l m):=by
 unfold updM
 split
 ·split
  ·intro a ha
   rcases List.mem_or_eq_of_mem_set ha with h1|h1
   ·exact h a h1
   ·rw[h1];exact hl
  ·exact h
 ·intro a ha
  rcases List.mem_append.1 ha with h1|h1
  ·exact h a h1
  ·rw[List.mem_singleton.1 h1];exact hl
theorem AllM.get {Q:List Nat→Prop} {m:PlM} (h:AllM Q m) (h0:Q []) (k:CD):Q (getM [] k m):=by
 unfold getM
 split
 ·split
  ·rename_i a ha
   exact h a (List.mem_of_getElem? ha)
  ·exact h0
 ·exact h0
theorem wl_ (T:List CD) (s:List UInt8): ∀i,AllM (fun l=>l.length≤8∧ ∀p,p∈l→p<i) (ql_ T s i)
 |0=>fun a ha=>by cases ha
 |i+1=>by
  have ih:=wl_ T s i
  have ih2:AllM (fun l=>l.length≤8∧ ∀p,p∈l→p<i+1) (ql_ T s i):=fun a ha=>⟨(ih a ha).1,fun p hp=>by have:=(ih a ha).2 p hp;omega⟩
  unfold ql_
  split
  ·rename_i h8
   refine ih2.upd ⟨by rw[List.length_append,List.length_singleton];omega,fun p hp=> ?_⟩ _
   rcases List.mem_append.1 hp with h|h
   ·exact(ih2.get ⟨Nat.zero_le _,fun p hp=>by cases hp⟩ (wA T s i)).2 p h
   ·rw[List.mem_singleton.1 h];omega
  ·exact ih2
theorem VX_ (T:List CD) (s:List UInt8) (i:Nat):acS_ (ql_ T s i):=fun k=>((wl_ T s i).get ⟨Nat.zero_le _,fun p hp=>by cases hp⟩ k).1
theorem Zz_ (T:List CD) (s:List UInt8):PlOk (ql_ T s (s.length - 15)) s.length:=fun k p hp=>by
 have:=((wl_ T s (s.length - 15)).get ⟨Nat.zero_le _,fun p hp=>by cases hp⟩ k).2 p hp
 omega
theorem WW_ {F:Nat→Nat×Nat} {s:List UInt8} {k fr at_:Nat} (h:at_<s.length):jL_ F s (k+1) fr at_=if(F at_).2=0 then jL_ F s k fr (at_+1) else Z3_ s fr at_++ ⟨(F at_).1,(F at_).2,[]⟩::jL_ F s k (at_+ (F at_).2) (at_+ (F at_).2):=by
 rw[jL_,if_pos h]
theorem X2_ {F:Nat→Nat×Nat} {s:List UInt8} {k fr at_:Nat} (h: ¬at_<s.length):jL_ F s (k+1) fr at_=Z3_ s fr s.length:=by
 rw[jL_,if_neg h]
theorem ad0_ {D:zb_} {v:Value} {l:List PcL} {p:PcL} (h:Gr D 194 2 v (l.length+1) ((l.map pcC).flatten++pcC p)):Gr D 194 2 v (l++ [p]).length ((l++ [p]).map pcC).flatten:=by
 simpa using h
set_option linter.defProp false
theorem ajs_ (T:List CD) (base s:List UInt8) (w:World) (hG:GlobT T w) (hb:base.length≤4099) (hs:s.length≤4099):
  Rets Tryz.prog 103 #[vs base,vs s] w (XS w [] (fun r D=>Gr D 194 2 r (Zy_ T base s).length ((Zy_ T base s).map pcC).flatten)):=by
 refine Rets.enterX Tryz.func103 rfl (rs:= [.tmp 4]) Tryz.results103 Tryz.ntmps103 (fun p hp=>by cases hp) (by simp[keys]) ?_
 refine kf ?_
 have d0:decide (4099< (base.length:Int))=false:=decide_eq_false (by omega)
 have d1:decide (4099< (s.length:Int))=false:=decide_eq_false (by omega)
 first|with_reducible refine ks [] (And.intro @zc_ (And.intro @d0 (@d1))) ?_|refine kp (And.intro @zc_ (And.intro @d0 (@d1))) ?_
 refine Ow.callC rfl rfl Tryz.call121 (fun w' hw'=>ah6_ T base w' (hG.new hw' trivial) hb) (fun B4 v4 DX hA4 hB4 hN4 hS4=> ?_)
 obtain⟨bx,rfl,hIx⟩:=hS4
 have hNX0:=hN4.mono hB4
 clear hN4 hA4 hB4
 rw[List.nil_append]
 unfold Zy_
 refine ko @zc_ ?_
 first|with_reducible refine ks [] @zc_ ?_|refine kp @zc_ ?_
 have hF:=ad2_ (T:=T) (Zz_ T base) s
 have hmk:mkF T base s=KS_ T (ql_ T base (base.length - 15)) base s:=rfl
 rw[←hmk] at hF
 generalize hFF:mkF T base s=F at*
 refine Cw.loopG (G:=DmG) [21,22,23,24,26,27,28,29,25,30,31,9,10,32,33,34,35,8,36,37,38,39,40,41,42,43,44,45,46,6,47,48,49,50,51,52,53,54,55,56,57,58,59,7] (fun g=> [(8,vi g.at_),(7,vi g.fr),(6,g.v)]) (fun g=>g.X++ (g.Y++DX)) (fun g=>g.fr≤g.at_∧g.at_≤s.length∧s.length - g.at_<g.k∧g.out.length≤2*g.fr∧New w.heap.size g.X∧New w.heap.size g.Y∧Gr g.X 194 2 g.v g.out.length (g.out.map pcC).flatten∧g.out++jL_ F s g.k g.fr g.at_=jL_ F s (s.length+1) 0 0) (fun g=>s.length - g.at_) ⟨s.length+1,0,0,[], .slice none 0 0,[],[]⟩ rfl rfl ?_ ?_
 ·exact⟨Nat.zero_le _,Nat.zero_le _,by show s.length - 0<s.length+1;omega,Nat.zero_le _,trivial,trivial,Gr.nl,rfl⟩
 intro g j hg
 refine kv ?_
 obtain⟨k,fr,at_,out,v,X,Y⟩:=g
 simp only at hg ⊢
 obtain⟨h1,h2,h3,h3b,hNX,hNY,hGr,hmake⟩:=hg
 obtain⟨k,rfl⟩: ∃k',k=k'+1:=⟨k - 1,by omega⟩
 have hNN:New w.heap.size (X++ (Y++DX)):=hNX.app (hNY.app hNX0)
 by_cases hlt:at_<s.length
 ·have e1:decide ((at_:Int)< (s.length:Int))=true:=decide_eq_true (by omega)
  rw[WW_ hlt] at hmake
  first|with_reducible refine ks [] (And.intro @zc_ @e1) ?_|refine kp (And.intro @zc_ @e1) ?_
  refine Ow.callC rfl rfl Tryz.call122 (fun w' hw'=>aiF_ T bx base (ql_ T base (base.length - 15)) s at_ w' (hG.new hw' hNN) (hIx.W fun p hp=>hw'.has _ _ (by simp[hp])) (VX_ T base _) (Zz_ T base) hlt (by omega) (by omega)) (fun B5 v5 D5 hA5 hB5 hN5 hS5=> ?_)
  subst hS5
  have hq:=hF at_ hlt
  rw[show KS_ T (ql_ T base (base.length - 15)) base s at_=F at_ by rw[←hFF];rfl]
  have hN5':=hN5.mono hB5
  refine Ow.permL (M:=X++ ((Y++D5)++DX)) (by classical exact List.perm_iff_count.2 fun a=>by simp only[List.count_append,List.count_cons,List.count_nil]<;>omega) ?_
  have hNY5:New w.heap.size (Y++D5):=hNY.app hN5'
  clear hNN hN5 hN5' hNY hA5 hB5
  generalize Y++D5=Y at*
  generalize hFa:F at_=q at*
  obtain⟨p,n⟩:=q
  simp only at hq hmake ⊢
  by_cases hn0:n=0
  ·subst hn0
   rw[if_pos rfl] at hmake
   have e2: ((0:Int)==0)=true:=rfl
   refine ko (And.intro @zc_ @e2) ?_
   first|with_reducible refine ks [] (And.intro @zc_ @e2) ?_|refine kp (And.intro @zc_ @e2) ?_
   exact Again.mk ⟨k,fr,at_+1,out,v,X,Y⟩ (by show s.length - (at_+1)<s.length - at_;omega) ⟨by show fr≤at_+1;omega,hlt,by show s.length - (at_+1)<k;omega,h3b,hNX,hNY5,hGr,hmake⟩ rfl rfl
  ·rw[if_neg hn0] at hmake
   have e2: ((n:Int)==0)=false:=by rw[beq_eq_false_iff_ne];omega
   have hq:=hq.resolve_left hn0
   refine ko (And.intro @zc_ @e2) ?_
   by_cases hfr:fr<at_
   ·have e3:decide ((fr:Int)< (at_:Int))=true:=decide_eq_true (by omega)
    rw[Z3_,if_pos hfr,List.singleton_append] at hmake
    first|with_reducible refine ks [] (And.intro @zc_ (And.intro @e2 (@e3))) ?_|refine kp (And.intro @zc_ (And.intro @e2 (@e3))) ?_
    refine Ow.build (.agg (pcC ⟨0,0,(s.take at_).drop fr⟩).toArray) rfl (J0_ _) ?_
    generalize hpp: (⟨0,0,(s.take at_).drop fr⟩:PcL)=pp at*
    refine Ow.buildSlice (e:=194) (pcC pp).toArray rfl rfl (Zh_ pp) fun b9 hb9 hw9=> ?_
    refine ko @zc_ ?_
    refine Ow.appendXG (e:=194) (k:=1) (new:=pcC pp) (X:=X) v (List.append_assoc _ _ _) rfl rfl rfl Tryz.underlying173 Tryz.ag194 (by kernel_rfl) zrPc (by rw[xo_,List.size_toArray,qV_]) Tryz.underlying173 (by intro k h;cases h) hGr (fun w' hw'=>AppX.one1 (hw'.has b9 (.cells (pcC pp).toArray 194 (0,0)) (by simp)) (qV_ _) (wk_ _)) (by omega) (fun B3 v3 D3 hA3 hB3 hG3 hk13 hk23 hlk3=> ?_)
    have hN3:New w.heap.size D3:=New.of_le fun c hc=>by
     rcases hk23 c hc with h|h
     ·exact hNX.le c h
     ·omega
    have hG3:=ad0_ hG3
    clear hGr hNX hlk3 hk13 hk23 hA3 hB3 hb9
    refine Ow.permL (M:=D3++ ((Y++ [(b9, .cells (pcC pp).toArray 194 (0,0))])++DX)) (by classical exact List.perm_iff_count.2 fun a=>by simp only[List.count_append,List.count_cons,List.count_nil]<;>omega) ?_
    have hNY5:New w.heap.size (Y++ [(b9,Obj.cells (pcC pp).toArray 194 (0,0))]):=by first|exact hNY5.app ⟨hw9,trivial⟩ |exact hNY.app ⟨hw9,trivial⟩
    generalize Y++ [(b9,Obj.cells (pcC pp).toArray 194 (0,0))]=Y at*
    have hNX:=hN3
    have hGr:=hG3
    clear hN3 hG3 hw9
    generalize v3=v at*
    generalize D3=X at*
    refine ko @zc_ ?_
    first|with_reducible refine ks [] @zc_ ?_|refine kp @zc_ ?_
    rw[show out++pp:: ⟨p,n,[]⟩::jL_ F s k (at_+n) (at_+n)=(out++ [pp])++ ⟨p,n,[]⟩::jL_ F s k (at_+n) (at_+n) by simp] at hmake
    have hol: (out++ [pp]).length≤2*fr+1:=by rw[List.length_append,List.length_singleton];omega
    generalize out++ [pp]=out at*
    refine Ow.convIF rfl rfl cvIF Tryz.underlying3 Tryz.underlying185 rfl ?_
    refine ko @zc_ ?_
    refine Ow.convIF rfl rfl cvIF Tryz.underlying3 Tryz.underlying185 rfl ?_
    refine Ow.complexB (a:=(p:Nat)) (b:=(n:Nat)) rfl rfl rfl ?_
    refine Ow.build (.agg (pcC ⟨p,n,[]⟩).toArray) rfl (QW_ p n) ?_
    generalize hpp2: (⟨p,n,[]⟩:PcL)=pp2 at*
    refine Ow.buildSlice (e:=194) (pcC pp2).toArray rfl rfl (Zh_ pp2) fun b9 hb9 hw9=> ?_
    refine ko @zc_ ?_
    refine Ow.appendXG (e:=194) (k:=1) (new:=pcC pp2) (X:=X) v (List.append_assoc _ _ _) rfl rfl rfl Tryz.underlying173 Tryz.ag194 (by kernel_rfl) zrPc (by rw[xo_,List.size_toArray,qV_]) Tryz.underlying173 (by intro k h;cases h) hGr (fun w' hw'=>AppX.one1 (hw'.has b9 (.cells (pcC pp2).toArray 194 (0,0)) (by simp)) (qV_ _) (wk_ _)) (by omega) (fun B3 v3 D3 hA3 hB3 hG3 hk13 hk23 hlk3=> ?_)
    have hN3:New w.heap.size D3:=New.of_le fun c hc=>by
     rcases hk23 c hc with h|h
     ·exact hNX.le c h
     ·omega
    have hG3:=ad0_ hG3
    clear hGr hNX hlk3 hk13 hk23 hA3 hB3 hb9
    refine Ow.permL (M:=D3++ ((Y++ [(b9, .cells (pcC pp2).toArray 194 (0,0))])++DX)) (by classical exact List.perm_iff_count.2 fun a=>by simp only[List.count_append,List.count_cons,List.count_nil]<;>omega) ?_
    have hNY5:New w.heap.size (Y++ [(b9,Obj.cells (pcC pp2).toArray 194 (0,0))]):=by first|exact hNY5.app ⟨hw9,trivial⟩ |exact hNY.app ⟨hw9,trivial⟩
    generalize Y++ [(b9,Obj.cells (pcC pp2).toArray 194 (0,0))]=Y at*
    have hNX:=hN3
    have hGr:=hG3
    clear hN3 hG3 hw9
    generalize v3=v at*
    generalize D3=X at*
    refine ko @zc_ ?_
    first|with_reducible refine ks [] @zc_ ?_|refine kp @zc_ ?_
    rw[show out++pp2::jL_ F s k (at_+n) (at_+n)=(out++ [pp2])++jL_ F s k (at_+n) (at_+n) by simp] at hmake
    exact Again.mk ⟨k,at_+n,at_+n,out++ [pp2],_,_,_⟩ (by show s.length - (at_+n)<s.length - at_;omega) ⟨Nat.le_refl _,by show at_+n≤s.length;omega,by show s.length - (at_+n)<k;omega,by show(out++ [pp2]).length≤2* (at_+n);rw[List.length_append,List.length_singleton];omega,hNX,hNY5,hGr,hmake⟩ rfl rfl
   ·have e3:decide ((fr:Int)< (at_:Int))=false:=decide_eq_false (by omega)
    rw[Z3_,if_neg hfr,List.nil_append] at hmake
    first|with_reducible refine ks [] (And.intro @zc_ (And.intro @e2 (@e3))) ?_|refine kp (And.intro @zc_ (And.intro @e2 (@e3))) ?_
    have hol:out.length≤2*fr+1:=by omega
    refine Ow.convIF rfl rfl cvIF Tryz.underlying3 Tryz.underlying185 rfl ?_
    refine ko @zc_ ?_
    refine Ow.convIF rfl rfl cvIF Tryz.underlying3 Tryz.underlying185 rfl ?_
    refine Ow.complexB (a:=(p:Nat)) (b:=(n:Nat)) rfl rfl rfl ?_
    refine Ow.build (.agg (pcC ⟨p,n,[]⟩).toArray) rfl (QW_ p n) ?_
    generalize hpp2: (⟨p,n,[]⟩:PcL)=pp2 at*
    refine Ow.buildSlice (e:=194) (pcC pp2).toArray rfl rfl (Zh_ pp2) fun b9 hb9 hw9=> ?_
    refine ko @zc_ ?_
    refine Ow.appendXG (e:=194) (k:=1) (new:=pcC pp2) (X:=X) v (List.append_assoc _ _ _) rfl rfl rfl Tryz.underlying173 Tryz.ag194 (by kernel_rfl) zrPc (by rw[xo_,List.size_toArray,qV_]) Tryz.underlying173 (by intro k h;cases h) hGr (fun w' hw'=>AppX.one1 (hw'.has b9 (.cells (pcC pp2).toArray 194 (0,0)) (by simp)) (qV_ _) (wk_ _)) (by omega) (fun B3 v3 D3 hA3 hB3 hG3 hk13 hk23 hlk3=> ?_)
    have hN3:New w.heap.size D3:=New.of_le fun c hc=>by
     rcases hk23 c hc with h|h
     ·exact hNX.le c h
     ·omega
    have hG3:=ad0_ hG3
    clear hGr hNX hlk3 hk13 hk23 hA3 hB3 hb9
    refine Ow.permL (M:=D3++ ((Y++ [(b9, .cells (pcC pp2).toArray 194 (0,0))])++DX)) (by classical exact List.perm_iff_count.2 fun a=>by simp only[List.count_append,List.count_cons,List.count_nil]<;>omega) ?_
    have hNY5:New w.heap.size (Y++ [(b9,Obj.cells (pcC pp2).toArray 194 (0,0))]):=by first|exact hNY5.app ⟨hw9,trivial⟩ |exact hNY.app ⟨hw9,trivial⟩
    generalize Y++ [(b9,Obj.cells (pcC pp2).toArray 194 (0,0))]=Y at*
    have hNX:=hN3
    have hGr:=hG3
    clear hN3 hG3 hw9
    generalize v3=v at*
    generalize D3=X at*
    refine ko @zc_ ?_
    first|with_reducible refine ks [] @zc_ ?_|refine kp @zc_ ?_
    rw[show out++pp2::jL_ F s k (at_+n) (at_+n)=(out++ [pp2])++jL_ F s k (at_+n) (at_+n) by simp] at hmake
    exact Again.mk ⟨k,at_+n,at_+n,out++ [pp2],_,_,_⟩ (by show s.length - (at_+n)<s.length - at_;omega) ⟨Nat.le_refl _,by show at_+n≤s.length;omega,by show s.length - (at_+n)<k;omega,by show(out++ [pp2]).length≤2* (at_+n);rw[List.length_append,List.length_singleton];omega,hNX,hNY5,hGr,hmake⟩ rfl rfl
 ·obtain rfl:at_=s.length:=by omega
  have e1:decide ((s.length:Int)< (s.length:Int))=false:=by simp
  rw[X2_ hlt] at hmake
  by_cases hfr:fr<s.length
  ·have e3:decide ((fr:Int)< (s.length:Int))=true:=decide_eq_true (by omega)
   rw[Z3_,if_pos hfr,List.take_length] at hmake
   first|with_reducible refine ks [] (And.intro @zc_ (And.intro @e1 (@e3))) ?_|refine kp (And.intro @zc_ (And.intro @e1 (@e3))) ?_
   refine Ow.build (.agg (pcC ⟨0,0,s.drop fr⟩).toArray) rfl (J0_ _) ?_
   generalize hpp: (⟨0,0,s.drop fr⟩:PcL)=pp at*
   refine Ow.buildSlice (e:=194) (pcC pp).toArray rfl rfl (Zh_ pp) fun b9 hb9 hw9=> ?_
   refine ko @zc_ ?_
   refine Ow.appendXG (e:=194) (k:=1) (new:=pcC pp) (X:=X) v (List.append_assoc _ _ _) rfl rfl rfl Tryz.underlying173 Tryz.ag194 (by kernel_rfl) zrPc (by rw[xo_,List.size_toArray,qV_]) Tryz.underlying173 (by intro k h;cases h) hGr (fun w' hw'=>AppX.one1 (hw'.has b9 (.cells (pcC pp).toArray 194 (0,0)) (by simp)) (qV_ _) (wk_ _)) (by omega) (fun B3 v3 D3 hA3 hB3 hG3 hk13 hk23 hlk3=> ?_)
   have hN3:New w.heap.size D3:=New.of_le fun c hc=>by
    rcases hk23 c hc with h|h
    ·exact hNX.le c h
    ·omega
   have hG3:=ad0_ hG3
   clear hGr hNX hlk3 hk13 hk23 hA3 hB3 hb9
   refine Ow.permL (M:=D3++ ((Y++ [(b9, .cells (pcC pp).toArray 194 (0,0))])++DX)) (by classical exact List.perm_iff_count.2 fun a=>by simp only[List.count_append,List.count_cons,List.count_nil]<;>omega) ?_
   have hNY5:New w.heap.size (Y++ [(b9,Obj.cells (pcC pp).toArray 194 (0,0))]):=by first|exact hNY5.app ⟨hw9,trivial⟩ |exact hNY.app ⟨hw9,trivial⟩
   generalize Y++ [(b9,Obj.cells (pcC pp).toArray 194 (0,0))]=Y at*
   have hNX:=hN3
   have hGr:=hG3
   clear hN3 hG3 hw9
   generalize v3=v at*
   generalize D3=X at*
   refine ko @zc_ ?_
   first|with_reducible refine ks [] @zc_ ?_|refine kp @zc_ ?_
   refine⟨_,(ke @zc_), ?_⟩
   rw[←hmake]
   exact⟨Ext.of_new (hNX.app (hNY5.app hNX0)),hGr.app⟩
  ·have e3:decide ((fr:Int)< (s.length:Int))=false:=decide_eq_false (by omega)
   rw[Z3_,if_neg hfr,List.append_nil] at hmake
   first|with_reducible refine ks [] (And.intro @zc_ (And.intro @e1 (@e3))) ?_|refine kp (And.intro @zc_ (And.intro @e1 (@e3))) ?_
   refine⟨_,(ke @zc_), ?_⟩
   rw[←hmake]
   exact⟨Ext.of_new (hNX.app (hNY.app hNX0)),hGr.app⟩
end Go.Proofs
end
section
open Go Go.Proofs Go.Sx Go.StP Go.Flo
namespace Go.Proofs
set_option maxRecDepth 10000
set_option maxHeartbeats 400000
set_option linter.unusedSimpArgs false
def pcB (b:Int) (p:PcL):List UInt8:=match cpV p b with
 |some q=>jb_ (zx_ (2* (q.2:Int)+1))++jb_ (zx_ (q.1:Int))
 |none=>jb_ (zx_ (2* (p.x.length:Int)))++p.x
def pcsB (b:Int) (l:List PcL):List UInt8:=(l.map (pcB b)).flatten
def dwr (b:Nat) (l:List PcL):List UInt8×Int:=if(kO_ b l).2=0 then(jb_ (zx_ (b:Int))++ (jb_ (zx_ (kO_ b l).1)++pcsB b l),0) else([],(kO_ b l).2)
theorem Wl_ (base:List UInt8) (p:PcL) (l:List PcL):J5_ base (p::l)=pcT base p++J5_ base l:=by unfold J5_;rw[List.map_cons,List.flatten_cons]
theorem aiW_ (base:List UInt8) (l m:List PcL):J5_ base (l++m)=J5_ base l++J5_ base m:=by unfold J5_;rw[List.map_append,List.flatten_append]
theorem amz_ (b:Int) (l m:List PcL):Za_ b (l++m)=(Za_ b l||Za_ b m):=by unfold Za_;rw[List.any_append]
theorem W4_ (b:Int) (p:PcL) (m:List PcL):Za_ b (p::m)=(jv_ p b==0||Za_ b m):=by unfold Za_;rw[List.any_cons]
theorem aaL_ (base s:List UInt8) {fr at_:Nat} (h:fr≤at_) (ha:at_≤s.length):J5_ base (Z3_ s fr at_)=(s.take at_).drop fr:=by
 unfold Z3_
 split
 ·rw[Wl_]
  unfold pcT
  rw[show cpV ⟨0,0,(s.take at_).drop fr⟩ base.length=none by unfold cpV;rw[if_neg (by simp)]]
  simp[J5_]
 ·rw[List.drop_eq_nil_of_le (by rw[List.length_take];omega)];rfl
theorem aa1_ (b:Int) (s:List UInt8) {fr at_:Nat} (ha:at_≤s.length) (hs:s.length≤4099):Za_ b (Z3_ s fr at_)=false:=by
 unfold Z3_
 split
 ·rename_i h
  rw[W4_]
  have hl: ((s.take at_).drop fr).length=at_ - fr:=by rw[List.length_drop,List.length_take];omega
  have:jv_ ⟨0,0,(s.take at_).drop fr⟩ b=at_ - fr:=by
   unfold jv_
   rw[if_pos ⟨rfl,rfl,by simp only[hl];omega⟩]
   exact hl
  rw[this]
  have: (at_ - fr==0)=false:=by rw[beq_eq_false_iff_ne];omega
  rw[this];rfl
 ·rfl
theorem Zp_ {F:Nat→Nat×Nat} {base s:List UInt8} (hF:amR_ F base s) (hb:base.length≤4099) (hs:s.length≤4099): ∀ (k fr at_:Nat),fr≤at_→at_≤s.length→s.length - at_<k→
  J5_ base (jL_ F s k fr at_)=s.drop fr∧Za_ base.length (jL_ F s k fr at_)=false
 |0,_,_,_,_,h=>absurd h (Nat.not_lt_zero _)
 |k+1,fr,at_,h1,h2,h3=>by
  by_cases hlt:at_<s.length
  ·rw[WW_ hlt]
   by_cases h0: (F at_).2=0
   ·rw[if_pos h0]
    exact Zp_ hF hb hs k fr (at_+1) (by omega) (by omega) (by omega)
   ·rw[if_neg h0]
    obtain⟨e1,e2,e3,e4⟩:=(hF at_ hlt).resolve_left h0
    obtain⟨i1,i2⟩:=Zp_ hF hb hs k (at_+ (F at_).2) (at_+ (F at_).2) (Nat.le_refl _) e3 (by omega)
    have hc:cpV ⟨(F at_).1,(F at_).2,[]⟩ base.length=some ((F at_).1,(F at_).2):=by
     unfold cpV
     rw[if_pos ⟨by simp only;omega,by simp only;omega,rfl,by simp only;omega⟩]
    refine⟨?_, ?_⟩
    ·rw[aiW_,Wl_,i1,aaL_ base s h1 h2]
     unfold pcT
     rw[hc]
     simp only[List.append_nil]
     rw[e4,show s.drop (at_+ (F at_).2)=(s.drop at_).drop (F at_).2 by rw[List.drop_drop],List.take_append_drop]
     conv=>rhs;rw[←List.take_append_drop at_ s]
     rw[List.drop_append_of_le_length (by rw[List.length_take];omega)]
    ·rw[amz_,W4_,i2,aa1_ _ s h2 hs]
     have:jv_ ⟨(F at_).1,(F at_).2,[]⟩ base.length≠0:=by
      unfold jv_
      rw[if_neg (by simp only;omega),hc]
      exact h0
     simpa using this
  ·obtain rfl:at_=s.length:=by omega
   rw[X2_ hlt]
   refine⟨?_,aa1_ _ s (Nat.le_refl _) hs⟩
   rw[aaL_ base s h1 (Nat.le_refl _),List.take_length]
theorem aio_ (T:List CD) {base s:List UInt8} (hb:base.length≤4099) (hs:s.length≤4099):J5_ base (Zy_ T base s)=s∧kO_ base.length (Zy_ T base s)=(((s.length:Nat):Int),0):=by
 obtain⟨h1,h2⟩:=Zp_ (ad2_ (T:=T) (Zz_ T base) s) hb hs (s.length+1) 0 0 (Nat.le_refl _) (Nat.zero_le _) (by omega)
 rw[List.drop_zero] at h1
 have h3:=w4_ h2
 have e:Zy_ T base s=jL_ (KS_ T (ql_ T base (base.length - 15)) base s) s (s.length+1) 0 0:=rfl
 rw[e]
 rw[h1] at h3
 refine⟨h1, ?_⟩
 unfold kO_
 rw[if_neg (by omega),if_neg (by rw[h2];decide),if_neg (by omega),←h3]
end Go.Proofs
end
section
open Go Go.Proofs Go.Sx Go.StP Go.Flo
namespace Go.Proofs
set_option maxRecDepth 10000
set_option maxHeartbeats 400000
set_option linter.unusedSimpArgs false
theorem aj6_ {b:Int} {p:PcL} (h:jv_ p b≠0): (pcB b p).length≤4111:=by
 unfold pcB
 cases hc:cpV p b with
 |some q=>
  simp only
  have h1:=zp_ (2* (q.2:Int)+1)
  have h2:=zp_ (q.1:Int)
  rw[List.length_append];omega
 |none=>
  simp only
  have h1:=zp_ (2* (p.x.length:Int))
  have hx:p.x.length≤4099:=by
   unfold jv_ at h
   split at h
   ·rename_i h2;exact h2.2.2
   ·rw[hc] at h;exact absurd rfl h
  rw[List.length_append];omega
theorem WK_ {b:Int} {l:List PcL} {g:Nat} (h:g<l.length):pcsB b (l.take (g+1))=pcsB b (l.take g)++pcB b (l.getD g pc0):=by
 rw[take_snoc (z:=pc0) h];unfold pcsB;simp
theorem aey_ {b:Int} {l:List PcL} (hz:Za_ b l=false): ∀g,g≤l.length→(pcsB b (l.take g)).length≤g*4111
 |0,_=>by simp[pcsB]
 |g+1,hg=>by
  rw[WK_ (by omega),List.length_append]
  have h1:=aey_ hz g (by omega)
  have h2:jv_ (l.getD g pc0) b≠0:=fun h=>by rw[Z8_ (by omega) h] at hz;cases hz
  have h3:=aj6_ h2
  omega
theorem aam_ (a b:Int):kB_ [a,b]=jb_ (zx_ a)++jb_ (zx_ b):=by simp[kB_]
theorem aos_ (a:Int):kB_ [a]=jb_ (zx_ a):=by simp[kB_]
theorem apa_ {b:Int} {p:PcL}: (cpV p b).isSome=true→pcB b p=jb_ (zx_ (2* ((V1_ p b).2:Int)+1))++jb_ (zx_ ((V1_ p b).1:Int)):=by
 unfold pcB V1_
 cases cpV p b with
 |some q=>intro _;rfl
 |none=>intro h;cases h
theorem ap4_ {b:Int} {p:PcL}: (cpV p b).isSome=false→pcB b p=jb_ (zx_ (2* (p.x.length:Int)))++p.x:=by
 unfold pcB
 cases cpV p b with
 |some q=>intro h;cases h
 |none=>intro _;rfl
structure DwG where
 k:Nat
 D:zb_
 Y:zb_
set_option linter.defProp false
theorem ab4_ (b:Nat) (v:Value) (l:List PcL) (w:World) (hv:PcSl w v l) (hl:BndP l) (hn:l.length<1000000000):
  Rets Tryz.prog 102 #[vi (b:Int),v] w (fun v' D=>v'= .tuple #[vs (dwr b l).1,vi (dwr b l).2]∧D= []):=by
 obtain⟨bb,off,arr,E,fz,hr⟩:=hv.row
 have ln:=hv.len
 unfold dwr
 refine Rets.enterV Tryz.func102 rfl (rs:= [.tmp 4, .tmp 5]) Tryz.results102 Tryz.ntmps102 ?_
 refine kf ?_
 first|with_reducible refine ks [] @zy_ ?_|refine kp @zy_ ?_
 refine Ow.callFV rfl Tryz.call119 (fun w' hw'=>Zg_ (b:Int) v l w' (hv.oldN hw' trivial) hl hn) ?_
 by_cases he: (kO_ b l).2=0
 ·obtain⟨m,hm⟩: ∃m,kO_ b l=(m,0):=⟨(kO_ b l).1,by rw[←he]⟩
  obtain⟨-,hb4,hz,hs4,hms,hl4⟩:=Zq_ hm
  rw[hm]
  simp only[↓reduceIte]
  have e0: ((0:Int) !=0)=false:=rfl
  refine ko @zy_ ?_
  first|with_reducible refine ks [] (And.intro @zy_ @e0) ?_|refine kp (And.intro @zy_ @e0) ?_
  refine Ow.alloc rfl rfl Tryz.zr89 fun b8 hb8 hw8=> ?_
  have hZ:BldAt b8 [] [(b8, .cells #[.pointer none, .slice none 0 0] 89 (0,0))]:=BldAt.zeroE b8 (zP_ _ _ _)
  refine ko @zy_ ?_
  first|with_reducible refine ks [] @zy_ ?_|refine kp @zy_ ?_
  refine Ow.buildSlice (e:=3) #[vi (b:Int),vi m] rfl rfl (by kernel_rfl) fun b9 hb9 hw9=> ?_
  refine ko @zy_ ?_
  refine Ow.callX (Y:= [(b9, .cells #[vi (b:Int),vi m] 3 (0,0))]) (by simp) rfl rfl Tryz.call37 (fun w' hw' hX hn=>jH_ b8 [(b8, .cells #[.pointer none, .slice none 0 0] 89 (0,0))] [] _ b9 0 [(b:Int),m] _ _ _ w' hZ hX hn (OneS.lit [(b:Int),m] rfl rfl (hw'.has b9 (.cells #[vi (b:Int),vi m] 3 (0,0)) (by simp))) (fun _ hm=>by have:=zh_ hb9 (by simpa [keys] using hm);omega) (by simp)) (fun v16 D16 hC16 hS16=> ?_)
  obtain⟨rfl,hB16⟩:=hS16
  have hN16:New w.heap.size D16:=qA_ hC16 ⟨hw8,trivial⟩
  rw[List.nil_append,aam_] at hB16
  have hH: (jb_ (zx_ (b:Int))++jb_ (zx_ m)).length≤12:=by
   have h1:=zp_ (b:Int)
   have h2:=zp_ m
   rw[List.length_append];omega
  rw[←List.append_assoc]
  generalize jb_ (zx_ (b:Int))++jb_ (zx_ m)=H at*
  refine ko @zy_ ?_
  first|with_reducible refine ks [] (And.intro @zy_ @ln) ?_|refine kp (And.intro @zy_ @ln) ?_
  refine Cw.loopG (G:=DwG) [30,31,32,10,34,35,36,33,37,38,39,11,12,13,40,41,42,43,44,45,46,47,48,49,50,51,52,53,54,55,56,57,29] (fun g=> [(8,vp b8 0),(29,vi g.k)]) (fun g=>g.D++g.Y) (fun g=>g.k≤l.length∧New w.heap.size g.D∧New w.heap.size g.Y∧BldAt b8 (H++pcsB b (l.take g.k)) g.D) (fun g=>l.length - g.k) ⟨0,D16,[(b9, .cells #[vi (b:Int),vi m] 3 (0,0))]⟩ rfl rfl ?_ ?_
  ·exact⟨Nat.zero_le _,hN16,⟨hw9,trivial⟩,by simpa [pcsB] using hB16⟩
  intro g j hg
  refine kv ?_
  obtain⟨k,D,Y⟩:=g
  simp only at hg ⊢
  obtain⟨hk,hN,hNY,hB⟩:=hg
  have hpl:=aey_ hz k hk
  by_cases hlt:k<l.length
  ·have hb0:0<l.length:=by omega
   have hbl:=hr.lt hb0
   have rd:zk_ w (D++Y) bb=some (.cells arr E fz):=by rw[zX_ ((hN.app hNY).not hbl)];exact hr.has hb0
   have i2:=hr.idx true k hlt
   have ld:=hr.load qV_ (by omega) hlt
   obtain⟨hpb,hpx⟩:=hl k hlt
   have htk:=WK_ (b:=(b:Int)) hlt
   have hzk:jv_ (l.getD k pc0) b≠0:=fun h=>by rw[Z8_ hlt h] at hz;cases hz
   have hpk:=aj6_ hzk
   generalize hp:l.getD k pc0=p at*
   have hat:=abp_ p (List.replicate b 0)
   have hyes:=apa_ (b:=(b:Int)) (p:=p)
   have hno:=ap4_ (b:=(b:Int)) (p:=p)
   rw[List.length_replicate] at hat
   have d3:decide ((k:Int)< (l.length:Int))=true:=decide_eq_true (by omega)
   first|with_reducible refine ks [] (And.intro @zy_ (And.intro @d3 (And.intro @i2 (And.intro @rd (@ld))))) ?_|refine kp (And.intro @zy_ (And.intro @d3 (And.intro @i2 (And.intro @rd (@ld))))) ?_
   refine Ow.alloc rfl rfl zrPc fun b10 hb10 hw10=> ?_
   simp only[za_,List.nil_append,List.cons_append]
   refine Ow.permL (M:=(b10, .cells (pcC pc0).toArray 194 (0,0)):: (D++Y)) (by classical exact List.perm_iff_count.2 fun a=>by simp only[List.count_append,List.count_cons,List.count_nil]<;>omega) ?_
   have hsp:=K1_ p pc0 194
   refine ko (And.intro @zy_ @hsp) ?_
   first|with_reducible refine ks [] @zy_ ?_|refine kp @zy_ ?_
   refine Ow.callFV rfl Tryz.call120 (fun w' hw'=>ks_ p (b:Int) w' hpb (by omega) (by omega)) ?_
   rw[amU_]
   generalize hA: (V1_ p (b:Int)).1=A at*
   generalize hNn: (V1_ p (b:Int)).2=Nn at*
   have hD10:b10∉keys D:=fun h=>Nat.lt_irrefl _ (zh_ hb10 (by rw[ze_];exact List.mem_append_left _ h))
   cases hc: (cpV p (b:Int)).isSome with
   |true=>
    have hyes:=hyes hc
    rw[hyes] at htk hpk
    refine ko @zy_ ?_
    first|with_reducible refine ks [] @zy_ ?_|refine kp @zy_ ?_
    refine Ow.buildSlice (e:=3) #[vi (2* (Nn:Int)+1),vi (A:Int)] rfl rfl (by kernel_rfl) fun b45 hb45 hw45=> ?_
    refine ko @zy_ ?_
    refine Ow.permL (M:=D++ ((b10,Obj.cells (pcC p).toArray 194 (0,0)):: (Y++ [(b45, .cells #[vi (2* (Nn:Int)+1),vi (A:Int)] 3 (0,0))]))) (by classical exact List.perm_iff_count.2 fun a=>by simp only[List.count_append,List.count_cons,List.count_nil]<;>omega) ?_
    refine Ow.callX (Y:=((b10,Obj.cells (pcC p).toArray 194 (0,0)):: (Y++ [(b45, .cells #[vi (2* (Nn:Int)+1),vi (A:Int)] 3 (0,0))]))) (by simp) rfl rfl Tryz.call37 (fun w' hw' hX hn=>jH_ b8 D _ _ b45 0 [2* (Nn:Int)+1,(A:Int)] _ _ _ w' hB hX hn (OneS.lit [2* (Nn:Int)+1,(A:Int)] rfl rfl (hw'.has b45 (.cells #[vi (2* (Nn:Int)+1),vi (A:Int)] 3 (0,0)) (by simp))) (fun _ hm=>Nat.lt_irrefl _ (zh_ hb45 (by simp only[keys,List.map_cons,List.mem_cons];rw[show(D++Y).map Prod.fst=keys D++keys Y from ze_ _ _];exact .inr (List.mem_append_left _ hm)))) (by rw[List.length_append];simp;omega)) (fun v46 D46 hC46 hS46=> ?_)
    obtain⟨rfl,hB46⟩:=hS46
    rw[aam_,List.append_assoc,←htk] at hB46
    have hN46:New w.heap.size D46:=qA_ hC46 hN
    refine ko @zy_ ?_
    first|with_reducible refine ks [] @zy_ ?_|refine kp @zy_ ?_
    exact Again.mk ⟨k+1,D46,((b10,Obj.cells (pcC p).toArray 194 (0,0)):: (Y++ [(b45, .cells #[vi (2* (Nn:Int)+1),vi (A:Int)] 3 (0,0))]))⟩ (by show l.length - (k+1)<l.length - k;omega) ⟨hlt,hN46,⟨hw10,hNY.app ⟨hw45,trivial⟩⟩,hB46⟩ rfl rfl
   |false=>
    have hno:=hno hc
    rw[hno] at htk hpk
    rw[List.length_append] at hpk
    refine ko @zy_ ?_
    first|with_reducible refine ks [] @zy_ ?_|refine kp @zy_ ?_
    refine Ow.buildSlice (e:=3) #[vi (2* (p.x.length:Int))] rfl rfl (by kernel_rfl) fun b50 hb50 hw50=> ?_
    refine ko @zy_ ?_
    refine Ow.permL (M:=D++ ((b10,Obj.cells (pcC p).toArray 194 (0,0)):: (Y++ [(b50, .cells #[vi (2* (p.x.length:Int))] 3 (0,0))]))) (by classical exact List.perm_iff_count.2 fun a=>by simp only[List.count_append,List.count_cons,List.count_nil]<;>omega) ?_
    refine Ow.callX (Y:=((b10,Obj.cells (pcC p).toArray 194 (0,0)):: (Y++ [(b50, .cells #[vi (2* (p.x.length:Int))] 3 (0,0))]))) (by simp) rfl rfl Tryz.call37 (fun w' hw' hX hn=>jH_ b8 D _ _ b50 0 [2* (p.x.length:Int)] _ _ _ w' hB hX hn (OneS.lit [2* (p.x.length:Int)] rfl rfl (hw'.has b50 (.cells #[vi (2* (p.x.length:Int))] 3 (0,0)) (by simp))) (fun _ hm=>Nat.lt_irrefl _ (zh_ hb50 (by simp only[keys,List.map_cons,List.mem_cons];rw[show(D++Y).map Prod.fst=keys D++keys Y from ze_ _ _];exact .inr (List.mem_append_left _ hm)))) (by rw[List.length_append];simp;omega)) (fun v52 D52 hC52 hS52=> ?_)
    obtain⟨rfl,hB52⟩:=hS52
    rw[aos_,List.append_assoc] at hB52
    have hN52:New w.heap.size D52:=qA_ hC52 hN
    refine Ow.permL (M:=(b10,Obj.cells (pcC p).toArray 194 (0,0)):: (D52++ (Y++ [(b50, .cells #[vi (2* (p.x.length:Int))] 3 (0,0))]))) (by classical exact List.perm_iff_count.2 fun a=>by simp only[List.count_append,List.count_cons,List.count_nil]<;>omega) ?_
    refine ko @zy_ ?_
    first|with_reducible refine ks [] @zy_ ?_|refine kp @zy_ ?_
    refine Ow.buildSlice (e:=9) #[vs p.x] rfl rfl (by kernel_rfl) fun b55 hb55 hw55=> ?_
    refine ko @zy_ ?_
    refine Ow.permL (M:=D52++ ((b10,Obj.cells (pcC p).toArray 194 (0,0)):: (Y++ [(b50, .cells #[vi (2* (p.x.length:Int))] 3 (0,0)),(b55, .cells #[vs p.x] 9 (0,0))]))) (by classical exact List.perm_iff_count.2 fun a=>by simp only[List.count_append,List.count_cons,List.count_nil]<;>omega) ?_
    refine Ow.callX (Y:=((b10,Obj.cells (pcC p).toArray 194 (0,0)):: (Y++ [(b50, .cells #[vi (2* (p.x.length:Int))] 3 (0,0)),(b55, .cells #[vs p.x] 9 (0,0))]))) (by simp) rfl rfl Tryz.call36 (fun w' hw' hX hn=>vu_ b8 D52 _ _ b55 0 [p.x] _ _ _ w' hB52 hX hn (StrS.lit [p.x] rfl rfl (hw'.has b55 (.cells #[vs p.x] 9 (0,0)) (by simp))) (fun _ hm=>Nat.lt_irrefl _ (zh_ hb55 (by simp only[keys,List.map_cons,List.mem_cons];rw[show(D52++ (Y++ [(b50,Obj.cells #[vi (2* (p.x.length:Int))] 3 (0,0))])).map Prod.fst=keys D52++keys (Y++ [(b50,Obj.cells #[vi (2* (p.x.length:Int))] 3 (0,0))]) from ze_ _ _];exact .inr (List.mem_append_left _ hm)))) (by simp only[List.flatten_cons,List.flatten_nil,List.append_nil,List.length_append];omega) (by simp)) (fun v56 D56 hC56 hS56=> ?_)
    obtain⟨rfl,hB56⟩:=hS56
    rw[show([p.x]:List (List UInt8)).flatten=p.x by simp,List.append_assoc,List.append_assoc,←htk] at hB56
    have hN56:New w.heap.size D56:=qA_ hC56 hN52
    refine ko @zy_ ?_
    first|with_reducible refine ks [] @zy_ ?_|refine kp @zy_ ?_
    exact Again.mk ⟨k+1,D56,((b10,Obj.cells (pcC p).toArray 194 (0,0)):: (Y++ [(b50, .cells #[vi (2* (p.x.length:Int))] 3 (0,0)),(b55, .cells #[vs p.x] 9 (0,0))]))⟩ (by show l.length - (k+1)<l.length - k;omega) ⟨hlt,hN56,⟨hw10,hNY.app ⟨hw50,hw55,trivial⟩⟩,hB56⟩ rfl rfl
  ·obtain rfl:k=l.length:=by omega
   have d3:decide ((l.length:Int)< (l.length:Int))=false:=by simp
   rw[List.take_length] at hB hpl
   first|with_reducible refine ks [] (And.intro @zy_ @d3) ?_|refine kp (And.intro @zy_ @d3) ?_
   refine Ow.callX (Y:=Y) (by simp) rfl rfl Tryz.call40 (fun w' hw' hX hn=>xY_ b8 D (H++pcsB b l) w' hB hX hn (by rw[List.length_append];omega)) (fun v58 D58 hC58 hS58=> ?_)
   subst hS58
   have hN58:New w.heap.size D58:=qA_ hC58 hN
   refine ko @zy_ ?_
   first|with_reducible refine ks [] @zy_ ?_|refine kp @zy_ ?_
   refine⟨_,(ke @zy_),hN58.app hNY, ?_⟩
   rfl
 ·rw[if_neg he]
  have e0: ((kO_ b l).2 !=0)=true:=by simpa using he
  refine ko @zy_ ?_
  first|with_reducible refine ks [] (And.intro @zy_ @e0) ?_|refine kp (And.intro @zy_ @e0) ?_
  refine⟨_,(ke @zy_),trivial, ?_⟩
  rfl
end Go.Proofs
end
