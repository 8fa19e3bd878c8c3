/-
  Part 2 of the walk: contracts of the functions that the law reaches, and the calculus they stand on.
  No conditions.
-/
import Derived.Test.YtoecppmpegmfmaaDoorK1
import Derived.Shelf.SlIter.Nil
import Derived.Shelf.SortM.Plain
import Derived.Shelf.SortM.SortNone
import Derived.Ground.GgzProg
import Derived.Ground.SlgmProg
import Derived.ProofKit
import Derived.OpenShut
import Derived.WideKeyArgs
import Derived.ChangeSame
import Derived.ChangeMaps5
import Derived.Lib.LaidTab
import Derived.SliceStrings
import Derived.DataReads
import Derived.Deep.Strs
section
open Go Go.Proofs Go.Sx Go.StP
namespace Go.Proofs
set_option maxRecDepth 10000
set_option maxHeartbeats 400000
set_option linter.unusedSimpArgs false
def wS_ (S:DiskL) (n:Nat) (s:List UInt8):Bool:=decide ((1048576:Int) - ((zH_ S n).data.length:Int)< (s.length:Int)) ||decide (S.max< (kc_ S:Int)) ||decide (S.max - (kc_ S:Int)< (s.length:Int))
def qx_ (S:DiskL) (dir name s:List UInt8):DiskL×Nat:=
 if jA_ S dir [name]≠0 then(S,jA_ S dir [name]) else match atD S dir name with
  |none=>(S,6)
  |some n=>if wS_ S n s=true then(S,8) else if(zp_ S).2≠0 then zp_ S else(V4_ (zp_ S).1 n ⟨(zH_ S n).data++s,(zH_ S n).stl⟩,0)
set_option linter.defProp false
def zG_:=And.intro (And.intro (And.intro (And.intro (@zx_) (@zw_)) (And.intro (@zJ_) (@q5_))) (And.intro (And.intro (@z0_) (@zV_)) (And.intro (@zW_) (@jd_)))) (And.intro (And.intro (And.intro (@jh_) (@xX_)) (And.intro (@xS_) (@Kv_))) (And.intro (And.intro (@wq_) (@aae_)) (And.intro (@Qy_) (And.intro (@Sx.tup2_0) (@Sx.tup2_1)))))
theorem jG_ (X:za_) (G:DkG) (S:DiskL) (dir name s:List UInt8) (w:World) (hX: ∀p,p∈X→w.heap[p.1]? =some p.2) (hn: (keys X).Nodup) (hP:DkP X G S) (hnm:name.length<1099511627776) (hsl:s.length<1099511627776) (hu:kc_ S<4611686018427387904):
  Rets Tryd.prog 13 #[vp G.bd 0,vs dir,vs name,vs s] w (XS w X (fun v D=>v=vi ((qx_ S dir name s).2:Nat)∧DkP D G (qx_ S dir name s).1)):=by
 refine Rets.enterX Tryd.func13 rfl (rs:= [.tmp 8]) Tryd.results13 Tryd.ntmps13 hX hn ?_
 refine kf ?_
 first|with_reducible refine ks [] @zG_ ?_|refine kp @zG_ ?_
 refine Ow.buildSlice (e:=9) #[vs name] rfl rfl (by kernel_rfl) fun b1 hb1 hw1=> ?_
 have hP1:=hP.mono (X':=X++ [(b1,Obj.cells #[vs name] 9 (0,0))]) fun b o h=>zn_ h
 have hE1:=(Ext.refl w X).app (o:=Obj.cells #[vs name] 9 (0,0)) hw1
 have hm1: (b1,Obj.cells #[vs name] 9 (0,0))∈X++ [(b1,Obj.cells #[vs name] 9 (0,0))]:=by simp
 generalize X++ [(b1,Obj.cells #[vs name] 9 (0,0))]=L1 at*
 refine ko @zG_ ?_
 refine Ow.callC rfl rfl Tryd.call21 (fun w' hw'=>Rets.toX (qG_ w' G S dir (vsl b1 0 1 1) [name] (hP1.world hw') (X0_ (hw'.has _ _ hm1)) (by simp) (by simpa using hnm))) (fun B2 v2 D2 hA2 hB2 hN2 hS2=> ?_)
 obtain⟨rfl,hS2⟩:=hS2
 rw[List.append_nil]
 clear hm1 hA2 hN2
 unfold qx_ atD
 rcases hS2 with⟨he,rfl⟩ | ⟨he,k,hk,rfl⟩
 ·rw[if_pos he]
  have e1:=q3_ he
  refine ko @zG_ ?_
  first|with_reducible refine ks [] (And.intro @zG_ @e1) ?_|refine kp (And.intro @zG_ @e1) ?_
  refine⟨_,(ke @zG_), ?_⟩
  exact⟨hE1,rfl,hP1⟩
 ·rw[if_neg (by rw[he];simp),hk]
  have hk3:=(j3_ hk).1
  have hdr:=zc_ (w0:=w) (hP1.dir k hk3)
  obtain⟨os,ms,hos,hms,hnp⟩:=hP1.seen k hk3
  have hso:=zc_ (w0:=w) hos
  have e1: ((0:Int) !=0)=false:=rfl
  refine ko @zG_ ?_
  first|with_reducible refine ks [] (And.intro @zG_ (And.intro @e1 (@hdr))) ?_|refine kp (And.intro @zG_ (And.intro @e1 (@hdr))) ?_
  refine Ow.mapGetG (encK:=vs) (encV:=z6_) (k:=name) (z:=none) rfl rfl Tryd.underlying49 qS_ zrPf rfl rfl hso hms ?_
  rw[hnp.get (hP.ok.seen k hk3).nodup]
  show Ow _ _ _ _ _ _ _ _
  cases hf:zC_ (S.dir k).seen name with
  |none=>
   have hf': (some k).bind (fun k=>zC_ (S.dir k).seen name)=none:=hf
   rw[hf']
   have hp0:z6_ none= .pointer none:=rfl
   refine ko (And.intro @zG_ @hp0) ?_
   first|with_reducible refine ks [] @zG_ ?_|refine kp @zG_ ?_
   refine⟨_,(ke @zG_), ?_⟩
   exact⟨hE1,rfl,hP1⟩
  |some n=>
   have hf': (some k).bind (fun k=>zC_ (S.dir k).seen name)=some n:=hf
   rw[hf']
   have hnl:n<S.files.length:=hP.ok.seenN k hk3 _ (jg_ hf)
   have hfo:=w7_ hP.ok hnl
   have hp: ∀q:Nat,z6_ (some q)=vp q 0:=fun _=>rfl
   have hbk:G.bd∈keys L1:=zb_ hP1.disk
   have hrf:=zc_ (w0:=w) (hP1.file n hnl)
   have hrb:=zc_ (w0:=w) hP1.disk
   have hrf':zm_ w L1 (G.fb.getD n 0)=some (jj_ (zH_ S n)):=hrf
   have hmx:=hP.ok.max
   refine ko (And.intro @zG_ @hp) ?_
   first|with_reducible refine ks [] @zG_ ?_|refine kp @zG_ ?_
   refine Cw.regionS [G.fb.getD n 0,G.bd] [0,1,2,3,4,5,6,7,8,9,10,12,13,14,15,11,16,17,18,19,20,21,22,23,25,24,26,27,28,29,30] [] (by kernel_rfl) (by kernel_rfl) (by kernel_rfl) ?_
   refine kya ?_
   cases h1:decide ((1048576:Int) - ((zH_ S n).data.length:Int)< (s.length:Int)) with
   |true=>
    refine kq (And.intro @zG_ (And.intro @hrf' (And.intro @hrb (@h1)))) ?_
    have hF:wS_ S n s=true:=by unfold wS_;rw[h1];simp
    rw[if_pos hF]
    try with_reducible refine Ow.nil ?_
    first|with_reducible refine ks [] @zG_ ?_|refine kp @zG_ ?_
    refine⟨_,(ke @zG_), ?_⟩
    exact⟨hE1,rfl,hP1⟩
   |false=>
    refine kq (And.intro @zG_ (And.intro @hrf' (And.intro @hrb (@h1)))) ?_
    refine Ow.softA ?_
    refine Ow.callFV rfl Tryd.call9 (fun w' hw'=>wy_ w' G S (hP1.world hw') hu) ?_
    with_reducible refine Ow.nilD ?_
    cases h2:decide (S.max< (kc_ S:Int)) with
    |true=>
     refine kq (And.intro @zG_ (And.intro @hrb (@h2))) ?_
     have hF:wS_ S n s=true:=by unfold wS_;rw[h2];simp
     rw[if_pos hF]
     try with_reducible refine Ow.nil ?_
     first|with_reducible refine ks [] @zG_ ?_|refine kp @zG_ ?_
     refine⟨_,(ke @zG_), ?_⟩
     exact⟨hE1,rfl,hP1⟩
    |false=>
     have h2':=of_decide_eq_false h2
     refine kq (And.intro @zG_ (And.intro @hrb (@h2))) ?_
     refine Ow.softA ?_
     refine Ow.callFV rfl Tryd.call9 (fun w' hw'=>wy_ w' G S (hP1.world hw') hu) ?_
     with_reducible refine Ow.nilD ?_
     cases h3:decide (S.max - (kc_ S:Int)< (s.length:Int)) with
     |true=>
      refine kq (And.intro @zG_ (And.intro @hrb (@h3))) ?_
      have hF:wS_ S n s=true:=by unfold wS_;rw[h3];simp
      rw[if_pos hF]
      try with_reducible refine Ow.nil ?_
      first|with_reducible refine ks [] @zG_ ?_|refine kp @zG_ ?_
      refine⟨_,(ke @zG_), ?_⟩
      exact⟨hE1,rfl,hP1⟩
     |false=>
      have hF:wS_ S n s=false:=by unfold wS_;rw[h1,h2,h3];rfl
      rw[if_neg (by rw[hF];simp)]
      have h1':=of_decide_eq_false h1
      refine kq (And.intro @zG_ (And.intro @hrb (@h3))) ?_
      try with_reducible refine Ow.nil ?_
      first|with_reducible refine ks [] @zG_ ?_|refine kp @zG_ ?_
      refine Ow.callM rfl rfl Tryd.call26 hbk (fun w' hw'=>jZ_ G.bd G.bm S w' hP.ok.fuse (hw'.has _ _ (zi_ hP1.disk))) ?_
      obtain⟨hb1,hb2,hb3⟩:=qW_ S
      have hP2:=hP1.setDisk (zp_ S).1 hb1 hb2 (xf_ hP.ok)
      have hE2:=hE1.setB (b:=G.bd) (o:=qb_ G.bm (zp_ S).1)
      generalize setB L1 G.bd (qb_ G.bm (zp_ S).1)=L2 at*
      by_cases hbn: (zp_ S).2=0
      ·have hlk:=hP2.file n (by rw[hb2];exact hnl)
       have hrd:=zc_ (w0:=w) hlk
       have e2: (((zp_ S).2:Int) !=0)=false:=by rw[hbn];rfl
       rw[if_neg (by rw[hbn];simp)]
       have hP3:=hP2.setFile (n:=n) (by rw[hb2];exact hnl) ⟨(zH_ S n).data++s,(zH_ S n).stl⟩ (km_ (xf_ hP.ok) ⟨by simp only[List.length_append];omega,by simp only[List.length_append];omega⟩)
       have hfe: (zp_ S).1.files.getD n jy_=zH_ S n:=by rw[hb2];rfl
       rw[hfe] at hlk hrd
       refine ko (And.intro @zG_ @e2) ?_
       first|with_reducible refine ks [] (And.intro @zG_ (And.intro @hrd (@hlk))) ?_|refine kp (And.intro @zG_ (And.intro @hrd (@hlk))) ?_
       refine⟨_,(ke @zG_), ?_⟩
       exact⟨hE2.setB,rfl,hP3⟩
      ·have e2:=q3_ hbn
       rw[if_pos hbn]
       refine ko (And.intro @zG_ @e2) ?_
       first|with_reducible refine ks [] @zG_ ?_|refine kp @zG_ ?_
       refine⟨_,(ke @zG_), ?_⟩
       exact⟨hE2,rfl,hP2⟩
end Go.Proofs
end
section
open Go Go.Proofs Go.Sx Go.StP
namespace Go.Proofs
set_option maxRecDepth 10000
set_option maxHeartbeats 400000
set_option linter.unusedSimpArgs false
structure Only (X D:za_) (bs:Nat) (o:Obj):Prop where
 keys:Sx.keys D=Sx.keys X
 at_:Sx.look D bs=some o
 rest: ∀b,b≠bs→Sx.look D b=Sx.look X b
theorem Only.set {X:za_} {bs:Nat} {o o':Obj} (h:Sx.look X bs=some o):Only X (setB X bs o') bs o':=⟨qe_ _ _ _,zF_ h,fun _ hb=>zd_ (Ne.symm hb)⟩
theorem Only.trans {X D D':za_} {bs:Nat} {o o':Obj} (h:Only X D bs o) (h':Only D D' bs o'):Only X D' bs o':=⟨h'.keys.trans h.keys,h'.at_,fun b hb=>(h'.rest b hb).trans (h.rest b hb)⟩
theorem ZO_ (s:List UInt8) (n:Nat):zy_ (some (false,n)) (some (kz_ s)) 0=some (vs s):=(rfl)
theorem aai_ (b:Nat) (n:Nat):zy_ (some (false,n)) (some (wE_ b)) 0=some (vp b 0):=(rfl)
set_option linter.defProp false
def j8_:=And.intro (And.intro (@zx_) (@zw_)) (And.intro (@ZO_) (@aai_))
theorem wU_ (X:za_) (b1 b2 bs fbn:Nat) (a:List UInt8) (o:Obj) (m:List (List UInt8×Option Nat)) (w:World) (hX: ∀p,p∈X→w.heap[p.1]? =some p.2) (hn: (keys X).Nodup)
  (h1:Sx.look X b1=some (wE_ fbn)) (h2:Sx.look X b2=some (kz_ a)) (hs:Sx.look X bs=some o) (hm:j6_ vs z6_ o m):
  Rets Tryd.prog 38 #[vm bs,vp b1 0,vp b2 0] w (XS w X (fun v D=>v=xF_ []∧ ∃o',Only X D bs o'∧j6_ vs z6_ o' (Xv_ a (some fbn) m))):=by
 have r1:=zc_ (w0:=w) h1
 have r2:=zc_ (w0:=w) h2
 refine Rets.enterX Tryd.func38 rfl (rs:= []) Tryd.results38 Tryd.ntmps38 hX hn ?_
 refine kf ?_
 first|with_reducible refine ks [] (And.intro @j8_ (And.intro @r1 (@r2))) ?_|refine kp (And.intro @j8_ (And.intro @r1 (@r2))) ?_
 refine Ow.mapUpdateG (encK:=vs) (encV:=z6_) (k:=a) (v:=some fbn) rfl rfl Tryd.underlying49 qS_ rfl rfl rfl hs hm (fun o' hm'=> ?_)
 refine ko @j8_ ?_
 refine⟨_,(ke @j8_), ?_⟩
 exact⟨(Ext.refl w X).setB,rfl,o',Only.set hs,hm'⟩
theorem wD_ (X:za_) (b1 bs:Nat) (a:List UInt8) (o:Obj) (m:List (List UInt8×Option Nat)) (w:World) (hX: ∀p,p∈X→w.heap[p.1]? =some p.2) (hn: (keys X).Nodup)
  (h1:Sx.look X b1=some (kz_ a)) (hs:Sx.look X bs=some o) (hm:j6_ vs z6_ o m):
  Rets Tryd.prog 41 #[vm bs,vp b1 0] w (XS w X (fun v D=>v=xF_ []∧ ∃o',Only X D bs o'∧j6_ vs z6_ o' (Vk_ a m))):=by
 have r1:=zc_ (w0:=w) h1
 refine Rets.enterX Tryd.func41 rfl (rs:= []) Tryd.results41 Tryd.ntmps41 hX hn ?_
 refine kf ?_
 first|with_reducible refine ks [] (And.intro @j8_ @r1) ?_|refine kp (And.intro @j8_ @r1) ?_
 refine Ow.mapDeleteG (encK:=vs) (encV:=z6_) (k:=a) rfl rfl Tryd.underlying49 qS_ rfl rfl hs hm (fun o' hm'=> ?_)
 refine ko @j8_ ?_
 refine⟨_,(ke @j8_), ?_⟩
 exact⟨(Ext.refl w X).setB,rfl,o',Only.set hs,hm'⟩
theorem Qw_ (X:za_) (b1 b2 bs:Nat) (a b:List UInt8) (o:Obj) (m:List (List UInt8×Option Nat)) (w:World) (hX: ∀p,p∈X→w.heap[p.1]? =some p.2) (hn: (keys X).Nodup)
  (h1:Sx.look X b1=some (kz_ a)) (h2:Sx.look X b2=some (kz_ b)) (hs:Sx.look X bs=some o) (hm:j6_ vs z6_ o m):
  Rets Tryd.prog 30 #[vm bs,vp b1 0,vp b2 0] w (XS w X (fun v D=>v=xF_ []∧ ∃o',Only X D bs o'∧j6_ vs z6_ o' (Vk_ a (Xv_ b (QG_ a none m) m)))):=by
 have r1:=zc_ (w0:=w) h1
 have r2:=zc_ (w0:=w) h2
 refine Rets.enterX Tryd.func30 rfl (rs:= []) Tryd.results30 Tryd.ntmps30 hX hn ?_
 refine kf ?_
 first|with_reducible refine ks [] (And.intro @j8_ (And.intro @r1 (@r2))) ?_|refine kp (And.intro @j8_ (And.intro @r1 (@r2))) ?_
 refine Ow.mapGetG (encK:=vs) (encV:=z6_) (k:=a) (z:=none) rfl rfl Tryd.underlying49 qS_ zrPf rfl rfl (zc_ hs) hm ?_
 refine ko @j8_ ?_
 refine Ow.mapUpdateG (encK:=vs) (encV:=z6_) (k:=b) (v:=QG_ a none m) rfl rfl Tryd.underlying49 qS_ rfl rfl rfl hs hm (fun o1 hm1=> ?_)
 have ho1:Only X (setB X bs o1) bs o1:=Only.set hs
 have hne:b1≠bs:=by
  rintro rfl
  rw[hs] at h1;cases h1
  obtain⟨es,c,h,-⟩:=hm;cases h
 have r3:=zc_ (w0:=w) ((ho1.rest b1 hne).trans h1)
 have hE:=(Ext.refl w X).setB (b:=bs) (o:=o1)
 generalize setB X bs o1=L1 at*
 refine ko @j8_ ?_
 first|with_reducible refine ks [] (And.intro @j8_ @r3) ?_|refine kp (And.intro @j8_ @r3) ?_
 refine Ow.mapDeleteG (encK:=vs) (encV:=z6_) (k:=a) rfl rfl Tryd.underlying49 qS_ rfl rfl ho1.at_ hm1 (fun o' hm'=> ?_)
 refine ko @j8_ ?_
 refine⟨_,(ke @j8_), ?_⟩
 exact⟨hE.setB,rfl,o',ho1.trans (Only.set ho1.at_),hm'⟩
end Go.Proofs
end
section
open Go Go.Proofs Go.Sx Go.StP
namespace Go.Proofs
set_option maxRecDepth 10000
set_option maxHeartbeats 400000
set_option linter.unusedSimpArgs false
def okC (l:NmL) (c:CallL):Prop:=c.kind=1→zC_ l c.a≠none∧c.a≠c.b
theorem NmP.ren {fb:List Nat} {l:NmL} {m:List (List UInt8×Option Nat)} (h:NmP fb l m) (hs:SrtN l) {a b:List UInt8} {n:Nat} (hab:a≠b):NmP fb (Vi_ (qC_ l a) (b,n)) (Vk_ a (Xv_ b (some (fb.getD n 0)) m)):=by
 have h1:=h.put hs.nodup b n
 have h2:=h1.wipe (wI_ (b,n) hs).nodup a
 refine h2.trans (List.Perm.map _ ?_)
 unfold Vi_
 refine(List.Perm.filter _ (qs_ (b,n) (qC_ l b))).trans ?_
 refine List.Perm.trans ?_ (qs_ (b,n) (qC_ (qC_ l a) b)).symm
 have e: (a==b)=false:=beq_eq_false_iff_ne.2 hab
 rw[List.filter_cons]
 simp only[e,Bool.not_false, ↓reduceIte]
 unfold qC_
 rw[List.filter_filter,List.filter_filter]
 refine List.Perm.cons _ (List.Perm.of_eq (List.filter_congr fun p _=>Bool.and_comm _ _))
theorem XH_ {l:NmL} (c:CallL) (h:SrtN l):SrtN (zU_ l c):=by
 unfold zU_
 split
 ·exact wI_ _ h
 ·exact wI_ _ (vk_ _ h)
 ·exact vk_ _ h
theorem kv_ {X:za_} {fb:List Nat} {v:Value} {c:CallL} {bs:Nat} {l:NmL} (hv:FnP X fb v c) (hN:NmM X fb bs l) (hs:SrtN l) (hok:okC l c):
  ∃k cap,v= .func (.func k) #[] cap∧(∀a w,(callFunc k a).run Tryd.prog w= .ok (.enter k a) w)∧ ∀w,(∀p,p∈X→w.heap[p.1]? =some p.2)→(keys X).Nodup→Rets Tryd.prog k (#[vm bs]++cap) w (XS w X (fun r D=>r=xF_ []∧ ∃o',Only X D bs o'∧NmM D fb bs (zU_ l c))):=by
 obtain⟨o,m,ho,hm,hp⟩:=hN
 unfold FnP at hv
 split at hv
 ·rename_i hk
  obtain⟨b1,b2,rfl,h1,h2⟩:=hv
  refine⟨_,_,rfl,Tryd.call38,fun w hX hn=>Rets.mono (wU_ X b1 b2 bs _ c.a o m w hX hn h1 h2 ho hm) ?_⟩
  rintro r D ⟨hE,hr,o',hO,hm'⟩
  refine⟨hE,hr,o',hO,o',_,hO.at_,hm', ?_⟩
  unfold zU_
  rw[hk]
  exact hp.put hs.nodup c.a c.n
 ·rename_i hk
  obtain⟨b1,b2,rfl,h1,h2⟩:=hv
  obtain⟨hf,hab⟩:=hok hk
  refine⟨_,_,rfl,Tryd.call30,fun w hX hn=>Rets.mono (Qw_ X b1 b2 bs c.a c.b o m w hX hn h1 h2 ho hm) ?_⟩
  rintro r D ⟨hE,hr,o',hO,hm'⟩
  refine⟨hE,hr,o',hO,o',_,hO.at_,hm', ?_⟩
  unfold zU_
  rw[hk,hp.get hs.nodup]
  cases e:zC_ l c.a with
  |none=>exact absurd e hf
  |some n=>exact hp.ren hs hab
 ·rename_i h0 h1'
  obtain⟨b1,rfl,h1⟩:=hv
  refine⟨_,_,rfl,Tryd.call41,fun w hX hn=>Rets.mono (wD_ X b1 bs c.a o m w hX hn h1 ho hm) ?_⟩
  rintro r D ⟨hE,hr,o',hO,hm'⟩
  refine⟨hE,hr,o',hO,o',_,hO.at_,hm', ?_⟩
  have e:zU_ l c=qC_ l c.a:=by
   unfold zU_
   split
   ·rename_i e;exact absurd e h0
   ·rename_i e;exact absurd e h1'
   ·rfl
  rw[e]
  exact hp.wipe hs.nodup c.a
end Go.Proofs
end
section
open Go Go.Proofs Go.Sx Go.StP
namespace Go.Proofs
set_option maxRecDepth 10000
set_option maxHeartbeats 400000
set_option linter.unusedSimpArgs false
theorem vh_ {α:Type} {a b:List α} (z:α) (k:Nat) (h:k<a.length): (a++b).getD k z=a.getD k z:=by
 rw[List.getD_eq_getElem?_getD,List.getElem?_append_left h,←List.getD_eq_getElem?_getD]
theorem kD_ {α:Type} {a:List α} (z x:α) {k:Nat} (h:a.length=k): (a++ [x]).getD k z=x:=by
 subst h
 rw[List.getD_eq_getElem?_getD,List.getElem?_append_right (Nat.le_refl _),Nat.sub_self];rfl
def setP (G:DkG) (k:Nat) (v:Value):DkG:={G with p:=fun j=>if j=k then v else G.p j}
theorem XC_ {l:NmL} {c:CallL} {n:Nat} (hl: ∀p,p∈l→p.2<n) (hok:okC l c) (hc:c.kind=0→c.n<n): ∀p,p∈zU_ l c→p.2<n:=by
 intro p hp
 have hput: ∀ {l:NmL} {x:List UInt8×Nat},(∀p,p∈l→p.2<n)→x.2<n→p∈Vi_ l x→p.2<n:=by
  intro l x h1 h2 h3
  rcases List.mem_cons.1 ((qs_ x (qC_ l x.1)).mem_iff.1 h3) with rfl|h3
  ·exact h2
  ·exact h1 _ ((List.mem_filter.1 h3).1)
 unfold zU_ at hp
 split at hp
 ·rename_i hk;exact hput hl (hc hk) hp
 ·rename_i hk
  refine hput (fun q hq=>hl q ((List.mem_filter.1 hq).1)) ?_ hp
  cases e:zC_ l c.a with
  |none=>exact absurd e (hok hk).1
  |some m=>
   have:=hl _ (jg_ e)
   exact this
 ·exact hl _ ((List.mem_filter.1 hp).1)
theorem k4_ {S:DiskL} (h:DkOk S) {k:Nat} (d:DirL) (h1:SrtN d.seen) (h2:SrtN d.stl) (h3: ∀p,p∈d.seen→p.2<S.files.length) (h4: ∀p,p∈d.stl→p.2<S.files.length) (h5: ∀c,c∈d.pend→c.kind=0→c.n<S.files.length):DkOk (zN_ S k d):=by
 refine⟨fun j hj=> ?_,fun j hj=> ?_,fun j hj=> ?_,fun j hj=> ?_,fun j hj=> ?_,h.file,h.fuse,h.max⟩<;>unfold zN_<;>simp only<;>by_cases e:j=k
 ·rw[if_pos e];exact h1
 ·rw[if_neg e];exact h.seen j hj
 ·rw[if_pos e];exact h2
 ·rw[if_neg e];exact h.stl j hj
 ·rw[if_pos e];exact h3
 ·rw[if_neg e];exact h.seenN j hj
 ·rw[if_pos e];exact h4
 ·rw[if_neg e];exact h.stlN j hj
 ·rw[if_pos e];exact h5
 ·rw[if_neg e];exact h.pendN j hj
theorem xy_ {G:DkG} (h: [G.s 0,G.s 1,G.s 2,G.t 0,G.t 1,G.t 2].Nodup) {i j:Nat} (hi:i<3) (hj:j<3): (i≠j→G.s i≠G.s j)∧(i≠j→G.t i≠G.t j)∧G.s i≠G.t j:=by
 simp only[List.nodup_cons,List.mem_cons,List.not_mem_nil,not_or,or_false,List.nodup_nil,and_true,not_false_eq_true] at h
 have a:i=0∨i=1∨i=2:=by omega
 have b:j=0∨j=1∨j=2:=by omega
 rcases a with rfl|rfl|rfl<;>rcases b with rfl|rfl|rfl<;>refine⟨fun hne=> ?_,fun hne=> ?_, ?_⟩<;>first|omega| (exact absurd rfl hne)
theorem acf_ {G:DkG} (h: [G.d 0,G.d 1,G.d 2].Nodup) {i j:Nat} (hi:i<3) (hj:j<3):i≠j→G.d i≠G.d j:=by
 simp only[List.nodup_cons,List.mem_cons,List.not_mem_nil,not_or,or_false,List.nodup_nil,and_true,not_false_eq_true] at h
 have a:i=0∨i=1∨i=2:=by omega
 have b:j=0∨j=1∨j=2:=by omega
 rcases a with rfl|rfl|rfl<;>rcases b with rfl|rfl|rfl<;>intro hne<;>first|omega| (exact absurd rfl hne)
structure DkP.Turn (X L:za_) (G:DkG) (k:Nat):Prop where
 keep: ∀b o,Sx.look X b=some o→b≠G.s k→b≠G.d k→slB (G.p k)≠some b→Sx.look L b=some o
theorem DkP.turn {X L:za_} {G:DkG} {S:DiskL} (h:DkP X G S) {k:Nat} (hk:k<3) {c:CallL} {v v2:Value} {vals:List Value} (hT:DkP.Turn X L G k)
  (hs:NmM L G.fb (G.s k) (zU_ (S.dir k).seen c)) (hd:Sx.look L (G.d k)=some (qF_ (G.s k) (G.t k) v2)) (hv:vals.length=(S.dir k).pend.length)
  (hF: ∀i,i<vals.length→FnP X G.fb (vals.getD i undef) ((S.dir k).pend.getD i jH_)) (hGo:Gr X 66 1 (G.p k) vals.length vals)
  (hGr:Gr L 66 1 v2 (vals.length+1) (vals++ [v])) (hFv:FnP X G.fb v c) (hsl:slB v2=slB (G.p k)∨ ∃b,slB v2=some b∧b∉keys X) (hok:okC (S.dir k).seen c) (hcn:c.kind=0→c.n<S.files.length):
  DkP L (setP G k v2) (zN_ S k ⟨zU_ (S.dir k).seen c,(S.dir k).stl,(S.dir k).pend++ [c]⟩):=by
 have hpk: ∀b o,Sx.look X b=some o→tyO o≠some 66→slB (G.p k)≠some b:=by
  intro b o hb ht e
  obtain⟨arr,ha⟩:=x9_ hGo e
  rw[hb] at ha;cases ha;exact ht rfl
 obtain⟨osk,msk,hosk,hmsk,-⟩:=h.seen k hk
 have hns: ∀b o,Sx.look X b=some o→tyO o≠none→b≠G.s k:=by
  rintro b o hb ht rfl
  rw[hosk] at hb;cases hb;exact ht (zQ_ hmsk)
 have hnd: ∀b o,Sx.look X b=some o→tyO o≠some 52→b≠G.d k:=by
  rintro b o hb ht rfl
  rw[h.dir k hk] at hb;cases hb;exact ht rfl
 have K: ∀b o,Sx.look X b=some o→tyO o≠none→tyO o≠some 52→tyO o≠some 66→Sx.look L b=some o:=fun b o hb h1 h2 h3=>hT.keep b o hb (hns b o hb h1) (hnd b o hb h2) (hpk b o hb h3)
 have KM: ∀b o,Sx.look X b=some o→tyO o=none→b≠G.s k→Sx.look L b=some o:=fun b o hb h1 h2=>hT.keep b o hb h2 (hnd b o hb (by rw[h1];intro e;cases e)) (hpk b o hb (by rw[h1];intro e;cases e))
 have KF: ∀ {w c},FnP X G.fb w c→FnP L G.fb w c:=fun hw=>hw.keep fun b o hb hx=>K b o hb (by rcases hx with⟨s,rfl⟩ | ⟨a,rfl⟩<;>simp[tyO,kz_,wE_]) (by rcases hx with⟨s,rfl⟩ | ⟨a,rfl⟩<;>simp[tyO,kz_,wE_]) (by rcases hx with⟨s,rfl⟩ | ⟨a,rfl⟩<;>simp[tyO,kz_,wE_])
 refine⟨?_, ?_, ?_, ?_, ?_, ?_, ?_,h.len,h.nodf,h.nodm,h.nodd,h.nodb, ?_, ?_⟩
 ·exact K _ _ h.disk (by simp[tyO,qb_]) (by simp[tyO,qb_]) (by simp[tyO,qb_])
 ·obtain⟨o,h1,h2⟩:=h.dirs
  exact⟨o,KM _ _ h1 (zQ_ h2) (h.nodb k hk).1,h2⟩
 ·intro j hj
  by_cases e:j=k
  ·subst e
   show Sx.look L (G.d j)=some (qF_ (G.s j) (G.t j) (if j=j then v2 else G.p j))
   rw[if_pos rfl];exact hd
  ·show Sx.look L (G.d j)=some (qF_ (G.s j) (G.t j) (if j=k then v2 else G.p j))
   rw[if_neg e]
   exact hT.keep _ _ (h.dir j hj) (hns _ _ (h.dir j hj) (by simp[tyO,qF_])) (acf_ h.nodd hj hk e) (hpk _ _ (h.dir j hj) (by simp[tyO,qF_]))
 ·intro j hj
  show NmM L G.fb (G.s j) (if j=k then _ else S.dir j).seen
  by_cases e:j=k
  ·subst e;rw[if_pos rfl];exact hs
  ·rw[if_neg e]
   obtain⟨o,m,h1,h2,h3⟩:=h.seen j hj
   exact⟨o,m,KM _ _ h1 (zQ_ h2) ((xy_ h.nodm hj hk).1 e),h2,h3⟩
 ·intro j hj
  show NmM L G.fb (G.t j) (if j=k then _ else S.dir j).stl
  have e2: (if j=k then⟨zU_ (S.dir k).seen c,(S.dir k).stl,(S.dir k).pend++ [c]⟩ else S.dir j:DirL).stl=(S.dir j).stl:=by
   by_cases e:j=k
   ·subst e;rw[if_pos rfl]
   ·rw[if_neg e]
  rw[e2]
  obtain⟨o,m,h1,h2,h3⟩:=h.stl j hj
  exact⟨o,m,KM _ _ h1 (zQ_ h2) (Ne.symm (xy_ h.nodm hk hj).2.2),h2,h3⟩
 ·intro j hj
  by_cases e:j=k
  ·subst e
   refine⟨vals++ [v], ?_, ?_, ?_⟩
   ·show(vals++ [v]).length=(if j=j then _ else S.dir j:DirL).pend.length
    rw[if_pos rfl,List.length_append,List.length_append,hv];rfl
   ·show Gr L _ 1 (if j=j then v2 else G.p j) (vals++ [v]).length (vals++ [v])
    rw[if_pos rfl,List.length_append];exact hGr
   ·intro i hi
    show FnP L G.fb ((vals++ [v]).getD i undef) ((if j=j then _ else S.dir j:DirL).pend.getD i jH_)
    rw[if_pos rfl]
    rw[List.length_append,List.length_singleton] at hi
    by_cases ei:i=vals.length
    ·subst ei
     rw[kD_ _ _ rfl,kD_ _ _ hv.symm]
     exact KF hFv
    ·rw[vh_ _ _ (by omega),vh_ _ _ (by omega)]
     exact KF (hF i (by omega))
  ·obtain⟨vj,h1,h2,h3⟩:=h.pend j hj
   refine⟨vj, ?_, ?_, ?_⟩
   ·show vj.length=(if j=k then _ else S.dir j:DirL).pend.length
    rw[if_neg e];exact h1
   ·show Gr L _ 1 (if j=k then v2 else G.p j) vj.length vj
    rw[if_neg e]
    refine h2.keep fun b o hb ho=> ?_
    obtain⟨arr,ha⟩:=x9_ h2 hb
    rw[ho] at ha;cases ha
    exact hT.keep _ _ ho (hns _ _ ho (by simp[tyO])) (hnd _ _ ho (by simp[tyO])) (h.nodp j k hj hk e b hb)
   ·intro i hi
    show FnP L G.fb (vj.getD i undef) ((if j=k then _ else S.dir j:DirL).pend.getD i jH_)
    rw[if_neg e]
    exact KF (h3 i hi)
 ·intro n hn
  exact K _ _ (h.file n hn) (by simp[tyO,jj_]) (by simp[tyO,jj_]) (by simp[tyO,jj_])
 ·intro i j hi hj hij b hb
  have key: ∀j,j<3→ ∀b,slB (G.p j)=some b→b∈keys X:=fun j hj b hb=>by
   obtain⟨vj,-,h2,-⟩:=h.pend j hj
   obtain⟨arr,ha⟩:=x9_ h2 hb
   exact zb_ ha
  show slB (if j=k then v2 else G.p j)≠some b
  have hb':slB (if i=k then v2 else G.p i)=some b:=hb
  by_cases ei:i=k
  ·subst ei
   rw[if_pos rfl] at hb'
   rw[if_neg (Ne.symm hij)]
   rcases hsl with e| ⟨b',e,hb2⟩
   ·exact h.nodp i j hi hj hij b (by rw[←e];exact hb')
   ·rw[e] at hb';cases hb'
    exact fun h'=>hb2 (key j hj _ h')
  ·rw[if_neg ei] at hb'
   by_cases ej:j=k
   ·subst ej
    rw[if_pos rfl]
    rcases hsl with e| ⟨b',e,hb2⟩
    ·rw[e];exact h.nodp i j hi hj hij b hb'
    ·rw[e]
     intro h';cases h'
     exact hb2 (key i hi _ hb')
   ·rw[if_neg ej];exact h.nodp i j hi hj hij b hb'
 ·exact k4_ h.ok _ (XH_ c (h.ok.seen k hk)) (h.ok.stl k hk) (XC_ (h.ok.seenN k hk) hok hcn) (h.ok.stlN k hk) (fun d hd h0=>by
   rcases List.mem_append.1 hd with hd|hd
   ·exact h.ok.pendN k hk d hd h0
   ·rw[List.mem_singleton.1 hd] at h0 ⊢;exact hcn h0)
end Go.Proofs
end
section
open Go Go.Proofs Go.Sx Go.StP
namespace Go.Proofs
set_option maxRecDepth 10000
set_option maxHeartbeats 400000
set_option linter.unusedSimpArgs false
def abi_ (S:DiskL) (k:Nat) (c:CallL):DiskL:=zN_ S k ⟨zU_ (S.dir k).seen c,(S.dir k).stl,(S.dir k).pend++ [c]⟩
theorem xP_ (a b:Nat) (v q:Value) (x:Bool) (hq:Value.oneCell' q=true∧q.cells= #[q]):zM_ (some (x,1)) (some (qF_ a b v)) 2 q=some (qF_ a b q):=z8_ [vm a,vm b] [v] [q] [] x _ 52 rfl rfl hq.2 rfl (by simp[hq.1])
set_option linter.defProp false
def jS_:=And.intro (And.intro (@zx_) (And.intro (@zw_) (@zJ_))) (And.intro (And.intro (@q5_) (@z0_)) (And.intro (@zV_) (@zW_)))
theorem Ji_ (X:za_) (G:DkG) (S:DiskL) (k:Nat) (c:CallL) (v:Value) (w:World) (hX: ∀p,p∈X→w.heap[p.1]? =some p.2) (hn: (keys X).Nodup) (hP:DkP X G S) (hk:k<3) (hv:FnP X G.fb v c) (hok:okC (S.dir k).seen c) (hcn:c.kind=0→c.n<S.files.length) (hpl: (S.dir k).pend.length<1000000):
  Rets Tryd.prog 24 #[vp G.bd 0,vp (G.d k) 0,v] w (XS w X (fun r D=>r=vi ((zp_ S).2:Nat)∧if(zp_ S).2≠0 then D=setB X G.bd (qb_ G.bm (zp_ S).1) else∃v2,DkP D (setP G k v2) (abi_ (zp_ S).1 k c))):=by
 obtain⟨fk,cap,rfl,-,-⟩:=kv_ hv (hP.seen k hk) (hP.ok.seen k hk) hok
 refine Rets.enterX Tryd.func24 rfl (rs:= [.tmp 6]) Tryd.results24 Tryd.ntmps24 hX hn ?_
 refine kf ?_
 first|with_reducible refine ks [] @jS_ ?_|refine kp @jS_ ?_
 refine Ow.callM rfl rfl Tryd.call26 (zb_ hP.disk) (fun w' hw'=>jZ_ G.bd G.bm S w' hP.ok.fuse (hw'.has _ _ (zi_ hP.disk))) ?_
 obtain⟨hb1,hb2,hb3⟩:=qW_ S
 have hP1:=hP.setDisk (zp_ S).1 hb1 hb2 (xf_ hP.ok)
 have hE1:=(Ext.refl w X).setB (b:=G.bd) (o:=qb_ G.bm (zp_ S).1)
 have hv1:FnP (setB X G.bd (qb_ G.bm (zp_ S).1)) G.fb (.func (.func fk) #[] cap) c:=hv.keep fun b o ho hx=>zs_ hP.disk ho (by rcases hx with⟨s,rfl⟩ | ⟨a,rfl⟩<;>simp[tyO,qb_,kz_,wE_])
 generalize hL1:setB X G.bd (qb_ G.bm (zp_ S).1)=L1 at*
 by_cases hbn: (zp_ S).2=0
 ·have e2: (((zp_ S).2:Int) !=0)=false:=by rw[hbn];rfl
  have hsk:SrtN ((zp_ S).1.dir k).seen:=hP1.ok.seen k hk
  have hok1:okC ((zp_ S).1.dir k).seen c:=by rw[hb1];exact hok
  obtain⟨fk',cap',he,hfk,hcall⟩:=kv_ hv1 (hP1.seen k hk) hsk hok1
  cases he
  have hdr:=zc_ (w0:=w) (hP1.dir k hk)
  obtain⟨os,ms,hos,hms,-⟩:=hP1.seen k hk
  have hds:G.d k≠G.s k:=by
   intro e
   have h1:=hP1.dir k hk
   rw[e,hos] at h1;cases h1
   obtain⟨es,cl,h,-⟩:=hms;cases h
  obtain⟨vals,hvl,hGr,hF⟩:=hP1.pend k hk
  refine ko (And.intro @jS_ @e2) ?_
  first|with_reducible refine ks [] (And.intro @jS_ @hdr) ?_|refine kp (And.intro @jS_ @hdr) ?_
  refine Ow.callFnXC (b:=vm (G.s k)) (cap:=cap) (ars:= #[vm (G.s k)]++cap) rfl (X:=L1) (Y:= []) (List.append_nil _).symm rfl rfl rfl rfl hfk (fun w' hw' hX' hn'=>hcall w' hX' hn') (fun r D hC hS=> ?_)
  rw[List.append_nil]
  obtain⟨rfl,o',hO,hN2⟩:=hS
  have hE2:=hE1.came0 hC
  have hdl:Sx.look D (G.d k)=some (qF_ (G.s k) (G.t k) (G.p k)):=(hO.rest _ hds).trans (hP1.dir k hk)
  have hdr2:=zc_ (w0:=w) hdl
  have hGD:Gr D 66 1 (G.p k) vals.length vals:=hGr.keep fun b o hb ho=>by
   obtain⟨arr,ha⟩:=x9_ hGr hb
   rw[ho] at ha;cases ha
   refine(hO.rest b ?_).trans ho
   rintro rfl
   rw[hos] at ho;cases ho
   obtain⟨es,cl,h,-⟩:=hms;cases h
  refine ko @jS_ ?_
  first|with_reducible refine ks [] (And.intro @jS_ @hdr2) ?_|refine kp (And.intro @jS_ @hdr2) ?_
  refine Ow.buildSlice (e:=66) #[.func (.func fk) #[] cap] rfl rfl (by kernel_rfl) fun ba hba hwa=> ?_
  refine ko @jS_ ?_
  refine Ow.appendG (e:=66) (k:=1) (new:= [.func (.func fk) #[] cap]) (G.p k) rfl rfl rfl Tryd.underlying50 (id (by kernel_rfl):qk_ Tryd.prog 66=some (false,1)) (by kernel_rfl) (id (by kernel_rfl):qg_ Tryd.prog 66=some .nilFunc) rfl Tryd.underlying50 (by intro k h;cases h) hGD.app (fun w' hw'=>AppX.one1 (hw'.has _ _ (List.mem_append_right _ List.mem_cons_self)) rfl rfl) rfl (by rw[hvl,hb1];omega) (fun v2 L2 hB2 _ hg2 hs2=> ?_)
  have hE3:=(hE2.app (o:= .cells #[.func (.func fk) #[] cap] 66 (0,0)) hwa).grew hg2
  have hpd:slB (G.p k)≠some (G.d k):=fun e=>by
   obtain⟨arr,ha⟩:=x9_ hGD e
   rw[hdl] at ha
   simp[qF_] at ha
  have hd2:Sx.look L2 (G.d k)=some (qF_ (G.s k) (G.t k) (G.p k)):=hg2.look _ _ hpd (zn_ hdl)
  have hr2:=zc_ (w0:=w) hd2
  have st:=fun x=>xP_ (G.s k) (G.t k) (G.p k) v2 x hB2.cell
  refine ko @jS_ ?_
  first|with_reducible refine ks [] (And.intro @jS_ (And.intro @hd2 (@st))) ?_|refine kp (And.intro @jS_ (And.intro @hd2 (@st))) ?_
  refine⟨_,(ke @jS_), ?_⟩
  refine⟨hE3.setB,by rw[hbn];rfl, ?_⟩
  rw[if_neg (by rw[hbn];simp)]
  have hAb: ∀b,qo_ (D++ [(ba, .cells #[.func (.func fk) #[] cap] 66 (0,0))]) b→b∉keys L1:=fun b hb hm=>by
   have:=zB_ hb (b:=b) (by rw[zk_,hO.keys];exact List.mem_append_left _ hm)
   omega
  have hkd: ∀b o,Sx.look L1 b=some o→b≠G.s k→b≠G.d k→slB (G.p k)≠some b→Sx.look (setB L2 (G.d k) (qF_ (G.s k) (G.t k) v2)) b=some o:=fun b o hb h1 h2 h3=>by
   rw[zd_ (Ne.symm h2)]
   exact hg2.look _ _ h3 (zn_ ((hO.rest b h1).trans hb))
  obtain⟨oN,mN,hN3,hN4,hN5⟩:=hN2
  have hps:slB (G.p k)≠some (G.s k):=fun e=>by
   obtain⟨arr,ha⟩:=x9_ hGr e
   rw[hos] at ha;cases ha
   obtain⟨es,cl,h,-⟩:=hms;cases h
  have hv2d:slB v2≠some (G.d k):=fun e=>by
   rcases hs2 with h| ⟨b',h,ha⟩
   ·exact hpd (by rw[←h];exact e)
   ·rw[h] at e;cases e
    exact hAb _ ha (zb_ (hP1.dir k hk))
  refine⟨v2,hP1.turn hk (c:=c) (v:= .func (.func fk) #[] cap) (v2:=v2) (vals:=vals) ⟨hkd⟩ ⟨oN,mN, ?_,hN4,hN5⟩ (zF_ hd2) hvl hF hGr (hB2.keep fun b o hb ho=> ?_) hv1 (hs2.imp id fun⟨b',h,ha⟩=>⟨b',h,hAb _ ha⟩) hok1 (by rw[hb2];exact hcn)⟩
  ·rw[zd_ hds]
   exact hg2.look _ _ hps (zn_ hN3)
  ·rw[zd_ (by rintro rfl;exact hv2d hb)];exact ho
 ·have e2:=q3_ hbn
  refine ko (And.intro @jS_ @e2) ?_
  first|with_reducible refine ks [] @jS_ ?_|refine kp @jS_ ?_
  refine⟨_,(ke @jS_), ?_⟩
  refine⟨hE1,rfl, ?_⟩
  rw[if_pos hbn]
end Go.Proofs
end
section
open Go Go.Proofs Go.Sx Go.StP
namespace Go.Proofs
set_option maxRecDepth 10000
set_option maxHeartbeats 400000
set_option linter.unusedSimpArgs false
def addF (G:DkG) (bf:Nat):DkG:={G with fb:=G.fb++ [bf]}
def vx_ (S:DiskL) (f:FileL):DiskL:={S with files:=S.files++ [f]}
theorem aa2_ {S:DiskL} (h:DkOk S) {f:FileL} (hf:f.data.length≤1048576∧f.stl≤f.data.length):DkOk (vx_ S f):=by
 have e: (vx_ S f).files.length=S.files.length+1:=by unfold vx_;simp
 refine⟨h.seen,h.stl,fun k hk p hp=>by rw[e];exact Nat.lt_succ_of_lt (h.seenN k hk p hp),fun k hk p hp=>by rw[e];exact Nat.lt_succ_of_lt (h.stlN k hk p hp),fun k hk c hc h0=>by rw[e];exact Nat.lt_succ_of_lt (h.pendN k hk c hc h0),fun g hg=> ?_,h.fuse,h.max⟩
 rcases List.mem_append.1 hg with hg|hg
 ·exact h.file g hg
 ·rw[List.mem_singleton.1 hg];exact hf
theorem ab6_ {fb:List Nat} {bf n:Nat} (h:n<fb.length): (fb++ [bf]).getD n 0=fb.getD n 0:=vh_ 0 n h
theorem DkP.addFile {X:za_} {G:DkG} {S:DiskL} (h:DkP X G S) {bf:Nat} {f:FileL} (hb:Sx.look X bf=some (jj_ f)) (hn:bf∉G.fb) (hf:f.data.length≤1048576∧f.stl≤f.data.length):DkP X (addF G bf) (vx_ S f):=by
 have hl:=h.len
 have hNm: ∀ {b:Nat} {l:NmL},(∀p,p∈l→p.2<S.files.length)→NmM X G.fb b l→NmM X (G.fb++ [bf]) b l:=by
  rintro b l hlt ⟨o,m,h1,h2,h3⟩
  exact⟨o,m,h1,h2,h3.mono fun p hp=>ab6_ (by have:=hlt p hp;omega)⟩
 refine⟨h.disk,h.dirs,h.dir,fun k hk=>hNm (h.ok.seenN k hk) (h.seen k hk),fun k hk=>hNm (h.ok.stlN k hk) (h.stl k hk),fun k hk=> ?_,fun n hn'=> ?_, ?_, ?_,h.nodm,h.nodd,h.nodb,h.nodp,aa2_ h.ok hf⟩
 ·obtain⟨vals,h1,h2,h3⟩:=h.pend k hk
  refine⟨vals,h1,h2,fun i hi=> ?_⟩
  have hF:=h3 i hi
  have hm: ((S.dir k).pend.getD i jH_)∈ (S.dir k).pend:=by
   rw[List.getD_eq_getElem?_getD,List.getElem?_eq_getElem (by omega)];exact List.getElem_mem _
  have hc:=h.ok.pendN k hk _ hm
  show FnP X (G.fb++ [bf]) (vals.getD i undef) ((S.dir k).pend.getD i jH_)
  generalize (S.dir k).pend.getD i jH_=c at*
  unfold FnP at hF ⊢
  split at hF
  ·rename_i hk0
   rw[ab6_ (by have:=hc hk0;omega)]
   exact hF
  ·exact hF
  ·exact hF
 ·have hn2:n<S.files.length+1:=by
   have: (vx_ S f).files.length=S.files.length+1:=by unfold vx_;simp
   omega
  show Sx.look X ((G.fb++ [bf]).getD n 0)=some (jj_ ((S.files++ [f]).getD n jy_))
  by_cases e:n=S.files.length
  ·subst e
   rw[kD_ _ _ hl,kD_ _ _ rfl];exact hb
  ·rw[vh_ _ _ (by omega),vh_ _ _ (by omega)]
   exact h.file n (by omega)
 ·show(G.fb++ [bf]).length=(S.files++ [f]).length
  rw[List.length_append,List.length_append,hl];rfl
 ·show(G.fb++ [bf]).Nodup
  refine List.nodup_append.2 ⟨h.nodf,by simp,fun a ha b hb'=> ?_⟩
  rw[List.mem_singleton.1 hb']
  rintro rfl;exact hn ha
theorem Wj_:vc_ (plcT Tryd.prog 54) (qg_ Tryd.prog 54) []=some (.agg #[vs [],vi 0]):=by
 rw[show plcT Tryd.prog 54=some [(0,1),(1,1)] from id (by kernel_rfl),show qg_ Tryd.prog 54=some (.agg #[vs [],vi 0]) from id (by kernel_rfl)];rfl
theorem afu_:qg_ Tryd.prog 48=some (.pointer none):=zrPf
theorem Wu_ (b:Nat) (a:Bool):zM_ (some (a,1)) (some (.cells (Value.pointer none).cells 48 (0,0))) 0 (vp b 0)=some (wE_ b):=
 z8_ [] [.pointer none] [vp b 0] [] a _ 48 rfl rfl rfl rfl rfl
set_option linter.defProp false
def kx_:=And.intro (@zx_) (And.intro (@zw_) (@Wu_))
theorem vQ_ (name:List UInt8) (w:World):Rets Tryd.prog 25 #[vs name] w (XS w [] (fun v D=> ∃bp bn bf,v= .func (.func 38) #[] #[vp bp 0,vp bn 0]∧Sx.look D bp=some (wE_ bf)∧Sx.look D bn=some (kz_ name)∧Sx.look D bf=some (jj_ jy_))):=by
 refine Rets.enterX Tryd.func25 rfl (rs:= [.tmp 2]) Tryd.results25 Tryd.ntmps25 (fun p hp=>by cases hp) (by simp[keys]) ?_
 refine kf ?_
 first|with_reducible refine ks [] @kx_ ?_|refine kp @kx_ ?_
 refine Ow.box rfl rfl fun bn hbn hwn=> ?_
 simp only[ji_,jf_,jx_,List.nil_append]
 refine ko @kx_ ?_
 first|with_reducible refine ks [] @kx_ ?_|refine kp @kx_ ?_
 refine Ow.build (.agg #[vs [],vi 0]) rfl Wj_ ?_
 refine ko @kx_ ?_
 refine Ow.box rfl rfl fun bf hbf hwf=> ?_
 simp only[ji_,jf_,jx_,zZ_]
 refine ko @kx_ ?_
 refine Ow.alloc rfl rfl afu_ fun bp hbp hwp=> ?_
 have h1:bn<bf:=zB_ hbf (by simp[keys])
 have h2:bn<bp:=zB_ hbp (by simp[keys])
 have h3:bf<bp:=zB_ hbp (by simp[keys])
 refine Ow.permL (M:= [(bp, .cells (Value.pointer none).cells 48 (0,0)),(bf, .cells #[vs [],vi 0] 54 (0,0)),(bn, .cells (vs name).cells 9 (0,0))]) (by classical exact List.perm_iff_count.2 fun a=>by simp only[List.count_append,List.count_cons,List.count_nil]<;>omega) ?_
 refine ko @kx_ ?_
 first|with_reducible refine ks [] @kx_ ?_|refine kp @kx_ ?_
 refine⟨_,(ke @kx_), ?_⟩
 refine⟨Ext.of_new ⟨hwp,hwf,hwn,trivial⟩,bp,bn,bf, ?_, ?_, ?_, ?_⟩
 ·simp only[xF_,List.map_toArray,List.map_cons,List.map_nil,ji_,jf_,jx_]
 ·simp[Sx.look]
 ·simp[Sx.look,show bp≠bn by omega,show bf≠bn by omega];rfl
 ·simp[Sx.look,show bp≠bf by omega];rfl
end Go.Proofs
end
section
open Go Go.Proofs Go.Sx Go.StP
namespace Go.Proofs
set_option maxRecDepth 10000
set_option maxHeartbeats 400000
set_option linter.unusedSimpArgs false
def jm_ (S:DiskL) (dir name:List UInt8):DiskL×Nat:=
 if jA_ S dir [name]≠0 then(S,jA_ S dir [name]) else match atD S dir name with
  |some _=>(S,7)
  |none=>if(zp_ S).2≠0 then zp_ S else(abi_ (vx_ (zp_ S).1 jy_) ((qM_ dir).getD 0) ⟨0,name,[],S.files.length⟩,0)
theorem KX_ (S:DiskL) (f:FileL):zp_ (vx_ S f)=(vx_ (zp_ S).1 f,(zp_ S).2):=by
 unfold zp_
 by_cases h1:S.fused=true∧S.fuse=0
 ·rw[if_pos h1,if_pos (by exact h1)];rfl
 ·rw[if_neg h1,if_neg (by exact h1)]
  by_cases h2:S.fused=true
  ·rw[if_pos h2,if_pos (by exact h2)];rfl
  ·rw[if_neg h2,if_neg (by exact h2)]
theorem adP_ (b o:Nat):qq_ Tryd.prog .neq 48 (vp b o) (.pointer none)=some (.bool true):=by
 simp[qq_,eqX,qu_,qd_,Tryd.underlying48,vp]
theorem ady_:qq_ Tryd.prog .neq 48 (.pointer none) (.pointer none)=some (.bool false):=by
 simp[qq_,eqX,qu_,qd_,Tryd.underlying48]
theorem vf_ {L D:za_} {B:Nat} (hA:qo_ L B) (hN:New B D) {b:Nat} {o:Obj} (h:Sx.look D b=some o):Sx.look (L++D) b=some o:=by
 rw[qn_ (fun hm=>by have:=zB_ hA hm;have:=hN.le b (zb_ h);omega)];exact h
theorem DkP.fb_key {X:za_} {G:DkG} {S:DiskL} (h:DkP X G S) {b:Nat} (hb:b∈G.fb):b∈keys X:=by
 obtain⟨n,hn,rfl⟩:=List.getElem_of_mem hb
 have:=h.file n (by rw[←h.len];exact hn)
 rw[List.getD_eq_getElem?_getD,List.getElem?_eq_getElem hn] at this
 exact zb_ this
set_option linter.defProp false
def qT_:=And.intro (And.intro (And.intro (And.intro (@zx_) (@zw_)) (And.intro (@zJ_) (@q5_))) (And.intro (And.intro (@z0_) (@zV_)) (And.intro (@zW_) (And.intro (@jd_) (@jh_))))) (And.intro (And.intro (And.intro (@ZO_) (@Kv_)) (And.intro (@wq_) (@aae_))) (And.intro (And.intro (@Qy_) (@adP_)) (And.intro (@ady_) (And.intro (@Sx.tup2_0) (@Sx.tup2_1)))))
theorem Z1_ (X:za_) (G:DkG) (S:DiskL) (dir name:List UInt8) (w:World) (hX: ∀p,p∈X→w.heap[p.1]? =some p.2) (hn: (keys X).Nodup) (hP:DkP X G S) (hnm:name.length<1099511627776) (hpl: ∀k,k<3→(S.dir k).pend.length<1000000):
  Rets Tryd.prog 12 #[vp G.bd 0,vs dir,vs name] w (XS w X (fun v D=>v=vi ((jm_ S dir name).2:Nat)∧ ∃G',G'.bd=G.bd∧DkP D G' (jm_ S dir name).1)):=by
 refine Rets.enterX Tryd.func12 rfl (rs:= [.tmp 6]) Tryd.results12 Tryd.ntmps12 hX hn ?_
 refine kf ?_
 first|with_reducible refine ks [] @qT_ ?_|refine kp @qT_ ?_
 refine Ow.buildSlice (e:=9) #[vs name] rfl rfl (by kernel_rfl) fun b1 hb1 hw1=> ?_
 have hP1:=hP.mono (X':=X++ [(b1,Obj.cells #[vs name] 9 (0,0))]) fun b o h=>zn_ h
 have hE1:=(Ext.refl w X).app (o:=Obj.cells #[vs name] 9 (0,0)) hw1
 have hm1: (b1,Obj.cells #[vs name] 9 (0,0))∈X++ [(b1,Obj.cells #[vs name] 9 (0,0))]:=by simp
 generalize X++ [(b1,Obj.cells #[vs name] 9 (0,0))]=L1 at*
 refine ko @qT_ ?_
 refine Ow.callC rfl rfl Tryd.call21 (fun w' hw'=>Rets.toX (qG_ w' G S dir (vsl b1 0 1 1) [name] (hP1.world hw') (X0_ (hw'.has _ _ hm1)) (by simp) (by simpa using hnm))) (fun B2 v2 D2 hA2 hB2 hN2 hS2=> ?_)
 obtain⟨rfl,hS2⟩:=hS2
 rw[List.append_nil]
 clear hm1 hA2 hN2
 unfold jm_ atD
 rcases hS2 with⟨he,rfl⟩ | ⟨he,k,hk,rfl⟩
 ·have e1:=q3_ he
  refine ko @qT_ ?_
  first|with_reducible refine ks [] (And.intro @qT_ @e1) ?_|refine kp (And.intro @qT_ @e1) ?_
  refine⟨_,(ke @qT_), ?_⟩
  rw[if_pos he]
  exact⟨hE1,rfl,G,rfl,hP1⟩
 ·have he': ¬ (jA_ S dir [name]≠0):=by rw[he];simp
  have hk3:=(j3_ hk).1
  have hdr:=zc_ (w0:=w) (hP1.dir k hk3)
  obtain⟨os,ms,hos,hms,hnp⟩:=hP1.seen k hk3
  have hso:=zc_ (w0:=w) hos
  have e1: ((0:Int) !=0)=false:=rfl
  refine ko @qT_ ?_
  first|with_reducible refine ks [] (And.intro @qT_ (And.intro @e1 (@hdr))) ?_|refine kp (And.intro @qT_ (And.intro @e1 (@hdr))) ?_
  refine Ow.mapGetG (encK:=vs) (encV:=z6_) (k:=name) (z:=none) rfl rfl Tryd.underlying49 qS_ zrPf rfl rfl hso hms ?_
  rw[hnp.get (hP.ok.seen k hk3).nodup]
  show Ow _ _ _ _ _ _ _ _
  have hq: (qM_ dir).bind (fun k=>zC_ (S.dir k).seen name)=zC_ (S.dir k).seen name:=by rw[hk];rfl
  cases hf:zC_ (S.dir k).seen name with
  |some n=>
   have hp: ∀q:Nat,z6_ (some q)=vp q 0:=fun _=>rfl
   refine ko (And.intro @qT_ @hp) ?_
   first|with_reducible refine ks [] @qT_ ?_|refine kp @qT_ ?_
   refine⟨_,(ke @qT_), ?_⟩
   rw[if_neg he',hq,hf]
   exact⟨hE1,rfl,G,rfl,hP1⟩
  |none=>
   have hp0:z6_ none= .pointer none:=rfl
   refine ko (And.intro @qT_ @hp0) ?_
   first|with_reducible refine ks [] @qT_ ?_|refine kp @qT_ ?_
   refine Ow.callC rfl rfl Tryd.call25 (fun w' hw'=>vQ_ name w') (fun B3 v3 D3 hA3 hB3 hN3 hS3=> ?_)
   obtain⟨bp,bn,bf,rfl,hbp,hbn,hbf⟩:=hS3
   have hP2:=hP1.mono (X':=L1++D3) fun b o h=>zn_ h
   have hbp2:=vf_ hA3 hN3 hbp
   have hbn2:=vf_ hA3 hN3 hbn
   have hbf2:=vf_ hA3 hN3 hbf
   have hnf:bf∉G.fb:=fun hm=>by
    have h1:=zB_ hA3 (hP1.fb_key hm)
    have h2:=hN3.le bf (zb_ hbf)
    omega
   have hP3:=hP2.addFile hbf2 hnf (f:=jy_) ⟨by decide,by decide⟩
   have hE2:Ext w X (L1++D3):=⟨fun c hc=>by
    rw[zk_] at hc
    rcases List.mem_append.1 hc with hc|hc
    ·exact hE1.new c hc
    ·exact .inr (Nat.le_trans hB3 (hN3.le c hc)),fun c hc=>by rw[zk_];exact List.mem_append_left _ (hE1.all c hc)⟩
   generalize L1++D3=L3 at*
   refine ko @qT_ ?_
   refine Ow.callX (X:=L3) (Y:= []) (List.append_nil _).symm rfl rfl Tryd.call24 (fun w' hw' hX' hn'=>Ji_ L3 (addF G bf) (vx_ S jy_) k ⟨0,name,[],S.files.length⟩ _ w' hX' hn' hP3 hk3 ⟨bp,bn,rfl,by show Sx.look L3 bp=some (wE_ ((G.fb++ [bf]).getD S.files.length 0));rw[kD_ _ _ hP.len];exact hbp2,hbn2⟩ (fun h=>by cases h) (fun _=>by show S.files.length< (S.files++ [jy_]).length;simp) (hpl k hk3)) (fun v4 D4 hC4 hS4=> ?_)
   rw[KX_] at hS4
   obtain⟨rfl,hS4⟩:=hS4
   simp only at hS4
   have hE4:=hE2.came0 hC4
   rw[List.append_nil]
   refine ko @qT_ ?_
   first|with_reducible refine ks [] @qT_ ?_|refine kp @qT_ ?_
   refine⟨_,(ke @qT_), ?_⟩
   rw[if_neg he',hq,hf]
   simp only
   by_cases hbn': (zp_ S).2=0
   ·rw[if_neg (by rw[hbn'];simp)] at hS4
    rw[if_neg (by rw[hbn'];simp)]
    obtain⟨v5,hP5⟩:=hS4
    rw[hk]
    exact⟨hE4,by rw[hbn'];rfl,setP (addF G bf) k v5,rfl,hP5⟩
   ·rw[if_pos hbn'] at hS4
    rw[if_pos hbn']
    subst hS4
    obtain⟨hb1,hb2,hb3⟩:=qW_ S
    exact⟨hE4,rfl,G,rfl,hP2.setDisk (zp_ S).1 hb1 hb2 (xf_ hP.ok)⟩
end Go.Proofs
end
section
open Go Go.Proofs Go.Sx Go.StP
namespace Go.Proofs
set_option maxRecDepth 10000
set_option maxHeartbeats 400000
set_option linter.unusedSimpArgs false
structure CpG where
 L:za_
 it:Obj
 o:Obj
 dn:List (List UInt8×Option Nat)
 lf:List (List UInt8×Option Nat)
theorem kK_ {α β:Type} [BEq α] [LawfulBEq α] {k:α} {v:β}: ∀ {m:List (α×β)},(∀p,p∈m→p.1≠k)→Xv_ k v m=m++ [(k,v)]
 | [],_=>rfl
 |p::r,h=>by
  have h1: (k==p.1)=false:=beq_eq_false_iff_ne.2 fun e=>h p List.mem_cons_self e.symm
  unfold Xv_
  rw[if_neg (by rw[h1];simp),kK_ fun q hq=>h q (List.mem_cons_of_mem _ hq)];rfl
set_option linter.defProp false
def q8_:=And.intro (And.intro (And.intro (@zx_) (@zw_)) (And.intro (@Sx.tup2_0) (@Sx.tup2_1))) (And.intro (And.intro (@wo_) (@Sx.tup3_0)) (And.intro (@Sx.tup3_1) (@Sx.tup3_2)))
theorem K9_ (X:za_) (bt bs:Nat) (ot os:Obj) (m:List (List UInt8×Option Nat)) (w:World) (hX: ∀p,p∈X→w.heap[p.1]? =some p.2) (hn: (keys X).Nodup)
  (ht:Sx.look X bt=some ot) (hmt:j6_ vs z6_ ot ([]:List (List UInt8×Option Nat))) (hs:Sx.look X bs=some os) (hms:j6_ vs z6_ os m) (hne:bt≠bs) (hnd: (m.map Prod.fst).Nodup):
  Rets Tryd.prog 39 #[vm bt,vm bs] w (XS w X (fun v D=>v=xF_ []∧(∀b o,b≠bt→Sx.look X b=some o→Sx.look D b=some o)∧ ∃o' m',Sx.look D bt=some o'∧j6_ vs z6_ o' m'∧m'.Perm m)):=by
 refine Rets.enterX Tryd.func39 rfl (rs:= []) Tryd.results39 Tryd.ntmps39 hX hn ?_
 refine kf ?_
 first|with_reducible refine ks [] @q8_ ?_|refine kp @q8_ ?_
 refine Ow.rangeMapG (encK:=vs) (encV:=z6_) rfl rfl Tryd.underlying49 rfl (zc_ hs) hms fun bi oi hbi hwi hI=> ?_
 have hbiX: ∀b o,Sx.look X b=some o→b≠bi:=fun b o hb e=>by
  have:=zB_ hbi (zb_ hb)
  omega
 refine ko @q8_ ?_
 first|with_reducible refine ks [] @q8_ ?_|refine kp @q8_ ?_
 refine Cw.loopG (G:=CpG) [8,9,10,11,12,4,5,13,14,15] (fun g=> []) (fun g=>g.L) (fun g=>Sx.look g.L bi=some g.it∧Sx.look g.L bt=some g.o∧j6_ vs z6_ g.o g.dn∧(∀b o,b≠bt→Sx.look X b=some o→Sx.look g.L b=some o)∧Ext w X g.L∧ItG vs z6_ g.it bs os m g.dn g.lf) (fun g=>g.lf.length) ⟨X++ [(bi,oi)],oi,ot,[],m⟩ rfl rfl ?_ ?_
 ·exact⟨qU_ hbi,zn_ ht,hmt,fun b o _ hb=>zn_ hb,(Ext.refl w X).app hwi,hI⟩
 intro g j hg
 refine kv ?_
 clear hI
 obtain⟨L,it,o,dn,lf⟩:=g
 simp only at hg ⊢
 obtain⟨hli,hlt,hmo,hkeep,hE,hI⟩:=hg
 have hls:=hkeep bs os (Ne.symm hne) hs
 have hit:bt≠bi:=hbiX _ _ ht
 have hsi:bs≠bi:=hbiX _ _ hs
 first|with_reducible refine ks [] @q8_ ?_|refine kp @q8_ ?_
 refine Ow.nextMapG rfl rfl rfl hli (zc_ hls) hI (fun hlf=> ?_) (fun p it' lf' hl' hI'=> ?_)
 ·subst hlf
  have hp:=jX_ hI
  rw[List.append_nil] at hp
  refine ko @q8_ ?_
  first|with_reducible refine ks [] @q8_ ?_|refine kp @q8_ ?_
  refine⟨_,(ke @q8_), ?_⟩
  exact⟨hE,rfl,hkeep,o,dn,hlt,hmo,hp⟩
 ·have h1:Sx.look (setB L bi it') bi=some it':=zF_ hli
  have h2:Sx.look (setB L bi it') bt=some o:=by rw[zd_ (Ne.symm hit)];exact hlt
  have h3:Sx.look (setB L bi it') bs=some os:=by rw[zd_ (Ne.symm hsi)];exact hls
  have h4: ∀b o,b≠bt→Sx.look X b=some o→Sx.look (setB L bi it') b=some o:=fun b o hb hx=>by rw[zd_ (Ne.symm (hbiX _ _ hx))];exact hkeep b o hb hx
  have hE1:=hE.setB (b:=bi) (o:=it')
  generalize setB L bi it'=L1 at*
  refine ko @q8_ ?_
  first|with_reducible refine ks [] @q8_ ?_|refine kp @q8_ ?_
  refine Ow.entryMapG (encK:=vs) (encV:=z6_) rfl rfl rfl (zc_ h1) (zc_ h3) hI' ?_
  obtain⟨s,q⟩:=p
  have hp:=jX_ hI'
  have hds: ∀p,p∈dn→p.1≠s:=by
   have h5:=((hp.map Prod.fst).nodup_iff).2 hnd
   rw[List.map_append,List.map_append,List.nodup_append] at h5
   have h6:=h5.1
   rw[List.nodup_append] at h6
   intro p hp' e
   exact h6.2.2 p.1 (List.mem_map_of_mem hp') s (by simp) e
  refine ko @q8_ ?_
  first|with_reducible refine ks [] @q8_ ?_|refine kp @q8_ ?_
  refine Ow.mapUpdateG (encK:=vs) (encV:=z6_) (k:=s) (v:=q) rfl rfl Tryd.underlying49 qS_ rfl rfl rfl h2 hmo (fun o2 hm2=> ?_)
  rw[kK_ hds] at hm2
  refine ko @q8_ ?_
  first|with_reducible refine ks [] @q8_ ?_|refine kp @q8_ ?_
  exact Again.mk ⟨setB L1 bt o2,it',o2,dn++ [(s,q)],lf'⟩ (by show lf'.length<lf.length;omega) ⟨by show Sx.look (setB L1 bt o2) bi=_;rw[zd_ hit];exact h1,zF_ h2,hm2,fun b o hb hx=>by show Sx.look (setB L1 bt o2) b=_;rw[zd_ (Ne.symm hb)];exact h4 b o hb hx,hE1.setB,hI'⟩ rfl rfl
end Go.Proofs
end
section
open Go Go.Proofs Go.Sx Go.StP
namespace Go.Proofs
set_option maxRecDepth 10000
set_option maxHeartbeats 400000
set_option linter.unusedSimpArgs false
def aaN_ (G:DkG) (k s':Nat):DkG:={G with s:=fun j=>if j=k then s' else G.s j,p:=fun j=>if j=k then .slice none 0 0 else G.p j}
theorem DkP.calm {X L:za_} {G:DkG} {S:DiskL} (h:DkP X G S) {k:Nat} (hk:k<3) {s':Nat} (d:DirL) (hd0:d.pend= [])
  (keep: ∀b o,Sx.look X b=some o→b≠G.t k→b≠G.d k→Sx.look L b=some o) (hs:NmM L G.fb s' d.seen) (ht:NmM L G.fb (G.t k) d.stl)
  (hd:Sx.look L (G.d k)=some (qF_ s' (G.t k) (.slice none 0 0))) (hsn:s'=G.s k∨s'∉keys X) (h1:SrtN d.seen) (h2:SrtN d.stl) (h3: ∀p,p∈d.seen→p.2<S.files.length) (h4: ∀p,p∈d.stl→p.2<S.files.length):
  DkP L (aaN_ G k s') (zN_ S k d):=by
 obtain⟨otk,mtk,hotk,hmtk,-⟩:=h.stl k hk
 have hnt: ∀b o,Sx.look X b=some o→tyO o≠none→b≠G.t k:=by
  rintro b o hb ht rfl
  rw[hotk] at hb;cases hb;exact ht (zQ_ hmtk)
 have hnd: ∀b o,Sx.look X b=some o→tyO o≠some 52→b≠G.d k:=by
  rintro b o hb ht rfl
  rw[h.dir k hk] at hb;cases hb;exact ht rfl
 have K: ∀b o,Sx.look X b=some o→tyO o≠none→tyO o≠some 52→Sx.look L b=some o:=fun b o hb h1 h2=>keep b o hb (hnt b o hb h1) (hnd b o hb h2)
 have KM: ∀b o,Sx.look X b=some o→tyO o=none→b≠G.t k→Sx.look L b=some o:=fun b o hb h1 h2=>keep b o hb h2 (hnd b o hb (by rw[h1];intro e;cases e))
 have KF: ∀ {w c},FnP X G.fb w c→FnP L G.fb w c:=fun hw=>hw.keep fun b o hb hx=>K b o hb (by rcases hx with⟨s,rfl⟩ | ⟨a,rfl⟩<;>simp[tyO,kz_,wE_]) (by rcases hx with⟨s,rfl⟩ | ⟨a,rfl⟩<;>simp[tyO,kz_,wE_])
 have hs1: ∀j,j<3→j≠k→s'≠G.s j:=fun j hj hjk=>by
  rcases hsn with e|e
  ·rw[e];exact(xy_ h.nodm hk hj).1 (Ne.symm hjk)
  ·obtain⟨o,m,ho,-⟩:=h.seen j hj
   rintro rfl;exact e (zb_ ho)
 have hs2: ∀j,j<3→s'≠G.t j:=fun j hj=>by
  rcases hsn with e|e
  ·rw[e];exact(xy_ h.nodm hk hj).2.2
  ·obtain⟨o,m,ho,-⟩:=h.stl j hj
   rintro rfl;exact e (zb_ ho)
 have hs3:G.bm≠s':=by
  rcases hsn with e|e
  ·rw[e];exact(h.nodb k hk).1
  ·obtain⟨o,ho,-⟩:=h.dirs
   rintro rfl;exact e (zb_ ho)
 refine⟨?_, ?_, ?_, ?_, ?_, ?_, ?_,h.len,h.nodf, ?_,h.nodd, ?_, ?_, ?_⟩
 ·exact K _ _ h.disk (by simp[tyO,qb_]) (by simp[tyO,qb_])
 ·obtain⟨o,h1,h2⟩:=h.dirs
  exact⟨o,KM _ _ h1 (zQ_ h2) (h.nodb k hk).2,h2⟩
 ·intro j hj
  show Sx.look L (G.d j)=some (qF_ (if j=k then s' else G.s j) (G.t j) (if j=k then .slice none 0 0 else G.p j))
  by_cases e:j=k
  ·subst e;rw[if_pos rfl,if_pos rfl];exact hd
  ·rw[if_neg e,if_neg e]
   exact keep _ _ (h.dir j hj) (hnt _ _ (h.dir j hj) (by simp[tyO,qF_])) (acf_ h.nodd hj hk e)
 ·intro j hj
  show NmM L G.fb (if j=k then s' else G.s j) (if j=k then d else S.dir j).seen
  by_cases e:j=k
  ·subst e;rw[if_pos rfl,if_pos rfl];exact hs
  ·rw[if_neg e,if_neg e]
   obtain⟨o,m,h1,h2,h3⟩:=h.seen j hj
   exact⟨o,m,KM _ _ h1 (zQ_ h2) (xy_ h.nodm hj hk).2.2,h2,h3⟩
 ·intro j hj
  show NmM L G.fb (G.t j) (if j=k then d else S.dir j).stl
  by_cases e:j=k
  ·subst e;rw[if_pos rfl];exact ht
  ·rw[if_neg e]
   obtain⟨o,m,h1,h2,h3⟩:=h.stl j hj
   exact⟨o,m,KM _ _ h1 (zQ_ h2) ((xy_ h.nodm hj hk).2.1 e),h2,h3⟩
 ·intro j hj
  by_cases e:j=k
  ·subst e
   refine⟨[], ?_, ?_,fun i hi=>absurd hi (Nat.not_lt_zero _)⟩
   ·show 0=(if j=j then d else S.dir j:DirL).pend.length
    rw[if_pos rfl,hd0];rfl
   ·show Gr L _ 1 (if j=j then .slice none 0 0 else G.p j) 0 []
    rw[if_pos rfl];exact Gr.nl
  ·obtain⟨vj,h1,h2,h3⟩:=h.pend j hj
   refine⟨vj, ?_, ?_, ?_⟩
   ·show vj.length=(if j=k then _ else S.dir j:DirL).pend.length
    rw[if_neg e];exact h1
   ·show Gr L _ 1 (if j=k then .slice none 0 0 else G.p j) vj.length vj
    rw[if_neg e]
    refine h2.keep fun b o hb ho=> ?_
    obtain⟨arr,ha⟩:=x9_ h2 hb
    rw[ho] at ha;cases ha
    exact K _ _ ho (by simp[tyO]) (by simp[tyO])
   ·intro i hi
    show FnP L G.fb (vj.getD i undef) ((if j=k then _ else S.dir j:DirL).pend.getD i jH_)
    rw[if_neg e]
    exact KF (h3 i hi)
 ·intro n hn
  exact K _ _ (h.file n hn) (by simp[tyO,jj_]) (by simp[tyO,jj_])
 ·have hn:=h.nodm
  have hk':k=0∨k=1∨k=2:=by omega
  rcases hk' with rfl|rfl|rfl
  ·show [s',G.s 1,G.s 2,G.t 0,G.t 1,G.t 2].Nodup
   exact List.nodup_cons.2 ⟨by simp only[List.mem_cons,List.not_mem_nil,or_false,not_or];exact⟨hs1 1 (by omega) (by omega),hs1 2 (by omega) (by omega),hs2 0 (by omega),hs2 1 (by omega),hs2 2 (by omega)⟩,(List.nodup_cons.1 hn).2⟩
  ·show [G.s 0,s',G.s 2,G.t 0,G.t 1,G.t 2].Nodup
   refine(List.Perm.swap (G.s 0) s' _).nodup_iff.1 ?_
   exact List.nodup_cons.2 ⟨by simp only[List.mem_cons,List.not_mem_nil,or_false,not_or];exact⟨hs1 0 (by omega) (by omega),hs1 2 (by omega) (by omega),hs2 0 (by omega),hs2 1 (by omega),hs2 2 (by omega)⟩,(List.nodup_cons.1 ((List.Perm.swap (G.s 0) (G.s 1) _).nodup_iff.2 hn)).2⟩
  ·show [G.s 0,G.s 1,s',G.t 0,G.t 1,G.t 2].Nodup
   have hp: ∀x:Nat,(x:: [G.s 0,G.s 1,G.t 0,G.t 1,G.t 2]).Perm [G.s 0,G.s 1,x,G.t 0,G.t 1,G.t 2]:=fun x=>((List.perm_middle (l₁:= [G.s 0,G.s 1]) (a:=x) (l₂:= [G.t 0,G.t 1,G.t 2]))).symm
   refine(hp s').nodup_iff.1 ?_
   exact List.nodup_cons.2 ⟨by simp only[List.mem_cons,List.not_mem_nil,or_false,not_or];exact⟨hs1 0 (by omega) (by omega),hs1 1 (by omega) (by omega),hs2 0 (by omega),hs2 1 (by omega),hs2 2 (by omega)⟩,(List.nodup_cons.1 ((hp (G.s 2)).nodup_iff.2 hn)).2⟩
 ·intro j hj
  show G.bm≠ (if j=k then s' else G.s j)∧G.bm≠G.t j
  by_cases e:j=k
  ·rw[if_pos e];exact⟨hs3,(h.nodb j hj).2⟩
  ·rw[if_neg e];exact h.nodb j hj
 ·intro i j hi hj hij b hb
  show slB (if j=k then .slice none 0 0 else G.p j)≠some b
  have hb':slB (if i=k then .slice none 0 0 else G.p i)=some b:=hb
  by_cases ei:i=k
  ·rw[if_pos ei] at hb';cases hb'
  ·rw[if_neg ei] at hb'
   by_cases ej:j=k
   ·rw[if_pos ej];intro e;cases e
   ·rw[if_neg ej];exact h.nodp i j hi hj hij b hb'
 ·exact k4_ h.ok _ h1 h2 h3 h4 (fun c hc=>by rw[hd0] at hc;cases hc)
set_option linter.defProp false
def Ze_:=And.intro (And.intro (And.intro (@zx_) (@zw_)) (And.intro (@zJ_) (@z0_))) (And.intro (And.intro (@zV_) (@zW_)) (And.intro (@Sx.tup2_0) (@Sx.tup2_1)))
def V3_ (S:DiskL) (k:Nat):DiskL:=zN_ S k ⟨(S.dir k).seen,(S.dir k).seen,[]⟩
theorem Ja_ (X:za_) (G:DkG) (S:DiskL) (k:Nat) (w:World) (hX: ∀p,p∈X→w.heap[p.1]? =some p.2) (hn: (keys X).Nodup) (hP:DkP X G S) (hk:k<3):
  Rets Tryd.prog 27 #[vp (G.d k) 0] w (XS w X (fun v D=>v=xF_ []∧DkP D (aaN_ G k (G.s k)) (V3_ S k)∧ ∀b o,Sx.look X b=some o→b≠G.t k→b≠G.d k→Sx.look D b=some o)):=by
 obtain⟨ot,mt,hot,hmt,hnt⟩:=hP.stl k hk
 obtain⟨os,ms,hos,hms,hns⟩:=hP.seen k hk
 have hdl:=hP.dir k hk
 have hst:G.s k≠G.t k:=(xy_ hP.nodm hk hk).2.2
 have hnm: ∀ {b:Nat} {o:Obj} {m:List (List UInt8×Option Nat)},Sx.look X b=some o→j6_ vs z6_ o m→G.d k≠b:=by
  rintro b o m hb hm rfl
  rw[hdl] at hb;cases hb
  obtain⟨es,cl,h,-⟩:=hm;cases h
 have hdt:=hnm hot hmt
 refine Rets.enterX Tryd.func27 rfl (rs:= []) Tryd.results27 Tryd.ntmps27 hX hn ?_
 refine kf ?_
 ((try with_reducible refine Cw.go [] ?_);(try simp(disch:=(first|assumption|omega| (simp only[lenS,Wb_,UInt64.reduceToNat];try omega))) only[↓Sx.S0,Sx.S1,Tryd.fx,Ze_,Nat.reduceAdd,Nat.reducePow,Int.reducePow,Nat.reduceBEq, ↓reduceIte,UInt8.reduceToNat,UInt16.reduceToNat,UInt32.reduceToNat,UInt64.reduceToNat,Int.reduceToNat,(zc_ (w0:=w) hdl)]))
 refine Ow.mapClearG (encK:=vs) (encV:=z6_) rfl rfl Tryd.underlying49 rfl hot hmt (fun o1 hm1=> ?_)
 have hO:Only X (setB X (G.t k) o1) (G.t k) o1:=Only.set hot
 have hE1:=(Ext.refl w X).setB (b:=G.t k) (o:=o1)
 generalize setB X (G.t k) o1=L1 at*
 have hdl1:Sx.look L1 (G.d k)=some (qF_ (G.s k) (G.t k) (G.p k)):=(hO.rest _ hdt).trans hdl
 have hos1:Sx.look L1 (G.s k)=some os:=(hO.rest _ hst).trans hos
 have hr1:=zc_ (w0:=w) hdl1
 refine ko @Ze_ ?_
 first|with_reducible refine ks [] @Ze_ ?_|refine kp @Ze_ ?_
 refine Cw.regionS [G.d k] [0,1,2,4,5,6,3,7,8] [] (by kernel_rfl) (by kernel_rfl) (by kernel_rfl) ?_
 refine kya ?_
 refine kq (And.intro @Ze_ @hr1) ?_
 refine Ow.softA ?_
 refine Ow.callX (X:=L1) (Y:= []) (List.append_nil _).symm rfl rfl Tryd.call39 (fun w' hw' hX' hn'=>K9_ L1 (G.t k) (G.s k) o1 os ms w' hX' hn' hO.at_ hm1 hos1 hms (Ne.symm hst) (hns.keys (hP.ok.seen k hk).nodup)) (fun v4 D4 hC4 hS4=> ?_)
 obtain⟨rfl,hkp,o2,m2,hl2,hm2,hp2⟩:=hS4
 have hE2:=hE1.came0 hC4
 rw[List.append_nil]
 have hdl2:=hkp _ _ hdt hdl1
 have hr2:=zc_ (w0:=w) hdl2
 with_reducible refine Ow.nil ?_
 refine⟨fun b hb=>by rw[List.mem_singleton] at hb;subst hb;rw[hr1,hr2], ?_⟩
 refine kq @Ze_ ?_
 try with_reducible refine Ow.nil ?_
 have st:=fun x=>xP_ (G.s k) (G.t k) (G.p k) (.slice none 0 0) x ⟨rfl,rfl⟩
 first|with_reducible refine ks [] (And.intro @Ze_ (And.intro @hdl2 (@st))) ?_|refine kp (And.intro @Ze_ (And.intro @hdl2 (@st))) ?_
 refine⟨_,(ke @Ze_), ?_⟩
 have hkeep: ∀b o,Sx.look X b=some o→b≠G.t k→b≠G.d k→Sx.look (setB D4 (G.d k) (qF_ (G.s k) (G.t k) (.slice none 0 0))) b=some o:=fun b o hb h1 h2=>by
  rw[zd_ (Ne.symm h2)]
  exact hkp _ _ h1 ((hO.rest _ h1).trans hb)
 refine⟨hE2.setB,rfl, ?_,hkeep⟩
 have hos2:=hkp _ _ hst hos1
 refine hP.calm hk ⟨(S.dir k).seen,(S.dir k).seen,[]⟩ rfl hkeep ⟨os,ms, ?_,hms,hns⟩ ⟨o2,m2, ?_,hm2,hp2.trans hns⟩ (zF_ hdl2) (.inl rfl) (hP.ok.seen k hk) (hP.ok.seen k hk) (hP.ok.seenN k hk) (hP.ok.seenN k hk)
 ·rw[zd_ (hnm hos hms)];exact hos2
 ·rw[zd_ hdt];exact hl2
end Go.Proofs
end
section
open Go Go.Proofs Go.Sx Go.StP
namespace Go.Proofs
set_option maxRecDepth 10000
set_option maxHeartbeats 400000
set_option linter.unusedSimpArgs false
def qD_ (S:DiskL) (dir:List UInt8):DiskL×Nat:=
 if jA_ S dir []≠0 then(S,jA_ S dir []) else if(zp_ S).2≠0 then zp_ S else(V3_ (zp_ S).1 ((qM_ dir).getD 0),0)
set_option linter.defProp false
def jb_:=And.intro (And.intro (And.intro (@zx_) (@zw_)) (And.intro (@zJ_) (@z0_))) (And.intro (And.intro (@zV_) (@zW_)) (And.intro (@Sx.tup2_0) (@Sx.tup2_1)))
theorem wP_ (X:za_) (G:DkG) (S:DiskL) (dir:List UInt8) (w:World) (hX: ∀p,p∈X→w.heap[p.1]? =some p.2) (hn: (keys X).Nodup) (hP:DkP X G S):
  Rets Tryd.prog 15 #[vp G.bd 0,vs dir] w (XS w X (fun v D=>v=vi ((qD_ S dir).2:Nat)∧ ∃G',G'.bd=G.bd∧DkP D G' (qD_ S dir).1)):=by
 refine Rets.enterX Tryd.func15 rfl (rs:= [.tmp 4]) Tryd.results15 Tryd.ntmps15 hX hn ?_
 refine kf ?_
 first|with_reducible refine ks [] @jb_ ?_|refine kp @jb_ ?_
 refine Ow.callC rfl rfl Tryd.call21 (fun w' hw'=>Rets.toX (qG_ w' G S dir (.slice none 0 0) [] (hP.world hw') (SlV.nil w') (by simp) (fun s hs=>by cases hs))) (fun B2 v2 D2 hA2 hB2 hN2 hS2=> ?_)
 obtain⟨rfl,hS2⟩:=hS2
 rw[List.append_nil]
 unfold qD_
 rcases hS2 with⟨he,rfl⟩ | ⟨he,k,hk,rfl⟩
 ·have e1:=q3_ he
  refine ko @jb_ ?_
  first|with_reducible refine ks [] (And.intro @jb_ @e1) ?_|refine kp (And.intro @jb_ @e1) ?_
  refine⟨_,(ke @jb_), ?_⟩
  rw[if_pos he]
  exact⟨Ext.refl w X,rfl,G,rfl,hP⟩
 ·have he': ¬ (jA_ S dir []≠0):=by rw[he];simp
  have hk3:=(j3_ hk).1
  have e1: ((0:Int) !=0)=false:=rfl
  obtain⟨hb1,hb2,hb3⟩:=qW_ S
  refine ko @jb_ ?_
  first|with_reducible refine ks [] (And.intro @jb_ @e1) ?_|refine kp (And.intro @jb_ @e1) ?_
  refine Ow.callM rfl rfl Tryd.call26 (zb_ hP.disk) (fun w' hw'=>jZ_ G.bd G.bm S w' hP.ok.fuse (hw'.has _ _ (zi_ hP.disk))) ?_
  have hP2:=hP.setDisk (zp_ S).1 hb1 hb2 (xf_ hP.ok)
  have hE2:=(Ext.refl w X).setB (b:=G.bd) (o:=qb_ G.bm (zp_ S).1)
  generalize setB X G.bd (qb_ G.bm (zp_ S).1)=L2 at*
  by_cases hbn: (zp_ S).2=0
  ·have e2: (((zp_ S).2:Int) !=0)=false:=by rw[hbn];rfl
   refine ko (And.intro @jb_ @e2) ?_
   first|with_reducible refine ks [] @jb_ ?_|refine kp @jb_ ?_
   refine Ow.callX (X:=L2) (Y:= []) (List.append_nil _).symm rfl rfl Tryd.call27 (fun w' hw' hX' hn'=>Ja_ L2 G (zp_ S).1 k w' hX' hn' hP2 hk3) (fun v4 D4 hC4 hS4=> ?_)
   obtain⟨rfl,hS4,-⟩:=hS4
   have hE4:=hE2.came0 hC4
   rw[List.append_nil]
   refine ko @jb_ ?_
   first|with_reducible refine ks [] @jb_ ?_|refine kp @jb_ ?_
   refine⟨_,(ke @jb_), ?_⟩
   rw[if_neg he',if_neg (by rw[hbn];simp),hk]
   exact⟨hE4,rfl,aaN_ G k (G.s k),rfl,hS4⟩
  ·have e2:=q3_ hbn
   refine ko (And.intro @jb_ @e2) ?_
   first|with_reducible refine ks [] @jb_ ?_|refine kp @jb_ ?_
   refine⟨_,(ke @jb_), ?_⟩
   rw[if_neg he',if_pos hbn]
   exact⟨hE2,rfl,G,rfl,hP2⟩
def vU_ (w:World):Prop:= ∃e fz,w.heap[0]? =some (.cells #[vs zt_,vs jP_,vs JD_] e fz)
def Vz_ (quota:Int):DiskL:=⟨fun _=>⟨[],[],[]⟩,[],quota,0,false,false⟩
theorem Wo_ (b:Nat) (q:Int):vc_ (plcT Tryd.prog 62) (qg_ Tryd.prog 62) [(0,vm b),(1,vi q)]=some (.agg #[vm b,vi q,vi 0, .bool false, .bool false]):=by
 rw[show plcT Tryd.prog 62=some [(0,1),(1,1),(2,1),(3,1),(4,1)] from id (by kernel_rfl),show qg_ Tryd.prog 62=some (.agg #[.map none,vi 0,vi 0, .bool false, .bool false]) from id (by kernel_rfl)];rfl
theorem aab_ (a b:Nat):vc_ (plcT Tryd.prog 52) (qg_ Tryd.prog 52) [(0,vm a),(1,vm b)]=some (.agg #[vm a,vm b, .slice none 0 0]):=by
 rw[show plcT Tryd.prog 52=some [(0,1),(1,1),(2,1)] from id (by kernel_rfl),show qg_ Tryd.prog 52=some (.agg #[.map none, .map none, .slice none 0 0]) from id (by kernel_rfl)];rfl
theorem qZ_ (e:TypeId) (fz:Nat×Nat):zy_ (some (true,3)) (some (.cells #[vs zt_,vs jP_,vs JD_] e fz)) 0=some (.agg #[vs zt_,vs jP_,vs JD_]):=kj_ _ e fz 3 rfl
theorem xu_ {k:Nat} (hk:k<3):jJ_ (.arr 3 (false,1)) (.agg #[vs zt_,vs jP_,vs JD_]) (some (k:Int))=some (vs (Zo_ k)):=by
 have:k=0∨k=1∨k=2:=by omega
 rcases this with rfl|rfl|rfl<;>rfl
def x0_ (d:Nat→Nat):Nat→List (List UInt8×Option Nat)
 |0=> []
 |k+1=>x0_ d k++ [(Zo_ k,some (d k))]
theorem kV_ {d d':Nat→Nat}: ∀ {k:Nat},(∀j,j<k→d' j=d j)→x0_ d' k=x0_ d k
 |0,_=>rfl
 |k+1,h=>by
  unfold x0_
  rw[kV_ fun j hj=>h j (by omega),h k (by omega)]
theorem Xs_ {d:Nat→Nat} {j:Nat} (hj:j<3): ∀ {k:Nat},k≤j→ ∀p,p∈x0_ d k→p.1≠Zo_ j
 |0,_,_,hp=>by cases hp
 |k+1,hk,p,hp=>by
  rcases List.mem_append.1 hp with hp|hp
  ·exact Xs_ hj (by omega) p hp
  ·rw[List.mem_singleton.1 hp]
   intro e
   have h1:=q9_ (k:=k) (by omega)
   have h2:=q9_ hj
   have e':Zo_ k=Zo_ j:=e
   rw[e',h2] at h1
   cases h1;omega
structure NwG where
 L:za_
 o:Obj
 k:Nat
 d:Nat→Nat
 s:Nat→Nat
 t:Nat→Nat
def mtM (L:za_) (b:Nat):Prop:= ∃o,Sx.look L b=some o∧j6_ vs z6_ o ([]:List (List UInt8×Option Nat))
set_option linter.defProp false
def jp_:=And.intro (And.intro (@zx_) (And.intro (@zw_) (@zJ_))) (And.intro (@z0_) (And.intro (@zV_) (@zW_)))
theorem VH_ (quota:Int) (w:World) (hq: -9223372036854775808≤quota∧quota<9223372036854775808) (hG:vU_ w):
  Rets Tryd.prog 11 #[vi quota] w (XS w [] (fun v D=> ∃G,v=vp G.bd 0∧DkP D G (Vz_ quota))):=by
 obtain⟨e,fz,hg⟩:=hG
 refine Rets.enterX Tryd.func11 rfl (rs:= [.tmp 2]) Tryd.results11 Tryd.ntmps11 (fun p hp=>by cases hp) (by simp[keys]) ?_
 refine kf ?_
 first|with_reducible refine ks [] @jp_ ?_|refine kp @jp_ ?_
 refine Ow.makeMapG (encK:=vs) (encV:=z6_) rfl rfl (fun bm om hbm hwm hM=> ?_)
 rw[List.nil_append]
 refine ko @jp_ ?_
 refine Ow.build (.agg #[vm bm,vi quota,vi 0, .bool false, .bool false]) rfl (Wo_ bm quota) ?_
 refine ko @jp_ ?_
 refine Ow.box rfl rfl fun bd hbd hwd=> ?_
 simp only[ji_,jf_,jx_,zZ_]
 have hmd:bm<bd:=zB_ hbd (by simp[keys])
 refine Ow.permL (M:= [(bm,om)]++ [(bd,qb_ bm (Vz_ quota))]) (List.Perm.refl _) ?_
 have h0:Sx.look ([(bm,om)]++ [(bd,qb_ bm (Vz_ quota))]) bm=some om:=by simp[Sx.look]
 have h1:Sx.look ([(bm,om)]++ [(bd,qb_ bm (Vz_ quota))]) bd=some (qb_ bm (Vz_ quota)):=qU_ hbd
 have hN:New w.heap.size ([(bm,om)]++ [(bd,qb_ bm (Vz_ quota))]):=⟨hwm,hwd,trivial⟩
 generalize [(bm,om)]++ [(bd,qb_ bm (Vz_ quota))]=L0 at*
 have hg0:=(Array.getElem?_eq_some_iff.1 hg).1
 have hrg:zm_ w L0 0=some (.cells #[vs zt_,vs jP_,vs JD_] e fz):=by rw[qi_ (hN.not hg0)];exact hg
 refine ko @jp_ ?_
 first|with_reducible refine ks [] (And.intro @jp_ (And.intro @hrg (@qZ_))) ?_|refine kp (And.intro @jp_ (And.intro @hrg (@qZ_))) ?_
 refine Cw.loopG (G:=NwG) [12,13,5,14,15,16,17,18,19,20,21,22,23,11] (fun g=> [(11,vi g.k)]) (fun g=>g.L) (fun g=>g.k≤3∧Sx.look g.L bm=some g.o∧j6_ vs z6_ g.o (x0_ g.d g.k)∧Sx.look g.L bd=some (qb_ bm (Vz_ quota))∧New w.heap.size g.L∧ ∀j,j<g.k→Sx.look g.L (g.d j)=some (qF_ (g.s j) (g.t j) (.slice none 0 0))∧mtM g.L (g.s j)∧mtM g.L (g.t j)∧g.s j<g.t j∧g.t j<g.d j∧bd<g.s j∧ ∀i,i<j→g.d i<g.s j) (fun g=>3 - g.k) ⟨L0,om,0,fun _=>0,fun _=>0,fun _=>0⟩ rfl rfl ?_ ?_
 ·exact⟨Nat.zero_le _,h0,hM,h1,hN,fun j hj=>absurd hj (Nat.not_lt_zero _)⟩
 intro g j hg
 refine kv ?_
 clear h0 hM h1 hN hrg
 obtain⟨L,o,k,d,s,t⟩:=g
 simp only at hg ⊢
 obtain⟨hk,hlm,hM,hld,hN,hall⟩:=hg
 by_cases hlt:k<3
 ·have d1:decide ((k:Int)<3)=true:=decide_eq_true (by omega)
  have ixk:=xu_ hlt
  have rdd:=zc_ (w0:=w) hld
  first|with_reducible refine ks [] (And.intro @jp_ (And.intro @d1 (And.intro @ixk (@rdd)))) ?_|refine kp (And.intro @jp_ (And.intro @d1 (And.intro @ixk (@rdd)))) ?_
  refine Ow.makeMapG (encK:=vs) (encV:=z6_) rfl rfl (fun bs os hbs hws hMs=> ?_)
  refine ko @jp_ ?_
  refine Ow.makeMapG (encK:=vs) (encV:=z6_) rfl rfl (fun bt ot hbt hwt hMt=> ?_)
  refine ko @jp_ ?_
  refine Ow.build (.agg #[vm bs,vm bt, .slice none 0 0]) rfl (aab_ bs bt) ?_
  refine ko @jp_ ?_
  refine Ow.box rfl rfl fun br hbr hwr=> ?_
  simp only[ji_,jf_,jx_,zZ_]
  refine Ow.permL (M:=L++ [(bs,os)]++ [(bt,ot)]++ [(br,qF_ bs bt (.slice none 0 0))]) (List.Perm.refl _) ?_
  have up: ∀b x,Sx.look L b=some x→Sx.look (L++ [(bs,os)]++ [(bt,ot)]++ [(br,qF_ bs bt (.slice none 0 0))]) b=some x:=fun b x h=>zn_ (zn_ (zn_ h))
  have ls:Sx.look (L++ [(bs,os)]++ [(bt,ot)]++ [(br,qF_ bs bt (.slice none 0 0))]) bs=some os:=zn_ (zn_ (qU_ hbs))
  have lt:Sx.look (L++ [(bs,os)]++ [(bt,ot)]++ [(br,qF_ bs bt (.slice none 0 0))]) bt=some ot:=zn_ (qU_ hbt)
  have lr:Sx.look (L++ [(bs,os)]++ [(bt,ot)]++ [(br,qF_ bs bt (.slice none 0 0))]) br=some (qF_ bs bt (.slice none 0 0)):=qU_ hbr
  have hN1:New w.heap.size (L++ [(bs,os)]++ [(bt,ot)]++ [(br,qF_ bs bt (.slice none 0 0))]):=((hN.app (show New w.heap.size [(bs,os)] from⟨hws,trivial⟩)).app (show New w.heap.size [(bt,ot)] from⟨hwt,trivial⟩)).app (show New w.heap.size [(br,qF_ bs bt (.slice none 0 0))] from⟨hwr,trivial⟩)
  have c1:bs<bt:=zB_ hbt (by rw[zk_];simp[keys])
  have c2:bt<br:=zB_ hbr (by rw[zk_];simp[keys])
  have c3:bd<bs:=zB_ hbs (zb_ hld)
  have c4: ∀j,j<k→d j<bs:=fun j hj=>zB_ hbs (zb_ (hall j hj).1)
  have c5:bm<bs:=zB_ hbs (zb_ hlm)
  generalize L++ [(bs,os)]++ [(bt,ot)]++ [(br,qF_ bs bt (.slice none 0 0))]=L1 at*
  refine ko @jp_ ?_
  refine Ow.mapUpdateG (encK:=vs) (encV:=z6_) (k:=Zo_ k) (v:=some br) rfl rfl Tryd.underlying60 qS_ rfl rfl rfl (up _ _ hlm) hM (fun o2 hm2=> ?_)
  rw[kK_ (Xs_ hlt (Nat.le_refl _))] at hm2
  have ne: ∀b x,b≠bm→Sx.look L1 b=some x→Sx.look (setB L1 bm o2) b=some x:=fun b x h1 h2=>by rw[zd_ (Ne.symm h1)];exact h2
  refine ko @jp_ ?_
  first|with_reducible refine ks [] @jp_ ?_|refine kp @jp_ ?_
  refine Again.mk ⟨setB L1 bm o2,o2,k+1,fun j=>if j=k then br else d j,fun j=>if j=k then bs else s j,fun j=>if j=k then bt else t j⟩ (by show 3 - (k+1)<3 - k;omega) ⟨hlt,zF_ (up _ _ hlm), ?_,ne _ _ (by omega) (up _ _ hld),New.of_le fun q hq=>hN1.le q (by rwa [qe_] at hq),fun j hj=> ?_⟩ rfl rfl
  ·show j6_ vs z6_ o2 (x0_ (fun j=>if j=k then br else d j) (k+1))
   unfold x0_
   rw[kV_ (d:=d) fun j hj=>if_neg (by omega),if_pos rfl]
   exact hm2
  ·show Sx.look (setB L1 bm o2) (if j=k then br else d j)=some (qF_ (if j=k then bs else s j) (if j=k then bt else t j) (.slice none 0 0))∧mtM (setB L1 bm o2) (if j=k then bs else s j)∧mtM (setB L1 bm o2) (if j=k then bt else t j)∧(if j=k then bs else s j)< (if j=k then bt else t j)∧(if j=k then bt else t j)< (if j=k then br else d j)∧bd< (if j=k then bs else s j)∧ ∀i,i<j→(if i=k then br else d i)< (if j=k then bs else s j)
   by_cases e:j=k
   ·subst e
    simp only[if_pos]
    refine⟨ne _ _ (by omega) lr,⟨os,ne _ _ (by omega) ls,hMs⟩,⟨ot,ne _ _ (by omega) lt,hMt⟩,c1,c2,c3,fun i hi=> ?_⟩
    rw[if_neg (by omega)];exact c4 i hi
   ·simp only[if_neg e]
    have hj':j<k:=by have:j<k+1:=hj;omega
    obtain⟨q1,⟨oo,q2,q3⟩,⟨oo2,q4,q5⟩,q6,q7,q8,q9⟩:=hall j hj'
    refine⟨ne _ _ (by omega) (up _ _ q1),⟨oo,ne _ _ (by omega) (up _ _ q2),q3⟩,⟨oo2,ne _ _ (by omega) (up _ _ q4),q5⟩,q6,q7,q8,fun i hi=> ?_⟩
    rw[if_neg (by omega)];exact q9 i hi
 ·obtain rfl:k=3:=by omega
  have d1:decide (((3:Nat):Int)<3)=false:=rfl
  first|with_reducible refine ks [] (And.intro @jp_ @d1) ?_|refine kp (And.intro @jp_ @d1) ?_
  refine⟨_,(ke @jp_), ?_⟩
  obtain⟨a1,a2,a3,a4,a5,a6,a7⟩:=hall 0 (by omega)
  obtain⟨b1,b2,b3,b4,b5,b6,b7⟩:=hall 1 (by omega)
  obtain⟨c1,c2,c3,c4,c5,c6,c7⟩:=hall 2 (by omega)
  have b8:=b7 0 (by omega)
  have c8:=c7 1 (by omega)
  refine⟨Ext.of_new hN,⟨bd,bm,d,s,t,fun _=> .slice none 0 0,[]⟩,rfl,hld,⟨o,hlm,hM⟩,fun k hk=>(hall k hk).1,fun k hk=> ?_,fun k hk=> ?_,fun k hk=>⟨[],rfl,Gr.nl,fun i hi=>absurd hi (Nat.not_lt_zero _)⟩,fun n hn=>absurd hn (Nat.not_lt_zero _),rfl,List.nodup_nil, ?_, ?_,fun k hk=> ?_,fun i j hi hj hij b hb=>(by cases hb), ?_⟩
  ·obtain⟨x,y,z⟩:=(hall k hk).2.1
   exact⟨x,[],y,z,List.Perm.nil⟩
  ·obtain⟨x,y,z⟩:=(hall k hk).2.2.1
   exact⟨x,[],y,z,List.Perm.nil⟩
  ·show [s 0,s 1,s 2,t 0,t 1,t 2].Nodup
   simp only[List.nodup_cons,List.mem_cons,List.not_mem_nil,not_or,or_false,List.nodup_nil,and_true,not_false_eq_true]
   refine⟨⟨?_, ?_, ?_, ?_, ?_⟩,⟨?_, ?_, ?_, ?_⟩,⟨?_, ?_, ?_⟩,⟨?_, ?_⟩, ?_⟩<;>omega
  ·show [d 0,d 1,d 2].Nodup
   simp only[List.nodup_cons,List.mem_cons,List.not_mem_nil,not_or,or_false,List.nodup_nil,and_true,not_false_eq_true]
   refine⟨⟨?_, ?_⟩, ?_⟩<;>omega
  ·have:=(hall k hk).2.2.2
   show bm≠s k∧bm≠t k
   omega
  ·exact⟨fun _ _=>List.Pairwise.nil,fun _ _=>List.Pairwise.nil,fun _ _ p hp=>(by cases hp),fun _ _ p hp=>(by cases hp),fun _ _ c hc=>(by cases hc),fun f hf=>(by cases hf),⟨show(-9223372036854775808:Int)≤0 by decide,show(0:Int)<9223372036854775808 by decide,fun _=>show(0:Int)≤0 by decide⟩,hq⟩
end Go.Proofs
end
section
open Go Go.Proofs Go.Sx Go.StP
namespace Go.Proofs
set_option maxRecDepth 10000
set_option maxHeartbeats 400000
set_option linter.unusedSimpArgs false
structure FiL where
 dir:List UInt8
 name:List UInt8
 data:List UInt8
end Go.Proofs
end
section
open Go Go.Proofs Go.Sx Go.StP
namespace Go.Proofs
set_option maxRecDepth 10000
set_option maxHeartbeats 400000
set_option linter.unusedSimpArgs false
set_option linter.defProp false
end Go.Proofs
end
section
namespace Go.Proofs
open Go Go.Sx Go.StP Go.Shelf
set_option maxRecDepth 100000
def Tryd.keysL_ren:Go.Shelf.Ren:=⟨fun|7=>23|10=>37|n=>n,fun|23=>49|26=>9|3=>48|28=>57|0=>0|27=>56|33=>72|4=>4|n=>n,fun|n=>n⟩
theorem Tryd.keysL:Go.Proofs.SlLaysZ.n7 Tryd.prog Tryd.keysL_ren:={
 mixed:=by kernel_rfl
 f7:=⟨Tryd.f23.name,by decide,Tryd.func23.trans (congrArg some (by kernel_rfl))⟩
 f10:=⟨Tryd.f37.name,by decide,Tryd.func37.trans (congrArg some (by kernel_rfl))⟩
 t0:=Tryd.underlying0
 a0:=Tryd.isAgg0
 z0:=Tryd.sizeOf0
 v0:=Tryd.zeroValue0
 t4:=Tryd.underlying4
 a4:=Tryd.isAgg4
 z4:=Tryd.sizeOf4
 v4:=Tryd.zeroValue4
 t23:=Tryd.underlying49
 a23:=Tryd.isAgg49
 z23:=Tryd.sizeOf49
 v23:=Tryd.zeroValue49
 t26:=Tryd.underlying9
 a26:=Tryd.isAgg9
 z26:=Tryd.sizeOf9
 v26:=Tryd.zeroValue9
 t27:=Tryd.underlying56
 a27:=Tryd.isAgg56
 z27:=Tryd.sizeOf56
 v27:=Tryd.zeroValue56
 t28:=Tryd.underlying57
 a28:=Tryd.isAgg57
 z28:=Tryd.sizeOf57
 v28:=Tryd.zeroValue57
 t33:=Tryd.underlying72
 a33:=Tryd.isAgg72
 z33:=Tryd.sizeOf72
 v33:=Tryd.zeroValue72}
def Tryd.sortedL_ren:Go.Shelf.Ren:=⟨fun|6=>22|8=>35|9=>36|11=>45|13=>47|12=>46|23=>58|24=>59|14=>49|15=>50|16=>51|17=>52|18=>53|19=>54|20=>55|21=>56|22=>57|25=>61|26=>62|27=>63|28=>64|29=>65|30=>66|31=>67|n=>n,fun|26=>9|28=>57|24=>32|0=>0|3=>3|37=>82|48=>94|50=>96|4=>4|40=>86|39=>85|45=>91|5=>5|9=>9|51=>98|55=>102|57=>104|58=>105|33=>72|n=>n,fun|n=>n⟩
theorem Tryd.sortedL:Go.Proofs.SlLaysZ.n6 Tryd.prog Tryd.sortedL_ren:={
 mixed:=by kernel_rfl
 f6:=⟨Tryd.f22.name,by decide,Tryd.func22.trans (congrArg some (by kernel_rfl))⟩
 f8:=⟨Tryd.f35.name,by decide,Tryd.func35.trans (congrArg some (by kernel_rfl))⟩
 f11:=⟨Tryd.f45.name,by decide,Tryd.func45.trans (congrArg some (by kernel_rfl))⟩
 t0:=Tryd.underlying0
 a0:=Tryd.isAgg0
 z0:=Tryd.sizeOf0
 v0:=Tryd.zeroValue0
 t24:=Tryd.underlying32
 a24:=Tryd.isAgg32
 z24:=Tryd.sizeOf32
 v24:=Tryd.zeroValue32
 t26:=Tryd.underlying9
 a26:=Tryd.isAgg9
 z26:=Tryd.sizeOf9
 v26:=Tryd.zeroValue9
 t28:=Tryd.underlying57
 a28:=Tryd.isAgg57
 z28:=Tryd.sizeOf57
 v28:=Tryd.zeroValue57
 i26:=by kernel_rfl}
def Tryd.sortL_ren:Go.Shelf.Ren:=⟨fun|6=>36|8=>47|9=>46|19=>58|20=>59|21=>49|22=>50|23=>51|24=>52|25=>53|26=>54|27=>55|28=>56|29=>57|36=>61|31=>62|32=>63|37=>64|38=>65|39=>66|41=>67|n=>n,fun|27=>32|29=>9|3=>3|32=>82|26=>32|0=>0|44=>94|46=>96|4=>4|36=>86|35=>85|41=>91|5=>5|9=>9|53=>98|57=>102|63=>104|64=>105|n=>n,fun|n=>n⟩
theorem Tryd.sortL:Go.Proofs.SlLaysM.n6 Tryd.prog Tryd.sortL_ren:={
 mixed:=by kernel_rfl
 f6:=⟨Tryd.f36.name,by decide,Tryd.func36.trans (congrArg some (by kernel_rfl))⟩
 f8:=Tryd.func47.trans (congrArg some (by kernel_rfl))
 f9:=⟨Tryd.f46.name,by decide,Tryd.func46.trans (congrArg some (by kernel_rfl))⟩
 f19:=Tryd.func58.trans (congrArg some (by kernel_rfl))
 f20:=Tryd.func59.trans (congrArg some (by kernel_rfl))
 f21:=⟨Tryd.f49.name,by decide,Tryd.func49.trans (congrArg some (by kernel_rfl))⟩
 f22:=⟨Tryd.f50.name,by decide,Tryd.func50.trans (congrArg some (by kernel_rfl))⟩
 f23:=⟨Tryd.f51.name,by decide,Tryd.func51.trans (congrArg some (by kernel_rfl))⟩
 f24:=⟨Tryd.f52.name,by decide,Tryd.func52.trans (congrArg some (by kernel_rfl))⟩
 f25:=⟨Tryd.f53.name,by decide,Tryd.func53.trans (congrArg some (by kernel_rfl))⟩
 f26:=⟨Tryd.f54.name,by decide,Tryd.func54.trans (congrArg some (by kernel_rfl))⟩
 f27:=⟨Tryd.f55.name,by decide,Tryd.func55.trans (congrArg some (by kernel_rfl))⟩
 f28:=⟨Tryd.f56.name,by decide,Tryd.func56.trans (congrArg some (by kernel_rfl))⟩
 f29:=⟨Tryd.f57.name,by decide,Tryd.func57.trans (congrArg some (by kernel_rfl))⟩
 f31:=Tryd.func62.trans (congrArg some (by kernel_rfl))
 f32:=Tryd.func63.trans (congrArg some (by kernel_rfl))
 f36:=⟨Tryd.f61.name,by decide,Tryd.func61.trans (congrArg some (by kernel_rfl))⟩
 f37:=⟨Tryd.f64.name,by decide,Tryd.func64.trans (congrArg some (by kernel_rfl))⟩
 f38:=⟨Tryd.f65.name,by decide,Tryd.func65.trans (congrArg some (by kernel_rfl))⟩
 f39:=⟨Tryd.f66.name,by decide,Tryd.func66.trans (congrArg some (by kernel_rfl))⟩
 f41:=⟨Tryd.f67.name,by decide,Tryd.func67.trans (congrArg some (by kernel_rfl))⟩
 t0:=Tryd.underlying0
 a0:=Tryd.isAgg0
 z0:=Tryd.sizeOf0
 v0:=Tryd.zeroValue0
 t3:=Tryd.underlying3
 a3:=Tryd.isAgg3
 z3:=Tryd.sizeOf3
 v3:=Tryd.zeroValue3
 t4:=Tryd.underlying4
 a4:=Tryd.isAgg4
 z4:=Tryd.sizeOf4
 v4:=Tryd.zeroValue4
 t5:=Tryd.underlying5
 a5:=Tryd.isAgg5
 z5:=Tryd.sizeOf5
 v5:=Tryd.zeroValue5
 t9:=Tryd.underlying9
 a9:=Tryd.isAgg9
 z9:=Tryd.sizeOf9
 v9:=Tryd.zeroValue9
 t26:=Tryd.underlying32
 a26:=Tryd.isAgg32
 z26:=Tryd.sizeOf32
 v26:=Tryd.zeroValue32
 t27:=Tryd.underlying32
 a27:=Tryd.isAgg32
 z27:=Tryd.sizeOf32
 v27:=Tryd.zeroValue32
 t29:=Tryd.underlying9
 a29:=Tryd.isAgg9
 z29:=Tryd.sizeOf9
 v29:=Tryd.zeroValue9
 t32:=Tryd.underlying82
 a32:=Tryd.isAgg82
 z32:=Tryd.sizeOf82
 v32:=Tryd.zeroValue82
 t35:=Tryd.underlying85
 a35:=Tryd.isAgg85
 z35:=Tryd.sizeOf85
 v35:=Tryd.zeroValue85
 t36:=Tryd.underlying86
 a36:=Tryd.isAgg86
 z36:=Tryd.sizeOf86
 v36:=Tryd.zeroValue86
 t41:=Tryd.underlying91
 a41:=Tryd.isAgg91
 z41:=Tryd.sizeOf91
 v41:=Tryd.zeroValue91
 t44:=Tryd.underlying94
 a44:=Tryd.isAgg94
 z44:=Tryd.sizeOf94
 v44:=Tryd.zeroValue94
 t46:=Tryd.underlying96
 a46:=Tryd.isAgg96
 z46:=Tryd.sizeOf96
 v46:=Tryd.zeroValue96
 t53:=Tryd.underlying98
 a53:=Tryd.isAgg98
 z53:=Tryd.sizeOf98
 v53:=Tryd.zeroValue98
 t57:=Tryd.underlying102
 a57:=Tryd.isAgg102
 z57:=Tryd.sizeOf102
 v57:=Tryd.zeroValue102
 t63:=Tryd.underlying104
 a63:=Tryd.isAgg104
 z63:=Tryd.sizeOf104
 v63:=Tryd.zeroValue104
 t64:=Tryd.underlying105
 a64:=Tryd.isAgg105
 z64:=Tryd.sizeOf105
 v64:=Tryd.zeroValue105}
open Go.RowKit Go.Maps Go.Sort
theorem aed_ (m:Nat):AnyZ.SortsIn Tryd.prog Tryd.sortedL_ren Fence.wide m:=
 ⟨fun blk off cap ss W hH hblk hsz=>callsIn_wide.2 (AnyM.slices_Sort_string Tryd.sortL blk off cap ss W hH hblk hsz),
 fun p cap W=>callsIn_wide.2 (AnyM.slices_Sort_string_none Tryd.sortL p cap W)⟩
theorem K1_ {a b:List UInt8} (h:ltB a b=true):leB a b=true:=by
 rw[wk_,decide_eq_true_eq] at h
 simp only[leB,decide_eq_true_eq]
 exact List.le_of_lt h
theorem WD_ {l:NmL} (h:SrtN l) {ss:List (List UInt8)} (hp:ss.Perm (l.map Prod.fst)):ss.mergeSort (fun x y=>decide (x≤y))=l.map Prod.fst:=by
 show ss.mergeSort leB=_
 rw[mergeSort_of_perm hp]
 refine List.mergeSort_of_pairwise ?_
 exact List.pairwise_map.2 (h.imp fun h=>K1_ h)
theorem aen_ {W:World} {base n:Nat} {T:TypeId} {v:Value} {xs:List Value} (h:W.ownsRow base T 1 v n xs): ∃D:za_,(∀p,p∈D→W.heap[p.1]? =some p.2∧base≤p.1)∧(keys D).Nodup∧Gr D T 1 v n xs:=by
 obtain⟨hl,h⟩:=h
 rcases h with⟨rfl,rfl⟩ | ⟨g,cap,cur,rfl,hb,hg,hc,hm,hs,ht⟩
 ·obtain rfl:xs= []:=List.eq_nil_of_length_eq_zero (by simpa using hl)
  exact⟨[],fun p hp=>(by cases hp),List.nodup_nil,Gr.nl⟩
 ·refine⟨[(g, .cells cur T (0,0))], ?_,by simp[keys], ?_⟩
  ·intro p hp
   simp only[List.mem_singleton] at hp
   subst hp
   exact⟨hg,hb⟩
  ·by_cases h0:0<cap
   ·refine .inl (Buf.at_ (rest:=cur.toList.drop (n*1)) ?_ hl ?_ hc h0)
    ·rw[←ht,List.take_append_drop]
     simp[Sx.look]
    ·rw[List.length_drop,Array.length_toList,hs];omega
   ·obtain rfl:cap=0:=by omega
    obtain rfl:n=0:=by omega
    refine .inr ⟨rfl,List.eq_nil_of_length_eq_zero (by simpa using hl),g,rfl, ?_⟩
    have:cur= #[]:=Array.eq_empty_of_size_eq_zero (by simpa using hs)
    simp[Sx.look,this]
def RN (_:Value):Option (DataW Unit×List MemPlace):=some (.nil,[])
theorem acl_ {w:World} {b:Nat} {o:Obj} {m:List (List UInt8×Option Nat)} (ho:w.heap[b]? =some o) (hM:j6_ vs z6_ o m) (hn: (m.map Prod.fst).Nodup) (hk: ∀p,p∈m→p.1.length≤1000000) (hs:m.length≤1000000):
  ∃D0:DataW Unit,w.ownsMap Tryd.prog 9 RN b m.length D0∧Maps.size D0≤1000000∧(strKeys D0).Perm (m.map Prod.fst):=by
 obtain⟨es,clock,rfl,he,hb⟩:=hM
 have hlen:es.size=m.length:=by have:=congrArg List.length he;simpa using this
 have hkey:es.toList.map (·.key)=m.map fun p=>vs p.1:=by
  have:=congrArg (List.map Prod.fst) he
  simpa [qQ_,Function.comp_def] using this
 have hrd: ∀x,x∈es.toList→ ∃s:List UInt8,x.key=vs s∧s.length≤1000000:=by
  intro x hx
  have:x.key∈m.map fun p=>vs p.1:=by rw[←hkey];exact List.mem_map.2 ⟨x,hx,rfl⟩
  obtain⟨p,hp,e⟩:=List.mem_map.1 this
  exact⟨p.1,e.symm,hk p hp⟩
 have hrd2: ∀x,x∈es.toList→ ∀s:List UInt8,x.key=vs s→s.length≤1000000→WideElems.rd Tryd.prog 9 RN x=some (.string s, .nil):=by
  intro x hx s hs hl
  have hL:s.length≤maxLen:=Nat.le_trans hl (by decide)
  have hL2: (ByteArray.mk s.toArray).size≤maxLen:=hL
  simp[WideElems.rd,keyOf,Tryd.underlying9,mapKey,hs,RN,vs,hL2]
 have hbo:=List.pairwise_append.1 hb
 refine⟨_,⟨es,clock,ho,⟨?_,⟨?_, ?_, ?_⟩, ?_⟩,by omega,rfl⟩, ?_, ?_⟩
 ·rw[hlen];exact Nat.le_trans hs (by decide)
 ·intro x hx
  exact hbo.2.2 x.born (List.mem_map.2 ⟨x,hx,rfl⟩) clock (by simp)
 ·exact hbo.1.imp fun h=>Nat.ne_of_lt h
 ·rw[hkey]
  have: (m.map Prod.fst).map vs=m.map fun p=>vs p.1:=by simp[Function.comp_def]
  rw[←this]
  refine List.pairwise_map.2 (hn.imp fun h e=>h ?_)
  simpa [vs] using e
 ·intro x hx
  obtain⟨s,e,hl⟩:=hrd x hx
  exact⟨_,hrd2 x hx s e hl⟩
 ·rw[Maps.size_eq,(WideShapes.sorted_perm _).length_eq,List.length_map,Array.length_toList,hlen];exact hs
 ·show(List.map (fun p:Lit×DataW Unit=>strOf p.1) _).Perm _
  refine((WideShapes.sorted_perm _).map _).trans (List.Perm.of_eq ?_)
  rw[List.map_map]
  refine List.map_congr_left ?_|>.trans (?_:es.toList.map (fun x=>match x.key with| .string s=>s.data.toList|_=> [])=_)
  ·intro x hx
   obtain⟨s,e,hl⟩:=hrd x hx
   simp only[Function.comp]
   rw[WideElems.rg_of (hrd2 x hx s e hl),e]
   rfl
  ·have:es.toList.map (fun x=>match x.key with| .string s=>s.data.toList|_=> [])=(es.toList.map (·.key)).map (fun k=>match k with| .string s=>s.data.toList|_=> []):=by rw[List.map_map];rfl
   rw[this,hkey,List.map_map]
   rfl
theorem ZU_ (X:za_) (G:DkG) (S:DiskL) (k c:Nat) (w:World) (hP:DkP X G S) (hX: ∀b o,Sx.look X b=some o→w.heap[b]? =some o) (hk:k<3) (hs: (S.dir k).seen.length≤1000000) (hl: ∀p,p∈ (S.dir k).seen→p.1.length≤1000000)
  (hc:w.heap[c]? =some (.cells #[vm (G.s k)] 49 (0,0))):
  Rets Tryd.prog 22 #[.func (.func 37) #[] #[vp c 0]] w (XS w [] (fun v D=>GrI D 9 1 v (S.dir k).seen.length ((S.dir k).seen.map fun p=>vs p.1))):=by
 obtain⟨o,m,h1,h2,h3⟩:=hP.seen k hk
 have ho:=hX _ _ h1
 have hlen:m.length=(S.dir k).seen.length:=by have:=h3.length_eq;simpa using this
 have hmk: ∀p,p∈m→p.1.length≤1000000:=by
  intro p hp
  have:=h3.mem_iff.1 hp
  obtain⟨q,hq,e⟩:=List.mem_map.1 this
  rw[←e];exact hl q hq
 obtain⟨D0,hown,hsz,hperm⟩:=acl_ ho h2 (h3.keys (hP.ok.seen k hk).nodup) hmk (by omega)
 have hcl:=(Array.getElem?_eq_some_iff.1 hc).1
 have hseq:SeqGives Fence.wide 2 Tryd.prog 37 #[.pointer (some ⟨c,0,none⟩)] encStr (fun ss=>ss.Perm (strKeys D0)) (Maps.size D0) w:=
  AnyZ.keys_gives (ρ:=Tryd.keysL_ren) {Tryd.keysL with} Fence.wide _ trivial rfl (by omega) c (G.s k) m.length D0 _ hcl (by simp[World.cell?,hc,vm]) hown
 have h:=AnyZ.sorted_in Tryd.sortedL Fence.wide 5 trivial trivial trivial trivial rfl (by omega) (aed_ _) (enters_of Tryd.func36 (by kernel_rfl) rfl) 37 #[.pointer (some ⟨c,0,none⟩)] trivial (enters_of Tryd.func37 (by kernel_rfl) rfl) _ (Maps.size D0) (Nat.le_trans hsz (by decide)) (by omega) w hseq
 refine Calls.mono (callsIn_wide.1 h) ?_
 rintro e w' ⟨v,ss,rfl,hS,hrow,-,hb⟩
 obtain⟨D,hD,hDn,hG⟩:=aen_ hrow
 have hss:ss.mergeSort (fun x y=>decide (x≤y))=(S.dir k).seen.map Prod.fst:=by
  refine WD_ (hP.ok.seen k hk) ((hS.trans hperm).trans ?_)
  have:=h3.map Prod.fst
  refine this.trans (List.Perm.of_eq ?_)
  rw[List.map_map];rfl
 have hsl:ss.length=(S.dir k).seen.length:=by
  have:=congrArg List.length hss
  simpa using this
 refine⟨v,D,rfl,⟨fun b o hm=>(hD _ hm).1,hDn,fun b hb' _=>hb.block b hb',hb.size,hb.tape,hb.os,hb.output⟩,⟨fun b hb'=> ?_,fun b hb'=>(by cases hb')⟩,⟨D,fun _ h=>h, ?_⟩⟩
 ·obtain⟨p,hp,rfl⟩:=List.mem_map.1 hb'
  exact .inr (hD p hp).2
 rw[hss,hsl] at hG
 have: ((S.dir k).seen.map Prod.fst).map encStr=(S.dir k).seen.map fun p=>vs p.1:=by rw[List.map_map];rfl
 rw[this] at hG
 exact hG
end Go.Proofs
end
section
open Go Go.Proofs Go.Sx Go.StP
namespace Go.Proofs
set_option maxRecDepth 10000
set_option maxHeartbeats 400000
set_option linter.unusedSimpArgs false
theorem Ke_ (b:Nat) (w:World):
  Rets Tryd.prog 23 #[vm b] w (XS w [] (fun v' D=> ∃b1,v'= .func (.func 37) #[] #[vp b1 0]∧D= [(b1, .cells #[vm b] 49 (0,0))])):=by
 refine Rets.enter Tryd.func23 rfl (rs:= [.tmp 2]) Tryd.results23 Tryd.ntmps23 ?_
 refine kf ?_
 first|with_reducible refine ks [] @Nat.add_zero ?_|refine kp @Nat.add_zero ?_
 refine Ow.box rfl rfl fun b1 hb1 hw1=> ?_
 simp only[ji_,jf_,vm,List.nil_append]
 refine ko @Nat.add_zero ?_
 refine⟨_,(ke @Nat.add_zero), ?_⟩
 exact⟨⟨fun c hc=>(by simp only[keys,List.map_cons,List.map_nil,List.mem_singleton] at hc;exact .inr (hc▸hw1)),fun c hc=>(by cases hc)⟩,b1,by simp[xF_,ev,xG_],rfl⟩
def DkB (S:DiskL):Prop:= ∀k,k<3→(S.dir k).seen.length≤1000000∧ ∀p,p∈ (S.dir k).seen→p.1.length≤1000000
def V6_ (S:DiskL) (dir:List UInt8):List (List UInt8):=if jA_ S dir []≠0 then [] else(S.dir ((qM_ dir).getD 0)).seen.map Prod.fst
set_option linter.defProp false
def ka_:=And.intro (And.intro (And.intro (@zx_) (@zw_)) (And.intro (@zJ_) (@z0_))) (And.intro (And.intro (@zV_) (@zW_)) (And.intro (@Sx.tup2_0) (And.intro (@Sx.tup2_1) (@wo_))))
theorem KK_ (w:World) (G:DkG) (S:DiskL) (dir:List UInt8) (hD:DkW w G S) (hB:DkB S):
  Rets Tryd.prog 7 #[vp G.bd 0,vs dir] w (XS w [] (fun v D=>GrI D 9 1 v (V6_ S dir).length ((V6_ S dir).map vs))):=by
 have hD':=hD
 obtain⟨X,hX,hP⟩:=hD
 refine Rets.enter Tryd.func7 rfl (rs:= [.tmp 4]) Tryd.results7 Tryd.ntmps7 ?_
 refine kf ?_
 first|with_reducible refine ks [] @ka_ ?_|refine kp @ka_ ?_
 have hN1:New w.heap.size ([]:za_):=trivial
 refine Ow.callC rfl rfl Tryd.call21 (fun w' hw'=>Rets.toX (qG_ w' G S dir (.slice none 0 0) [] (hD'.old hw' hN1) (SlV.nil w') (by simp) (fun s hs=>by cases hs))) (fun B2 v2 D2 hA2 hB2 hN2 hS2=> ?_)
 obtain⟨rfl,hS2⟩:=hS2
 rw[List.append_nil]
 unfold V6_
 rcases hS2 with⟨he,rfl⟩ | ⟨he,k,hk,rfl⟩
 ·rw[if_pos he]
  have e1:=q3_ he
  refine ko @ka_ ?_
  first|with_reducible refine ks [] (And.intro @ka_ @e1) ?_|refine kp (And.intro @ka_ @e1) ?_
  refine⟨_,(ke @ka_), ?_⟩
  exact⟨Ext.refl w [],Gr.nl.i fun _ h=>h⟩
 ·rw[if_neg (by rw[he];simp),hk]
  have hk3:=(j3_ hk).1
  have hdr:=hX _ _ (hP.dir k hk3)
  have e1: ((0:Int) !=0)=false:=rfl
  refine ko @ka_ ?_
  first|with_reducible refine ks [] (And.intro @ka_ (And.intro @e1 (@hdr))) ?_|refine kp (And.intro @ka_ (And.intro @e1 (@hdr))) ?_
  refine Ow.callC rfl rfl Tryd.call23 (fun w' hw'=>Ke_ (G.s k) w') (fun B3 v3 D3 hA3 hB3 hN3 hS3=> ?_)
  obtain⟨b1,rfl,rfl⟩:=hS3
  rw[List.nil_append]
  have hN3':=hN3.mono hB3
  refine ko @ka_ ?_
  refine Ow.callC rfl rfl Tryd.call22 (fun w' hw'=>ZU_ X G S k b1 w' hP (fun b o h=>(hw'.old b (Array.getElem?_eq_some_iff.1 (hX b o h)).1 (hN3'.not (Array.getElem?_eq_some_iff.1 (hX b o h)).1)).trans (hX b o h)) hk3 (hB k hk3).1 (hB k hk3).2 (hw'.has _ _ List.mem_cons_self)) (fun B4 v4 D4 hA4 hB4 hN4 hS4=> ?_)
  refine ko @ka_ ?_
  refine⟨_,(ke @ka_), ?_⟩
  refine⟨Ext.of_new (hN3'.app (hN4.mono hB4)), ?_⟩
  rw[List.length_map,List.map_map]
  exact hS4.mono fun p hp=>List.mem_cons_of_mem _ hp
end Go.Proofs
end
section
open Go Go.Proofs Go.Sx Go.StP
namespace Go.Proofs
set_option maxRecDepth 10000
set_option maxHeartbeats 400000
set_option linter.unusedSimpArgs false
theorem VT_ {S:DiskL} {k:Nat} (hk:k<3):V6_ S (Zo_ k)=(if S.off=true then [] else(S.dir k).seen).map Prod.fst:=by
 unfold V6_ jA_
 rw[q9_ hk]
 cases S.off<;>simp
theorem VI_ (l:List (List UInt8)): (l.map strC).flatten=l.map vs:=by
 induction l with
 |nil=>rfl
 |cons x l ih=>simp[strC,ih]
set_option linter.defProp false
end Go.Proofs
end
section
open Go Go.Proofs Go.Sx Go.StP
namespace Go.Proofs
set_option maxRecDepth 10000
set_option maxHeartbeats 400000
set_option linter.unusedSimpArgs false
theorem afs_ (b:Nat):qq_ Tryd.prog .eql 49 (vm b) (.map none)=some (.bool false):=by
 simp[qq_,eqX,qu_,qd_,Tryd.underlying49,vm]
theorem J4_ (b:Nat) (o:Obj) (m:List (List UInt8×Option Nat)) (w:World) (ho:w.heap[b]? =some o) (hm:j6_ vs z6_ o m):
  Rets Tryd.prog 29 #[vm b] w (XS w [] (fun v D=> ∃c o',v=vm c∧D= [(c,o')]∧j6_ vs z6_ o' m)):=by
 refine Rets.enterX Tryd.func29 rfl (rs:= [.tmp 2]) Tryd.results29 Tryd.ntmps29 (fun p hp=>by cases hp) (by simp[keys]) ?_
 refine kf ?_
 have e1:=afs_ b
 first|with_reducible refine ks [] @e1 ?_|refine kp @e1 ?_
 refine Ow.ifaceMap rfl Tryd.underlying49 rfl ?_
 refine Ow.cloneMap (encK:=vs) (encV:=z6_) rfl rfl (fun a w=>run_callFunc_extern Tryd.func40 (by kernel_rfl) (by kernel_rfl) (by kernel_rfl) (e:=Extern.MapsClone.clone) (by kernel_rfl) #[a] w) rfl (by rw[qi_ (by simp[keys])];exact ho) hm fun c o' hc hwc hm'=> ?_
 refine Ow.assertMap rfl Tryd.underlying49 rfl ?_
 refine ko @Nat.add_zero ?_
 refine⟨_,(ke @Nat.add_zero), ?_⟩
 exact⟨(Ext.refl w []).app hwc,c,o',rfl,rfl,hm'⟩
def u16C (x:UInt16):List Value:= [v16 x]
theorem abh_ (x:UInt16): (u16C x).length=1:=rfl
abbrev abC_ (w:World) (v:Value) (l:List UInt16):Prop:=SlV 1 u16C 0 w v l
def PkS (w:World) (v:Value) (l:List UInt16):Prop:=abC_ w v l∨(l= []∧ ∃a c,v= .slice (some a) 0 c)
theorem PkS.len {w:World} {v:Value} {l:List UInt16} (h:PkS w v l) (x:Bool×Nat):wu_ (.sl x) v=some (vi l.length):=by
 rcases h with h| ⟨rfl,a,c,rfl⟩
 ·exact SlV.len h x
 ·rfl
theorem PkS.cell {w:World} {v:Value} {l:List UInt16} (h:PkS w v l):Value.oneCell' v=true∧v.cells= #[v]:=by
 rcases h with⟨b,off,c,arr,E,fz,hr,hc,⟨rfl,-,-⟩ | ⟨rfl,-,-⟩⟩ | ⟨rfl,a,c,rfl⟩
 ·exact⟨rfl,rfl⟩
 ·exact⟨rfl,rfl⟩
 ·exact⟨rfl,rfl⟩
theorem PkS.old {w w':World} {L:za_} {v:Value} {l:List UInt16} (h:PkS w v l) (hw:Hp w L w') (hb:l≠ []→ ∀b,slB v=some b→b∉keys L):PkS w' v l:=by
 by_cases hl:l= []
 ·subst hl
  rcases h with⟨b,off,c,arr,E,fz,hr,hc,⟨rfl,-,-⟩ | ⟨rfl,-,-⟩⟩ |h
  ·exact .inl (SlV.nil w')
  ·exact .inr ⟨rfl,_,_,rfl⟩
  ·exact .inr h
 ·exact .inl ((h.resolve_right fun e=>hl e.1).old hw fun b h1 _=>hb hl b h1)
def PkB (w:World) (X:za_) (l:List UInt16) (v:Value):Prop:=l≠ []→ ∀b,slB v=some b→b<w.heap.size∧b∉keys X
theorem acO_ {w:World} {v:Value} {l:List UInt16} {b off:Nat} {arr:Array Value} {E:TypeId} {fz:Nat×Nat} (h:RowS 1 u16C 0 w v l b off arr E fz) {k:Nat} (hk:k<l.length) (n:Nat):
  zy_ (some (false,n)) (some (.cells arr E fz)) (off+k)=some (v16 (l.getD k 0)):=by
 have:=h.cell (j:=0) (n:=n) hk (by omega)
 rwa [Nat.mul_one,Nat.add_zero] at this
def jB_ (l:List UInt16) (n:Nat):Nat:=match l with
 | []=>0
 |x::_=>x.toNat% (n+1)
def qV_ (v:Value):Obj:= .cells #[v] 25 (0,0)
theorem XE_ (v:Value) (n:Nat):zy_ (some (false,n)) (some (qV_ v)) 0=some v:=(rfl)
theorem aac_ (v x:Value) (a:Bool) (hx:Value.oneCell' x=true∧x.cells= #[x]):zM_ (some (a,1)) (some (qV_ v)) 0 x=some (qV_ x):=
 z8_ [] [v] [x] [] a _ 25 rfl rfl hx.2 rfl (by simp[hx.1])
theorem add_ {m:Nat} {α:Type} {enc:α→List Value} {z:α} {w:World} {v:Value} {l:List α} (h:SlV m enc z w v l):Value.oneCell' v=true∧v.cells= #[v]:=by
 obtain⟨b,off,c,arr,E,fz,hr,hc,⟨rfl,-,-⟩ | ⟨rfl,-,-⟩⟩:=h
 ·exact⟨rfl,rfl⟩
 ·exact⟨rfl,rfl⟩
set_option linter.defProp false
def KM_:=And.intro (@zx_) (And.intro (@zw_) (@XE_))
theorem wv_ (n:Nat) (b:Nat) (v:Value) (l:List UInt16) (w:World) (hn:n<4611686018427387904) (hv:PkS w v l) (hl:l.length<1000000) (hnb:l≠ []→slB v≠some b) (ho:w.heap[b]? =some (qV_ v)):
  Rets Tryd.prog 28 #[vi n,vp b 0] w (fun r D=> ∃o,D= [(b,o)]∧r=vi (jB_ l n:Nat)∧ ∃v',o=qV_ v'∧(l= []→v'=v)∧(l≠ []→z4_ (.sl (false,1)) v (some (some 1)) none=some v')):=by
 refine Rets.enterM Tryd.func28 rfl (rs:= [.tmp 3]) Tryd.results28 Tryd.ntmps28 ho ?_
 refine kf ?_
 have ln:=hv.len
 cases l with
 |nil=>
  first|with_reducible refine ks [] (And.intro @KM_ @ln) ?_|refine kp (And.intro @KM_ @ln) ?_
  refine⟨_,_,_,(ke @KM_),rfl,trivial, ?_⟩
  exact⟨rfl,v,rfl,fun _=>rfl,fun h=>absurd rfl h⟩
 |cons x l=>
  have hv:abC_ w v (x::l):=hv.resolve_right fun e=>by cases e.1
  obtain⟨v1,h1,h2,-⟩:=hv.dropE (k:=1) (by simp) false
  have hc1:=add_ h2
  have st:=fun a=>aac_ v v1 a hc1
  obtain⟨rb,off,c,arr,E,fz,hr,hc,⟨q1,q2,q3⟩ | ⟨rfl,hb,-⟩⟩:=hv
  ·exact absurd q2 (by simp)
  have hne:rb≠b:=fun e=>hnb (by simp) (by rw[e];rfl)
  have ix:=hr.idx false 0 (by simp)
  have ld:=fun n=>acO_ hr (k:=0) (by simp) n
  have e0: ((((x::l).length:Nat):Int)==0)=false:=beq_eq_false_iff_ne.2 (by simp;omega)
  have rd:zm_ w [(b,qV_ (vsl rb off (x::l).length c))] rb=some (.cells arr E fz):=by rw[qi_ (by simpa [keys] using hne)];exact hb
  rw[Nat.zero_mul,Nat.add_zero] at ix
  rw[show((1:Nat):Int)=1 from rfl] at h1
  simp only[Nat.add_zero] at ld
  first|with_reducible refine ks [] (And.intro @KM_ (And.intro @ln (And.intro @e0 (And.intro @ix (And.intro @ld (And.intro @rd (And.intro @h1 (@st)))))))) ?_|refine kp (And.intro @KM_ (And.intro @ln (And.intro @e0 (And.intro @ix (And.intro @ld (And.intro @rd (And.intro @h1 (@st)))))))) ?_
  refine⟨_,_,_,(ke @KM_),rfl,trivial, ?_⟩
  refine⟨?_,v1,rfl,fun h=>absurd h (by simp),fun _=>h1⟩
  show vi _=vi _
  congr 1
end Go.Proofs
end
section
open Go Go.Proofs Go.Sx Go.StP
namespace Go.Proofs
set_option maxRecDepth 10000
set_option maxHeartbeats 400000
set_option linter.unusedSimpArgs false
theorem DkP.stl1 {X L:za_} {G:DkG} {S:DiskL} (h:DkP X G S) {k:Nat} (hk:k<3) {l':NmL} (keep: ∀b o,Sx.look X b=some o→b≠G.t k→Sx.look L b=some o) (hs:NmM L G.fb (G.t k) l') (h1:SrtN l') (h3: ∀p,p∈l'→p.2<S.files.length):
  DkP L G (zN_ S k ⟨(S.dir k).seen,l',(S.dir k).pend⟩):=by
 obtain⟨osk,msk,hosk,hmsk,-⟩:=h.stl k hk
 have hns: ∀b o,Sx.look X b=some o→tyO o≠none→b≠G.t k:=by
  rintro b o hb ht rfl
  rw[hosk] at hb;cases hb;exact ht (zQ_ hmsk)
 have K: ∀b o,Sx.look X b=some o→tyO o≠none→Sx.look L b=some o:=fun b o hb h1=>keep b o hb (hns b o hb h1)
 have es: ∀j,(zN_ S k ⟨(S.dir k).seen,l',(S.dir k).pend⟩).dir j=if j=k then⟨(S.dir k).seen,l',(S.dir k).pend⟩ else S.dir j:=fun _=>rfl
 have e2: ∀j,((zN_ S k ⟨(S.dir k).seen,l',(S.dir k).pend⟩).dir j).seen=(S.dir j).seen:=fun j=>by
  rw[es];by_cases e:j=k
  ·subst e;rw[if_pos rfl]
  ·rw[if_neg e]
 have e3: ∀j,((zN_ S k ⟨(S.dir k).seen,l',(S.dir k).pend⟩).dir j).pend=(S.dir j).pend:=fun j=>by
  rw[es];by_cases e:j=k
  ·subst e;rw[if_pos rfl]
  ·rw[if_neg e]
 refine⟨K _ _ h.disk (by simp[tyO,qb_]), ?_,fun j hj=>K _ _ (h.dir j hj) (by simp[tyO,qF_]),fun j hj=> ?_,fun j hj=> ?_,fun j hj=> ?_,fun n hn=>K _ _ (h.file n hn) (by simp[tyO,jj_]),h.len,h.nodf,h.nodm,h.nodd,h.nodb,h.nodp,k4_ h.ok _ (h.ok.seen k hk) h1 (h.ok.seenN k hk) h3 (h.ok.pendN k hk)⟩
 ·obtain⟨o,h1,h2⟩:=h.dirs
  exact⟨o,keep _ _ h1 (h.nodb k hk).2,h2⟩
 ·rw[e2]
  obtain⟨o,m,h1,h2,h3⟩:=h.seen j hj
  exact⟨o,m,keep _ _ h1 (xy_ h.nodm hj hk).2.2,h2,h3⟩
 ·rw[es]
  by_cases e:j=k
  ·subst e;rw[if_pos rfl];exact hs
  ·rw[if_neg e]
   obtain⟨o,m,h1,h2,h3⟩:=h.stl j hj
   exact⟨o,m,keep _ _ h1 ((xy_ h.nodm hj hk).2.1 e),h2,h3⟩
 ·rw[e3]
  obtain⟨vals,h1,h2,h3⟩:=h.pend j hj
  refine⟨vals,h1,h2.keep fun b o hb ho=> ?_,fun i hi=>(h3 i hi).keep fun b o ho hx=>K b o ho ?_⟩
  ·obtain⟨arr,ha⟩:=x9_ h2 hb
   rw[ho] at ha;cases ha
   exact K _ _ ho (by simp[tyO])
  ·rcases hx with⟨s,rfl⟩ | ⟨a,rfl⟩<;>simp[tyO,kz_,wE_]
theorem ja_ (S:DiskL) (k:Nat) (d:DirL): (zN_ S k d).dir k=d:=by
 unfold zN_;simp
theorem vr_ (S:DiskL) {k j:Nat} (d:DirL) (h:j≠k): (zN_ S k d).dir j=S.dir j:=by
 unfold zN_;simp[h]
theorem wz_ (S:DiskL) (k:Nat) (d d':DirL):zN_ (zN_ S k d) k d'=zN_ S k d':=by
 unfold zN_
 simp only
 congr 1
 funext j
 by_cases e:j=k
 ·rw[if_pos e,if_pos e]
 ·rw[if_neg e,if_neg e,if_neg e]
def aer_ (d:DirL):Prop:= ∀i,i<d.pend.length→okC ((d.pend.take i).foldl zU_ d.stl) (d.pend.getD i jH_)
def j7_ (S:DiskL) (k i:Nat):NmL:=((S.dir k).pend.take i).foldl zU_ (S.dir k).stl
def XW_ (q:DiskL×List UInt16) (k:Nat):DiskL×List UInt16:=
 (zN_ q.1 k ⟨j7_ q.1 k (jB_ q.2 (q.1.dir k).pend.length),j7_ q.1 k (jB_ q.2 (q.1.dir k).pend.length),[]⟩,q.2.drop 1)
def zD_ (q:DiskL×List UInt16):Nat→DiskL×List UInt16
 |0=>q
 |k+1=>XW_ (zD_ q k) k
theorem XD_ (l:List UInt16) (n:Nat):jB_ l n≤n:=by
 unfold jB_
 split
 ·exact Nat.zero_le _
 ·have:=Nat.mod_lt ‹UInt16›.toNat (show 0<n+1 by omega)
  omega
theorem Kr_ {S:DiskL} {k i:Nat} (h:i< (S.dir k).pend.length):j7_ S k (i+1)=zU_ (j7_ S k i) ((S.dir k).pend.getD i jH_):=by
 unfold j7_
 rw[StP.take_snoc (z:=jH_) h,List.foldl_append];rfl
end Go.Proofs
end
section
open Go Go.Proofs Go.Sx Go.StP
namespace Go.Proofs
set_option maxRecDepth 10000
set_option maxHeartbeats 400000
set_option linter.unusedSimpArgs false
theorem DkP.away {X:za_} {G:DkG} {S:DiskL} (h:DkP X G S) {b:Nat} {v:Value} (hb:Sx.look X b=some (qV_ v)) (x:Obj):DkP (setB X b x) G S where
 disk:=zs_ hb h.disk (by simp[tyO,qb_,qV_])
 dirs:=by obtain⟨o,h1,h2⟩:=h.dirs;exact⟨o,zs_ hb h1 (by rw[zQ_ h2];intro e;cases e),h2⟩
 dir k hk':=zs_ hb (h.dir k hk') (by simp[tyO,qF_,qV_])
 seen k hk':=by
  obtain⟨o,m,h1,h2,h3⟩:=h.seen k hk'
  exact⟨o,m,zs_ hb h1 (by rw[zQ_ h2];intro e;cases e),h2,h3⟩
 stl k hk':=by
  obtain⟨o,m,h1,h2,h3⟩:=h.stl k hk'
  exact⟨o,m,zs_ hb h1 (by rw[zQ_ h2];intro e;cases e),h2,h3⟩
 pend k hk':=by
  obtain⟨vals,h1,h2,h3⟩:=h.pend k hk'
  refine⟨vals,h1,h2.keep fun b o hb' ho=> ?_,fun i hi=>(h3 i hi).keep fun b o ho hx=>zs_ hb ho ?_⟩
  ·obtain⟨arr,ha⟩:=x9_ h2 hb'
   rw[ho] at ha;cases ha
   exact zs_ hb ho (by simp[tyO,qV_])
  ·rcases hx with⟨s,rfl⟩ | ⟨a,rfl⟩<;>simp[tyO,qV_,kz_,wE_]
 file n hn:=zs_ hb (h.file n hn) (by simp[tyO,jj_,qV_])
 len:=h.len
 nodf:=h.nodf
 nodm:=h.nodm
 nodd:=h.nodd
 nodb:=h.nodb
 nodp:=h.nodp
 ok:=h.ok
theorem QD_ {w:World} {v v':Value} {q:List UInt16} (hv:PkS w v q) (h1:q= []→v'=v) (h2:q≠ []→z4_ (.sl (false,1)) v (some (some 1)) none=some v'):PkS w v' (q.drop 1)∧ ∀ {X:za_},PkB w X q v→PkB w X (q.drop 1) v':=by
 cases q with
 |nil=>rw[h1 rfl];exact⟨hv,fun h=>h⟩
 |cons x l=>
  have hv:abC_ w v (x::l):=hv.resolve_right fun e=>by cases e.1
  obtain⟨v2,e1,e2,e3⟩:=hv.dropE (k:=1) (by simp) false
  have:=h2 (by simp)
  rw[show((1:Nat):Int)=1 from rfl,this] at e1
  cases e1
  exact⟨.inl e2,fun h _ b hb=>h (by simp) b (e3 b hb)⟩
theorem acW_ {w w1:World} {L:za_} {T:TypeId} {v:Value} {vals:List Value} (h:Gr L T 1 v vals.length vals) (hw:Hp w L w1) {n:Nat} (hn:n≤vals.length):
  ∃vc rb off arr E fz,z4_ (.sl (false,1)) v none (some (some (n:Int)))=some vc∧RowS 1 (fun v:Value=> [v]) undef w1 vc (vals.take n) rb off arr E fz∧(0<n→Sx.look L rb=some (.cells arr E fz)):=by
 have hfl:vals=(vals.map fun v:Value=> [v]).flatten:=by
  clear h hn
  induction vals with
  |nil=>rfl
  |cons x l ih=>simp[←ih]
 have hsl:SlV 1 (fun v:Value=> [v]) undef w1 v vals:=h.slV hw rfl hfl (fun _=>rfl)
 obtain⟨vc,h1,h2,h3⟩:=hsl.take hn false
 obtain⟨b,off,c,arr,E,fz,hr,hc,⟨q1,q2,q3⟩ | ⟨q1,hb,hs⟩⟩:=h2
 ·refine⟨vc,b,off,arr,E,fz,h1,hr,fun h0=> ?_⟩
  have:=congrArg List.length q2
  rw[List.length_take,List.length_nil,Nat.min_eq_left hn] at this
  omega
 ·refine⟨vc,b,off,arr,E,fz,h1,hr,fun h0=> ?_⟩
  have hk:=h.key (h3 b (by rw[q1];rfl))
  obtain⟨o,ho⟩:=Zb_ hk
  have:=hw.has _ _ (zi_ ho)
  rw[hb] at this
  rw[ho,this]
theorem acP_ {w:World} {v:Value} {l:List Value} {b off:Nat} {arr:Array Value} {E:TypeId} {fz:Nat×Nat} (h:RowS 1 (fun v:Value=> [v]) undef w v l b off arr E fz) {k:Nat} (hk:k<l.length) (n:Nat):
  zy_ (some (false,n)) (some (.cells arr E fz)) (off+k)=some (l.getD k undef):=by
 have:=h.cell (j:=0) (n:=n) hk (by omega)
 rwa [Nat.mul_one,Nat.add_zero] at this
theorem Vc_ (a b y:Nat) (v:Value) (x:Bool):zM_ (some (x,1)) (some (qF_ a b v)) 0 (vm y)=some (qF_ y b v):=z8_ [] [vm a] [vm y] [vm b,v] x _ 52 rfl rfl rfl rfl rfl
theorem Jt_ (S:DiskL) (k:Nat):zN_ S k (S.dir k)=S:=by
 unfold zN_
 cases S
 simp only
 congr 1
 funext j
 by_cases e:j=k
 ·subst e;simp
 ·simp[e]
def qA_ (q:DiskL×List UInt16) (p:List UInt8×Nat):DiskL×List UInt16:=
 (V4_ q.1 p.2 ⟨(zH_ q.1 p.2).data.take ((zH_ q.1 p.2).stl+jB_ q.2 ((zH_ q.1 p.2).data.length - (zH_ q.1 p.2).stl)),((zH_ q.1 p.2).data.take ((zH_ q.1 p.2).stl+jB_ q.2 ((zH_ q.1 p.2).data.length - (zH_ q.1 p.2).stl))).length⟩,q.2.drop 1)
def zT_ (q:DiskL×List UInt16):Nat→DiskL×List UInt16
 |0=>q
 |k+1=>(q.1.dir k).seen.foldl qA_ (zT_ q k)
def vd_ (S:DiskL):DiskL:={S with off:=false,fused:=false}
def kN_ (S:DiskL) (pl:List UInt16):DiskL:=(zT_ (vd_ (zD_ (S,pl) 3).1,(zD_ (S,pl) 3).2) 3).1
theorem wg_ (q:DiskL×List UInt16) (l:NmL): (l.foldl qA_ q).1.dir=q.1.dir:=by
 induction l generalizing q with
 |nil=>rfl
 |cons p l ih=>rw[List.foldl_cons,ih];rfl
theorem jc_ (q:DiskL×List UInt16): ∀k,(zT_ q k).1.dir=q.1.dir
 |0=>rfl
 |k+1=>by
  show(List.foldl qA_ (zT_ q k) _).1.dir=_
  rw[wg_,jc_ q k]
theorem KN_ (q:DiskL×List UInt16) (l:NmL): (l.foldl qA_ q).1.off=q.1.off:=by
 induction l generalizing q with
 |nil=>rfl
 |cons p l ih=>rw[List.foldl_cons,ih];rfl
theorem wd_ (q:DiskL×List UInt16): ∀k,(zT_ q k).1.off=q.1.off
 |0=>rfl
 |k+1=>by
  show(List.foldl qA_ (zT_ q k) _).1.off=_
  rw[KN_,wd_ q k]
structure C3G where
 k:Nat
 L:za_
 v:Value
structure C4G where
 j:Nat
 L:za_
 v:Value
structure C1G where
 k:Nat
 G:DkG
 L:za_
 v:Value
structure C2G where
 j:Nat
 L:za_
theorem wc_ (q:DiskL×List UInt16): ∀ {k j:Nat},k≤j→(zD_ q k).1.dir j=q.1.dir j
 |0,_,_=>rfl
 |k+1,j,h=>by
  show(zN_ _ k _).dir j=_
  rw[vr_ _ _ (by omega)]
  exact wc_ q (by omega)
set_option linter.defProp false
def zA_:=And.intro (And.intro (And.intro (@zx_) (@zw_)) (And.intro (@zJ_) (And.intro (@z0_) (@zV_)))) (And.intro (And.intro (@zW_) (@jd_)) (And.intro (@jh_) (And.intro (@XE_) (@abI_))))
theorem Q4_ (X:za_) (G0:DkG) (S:DiskL) (v0:Value) (pl:List UInt16) (w:World) (hX: ∀p,p∈X→w.heap[p.1]? =some p.2) (hn: (keys X).Nodup) (hP0:DkP X G0 S) (hGl:vU_ w) (hgx:0∉keys X) (hB:DkB (zD_ (S,pl) 3).1)
  (hv0:PkS w v0 pl) (hpx:PkB w X pl v0) (hpl:pl.length<1000000) (hpn: ∀k,k<3→aer_ (S.dir k)∧(S.dir k).pend.length<1000000):
  Rets Tryd.prog 16 #[vp G0.bd 0,v0] w (XS w X (fun _v D=> ∃G',G'.bd=G0.bd∧DkP D G' (kN_ S pl))):=by
 obtain⟨eg,fzg,hgl⟩:=hGl
 refine Rets.enterX Tryd.func16 rfl (rs:= []) Tryd.results16 Tryd.ntmps16 hX hn ?_
 refine kf ?_
 first|with_reducible refine ks [3] @zA_ ?_|refine kp @zA_ ?_
 refine Ow.box rfl rfl fun bk hbk hwk=> ?_
 simp only[ji_,jf_,jx_,hv0.cell.2]
 refine Ow.permL (M:=X++ [(bk,qV_ v0)]) (List.Perm.refl _) ?_
 refine ko @zA_ ?_
 first|with_reducible refine ks [3] @zA_ ?_|refine kp @zA_ ?_
 simp only[List.map_toArray,List.map_cons,List.map_nil,ji_,jf_,jx_]
 have rdg: ∀L,Ext w X L→zm_ w L 0=some (.cells #[vs zt_,vs jP_,vs JD_] eg fzg):=fun L hE=>hE.old hgl hgx
 have hE0:Ext w X (X++ [(bk,qV_ v0)]):=(Ext.refl w X).app hwk
 have hr0:=rdg _ hE0
 have hl0:Sx.look (X++ [(bk,qV_ v0)]) bk=some (qV_ v0):=qU_ hbk
 have hP1:DkP (X++ [(bk,qV_ v0)]) G0 S:=hP0.mono fun b o h=>zn_ h
 generalize X++ [(bk,qV_ v0)]=L0 at*
 first|with_reducible refine ks [5,8,12,16] (And.intro @zA_ (And.intro @hr0 (@qZ_))) ?_|refine kp (And.intro @zA_ (And.intro @hr0 (@qZ_))) ?_
 refine Cw.loopG (G:=C1G) [20,21,6,22,23,24,25,26,27,7,28,29,30,31,32,33,34,35,36,37,38,39,40,41,42,43,44,9,45,46,47,48,49,50,51,52,53,54,55,56,57,58,59,60,61,62,63,19] (fun g=> [(19,vi g.k)]) (fun g=>g.L) (fun g=>g.k≤3∧DkP g.L g.G (zD_ (S,pl) g.k).1∧g.G.bd=G0.bd∧Sx.look g.L bk=some (qV_ g.v)∧PkS w g.v (zD_ (S,pl) g.k).2∧PkB w X (zD_ (S,pl) g.k).2 g.v∧Ext w X g.L∧(zD_ (S,pl) g.k).2.length<1000000) (fun g=>3 - g.k) ⟨0,G0,L0,v0⟩ rfl rfl ?_ ?_
 ·exact⟨Nat.zero_le _,hP1,rfl,hl0,hv0,hpx,hE0,hpl⟩
 intro g j hg
 refine kv ?_
 clear hr0 hl0 hP1 hE0
 obtain⟨k,G,L,v⟩:=g
 simp only at hg ⊢
 obtain⟨hk,hP,hbd,hlk,hv,hvb,hE,hpl1⟩:=hg
 rw[←hbd]
 by_cases hlt:k<3
 ·have d1:decide ((k:Int)<3)=true:=decide_eq_true (by omega)
  have ixk:=xu_ hlt
  obtain⟨om,hom,hM⟩:=hP.dirs
  have hrd:=zc_ (w0:=w) hP.disk
  have hrr:=zc_ (w0:=w) (hP.dir k hlt)
  have hpd:z6_ (some (G.d k))=vp (G.d k) 0:=rfl
  have hdk:=wc_ (S,pl) (Nat.le_refl k)
  simp only at hdk
  obtain⟨vals,hvl,hGr,hF⟩:=hP.pend k hlt
  rw[hdk] at hvl hF
  have hpn1:=(hpn k hlt).2
  have lnp:=hGr.len (false,1)
  first|with_reducible refine ks [] (And.intro @zA_ (And.intro @d1 (And.intro @ixk (@hrd)))) ?_|refine kp (And.intro @zA_ (And.intro @d1 (And.intro @ixk (@hrd)))) ?_
  refine Ow.mapGetG (encK:=vs) (encV:=z6_) (k:=Zo_ k) (z:=none) rfl rfl Tryd.underlying60 qS_ zrPd rfl rfl (zc_ hom) hM ?_
  rw[wR_,q9_ hlt]
  show Ow _ _ _ _ _ _ _ _
  refine ko (And.intro @zA_ @hpd) ?_
  first|with_reducible refine ks [] @zA_ ?_|refine kp @zA_ ?_
  refine Cw.regionS [G.d k] [0,1,2,4,5,6,7,13,3,8,9,10,11,12] [] (by kernel_rfl) (by kernel_rfl) (by kernel_rfl) ?_
  refine kya ?_
  refine kq (And.intro @zA_ (And.intro @hrr (@lnp))) ?_
  refine Ow.softA ?_
  refine Ow.callFnXC (b:=vi vals.length) (ars:= #[vi vals.length,vp bk 0]) rfl (X:=L) (Y:= []) (List.append_nil _).symm rfl rfl rfl rfl Tryd.call28 (fun w' hw' hX' hn'=>Rets.chunk hX' hn' (zb_ hlk) (wv_ vals.length bk v (zD_ (S,pl) k).2 w' (by omega) (hv.old hw' fun hq b hb=>hE.not (hvb hq b hb).1 (hvb hq b hb).2) hpl1 (fun hq e=>by have:=(hvb hq bk e).1;omega) (hX' _ (zi_ hlk)))) (fun r D hC hS=> ?_)
  obtain⟨o,rfl,rfl,v',rfl,hv1,hv2⟩:=hS
  rw[List.append_nil]
  obtain⟨hvn,hvn2⟩:=QD_ hv hv1 hv2
  have hP1:=hP.away hlk (qV_ v')
  have hE1:=hE.came0 hC
  have hk1: ∀b o,Sx.look L b=some o→tyO o≠some 25→Sx.look (setB L bk (qV_ v')) b=some o:=fun b o hb ht=>zs_ hlk hb ht
  have hlk1:Sx.look (setB L bk (qV_ v')) bk=some (qV_ v'):=zF_ hlk
  have hrr1:=zc_ (w0:=w) (hP1.dir k hlt)
  have hGr1:Gr (setB L bk (qV_ v')) 66 1 (G.p k) vals.length vals:=hGr.keep fun b o hb ho=>by
   obtain⟨arr,ha⟩:=x9_ hGr hb
   rw[ho] at ha;cases ha
   exact hk1 _ _ ho (by simp[tyO])
  have hF1: ∀i,i<vals.length→FnP (setB L bk (qV_ v')) G.fb (vals.getD i undef) ((S.dir k).pend.getD i jH_):=fun i hi=>(hF i hi).keep fun b o ho hx=>hk1 _ _ ho (by rcases hx with⟨s,rfl⟩ | ⟨a,rfl⟩<;>simp[tyO,kz_,wE_])
  have hple:=XD_ (zD_ (S,pl) k).2 vals.length
  have hcr:zD_ (S,pl) (k+1)=XW_ (zD_ (S,pl) k) k:=rfl
  unfold XW_ at hcr
  rw[hdk,←hvl] at hcr
  generalize jB_ (zD_ (S,pl) k).2 vals.length=n at*
  have hbkd:bk≠G.d k:=fun e=>by
   have hdd:=hP1.dir k hlt
   rw[←e,hlk1] at hdd
   simp[qF_,qV_] at hdd
  generalize setB L bk (qV_ v')=L1 at*
  refine Ow.world fun w1 hw1=> ?_
  obtain⟨vc,rb,off,arr,E,fz,hsl,hrw,hlr⟩:=acW_ hGr1 hw1 hple
  clear hw1
  have lnc:=hrw.len (false,1)
  rw[List.length_take,Nat.min_eq_left hple] at lnc
  with_reducible refine Ow.nil ?_
  refine⟨fun b hb=>by rw[List.mem_singleton] at hb;subst hb;rw[hrr,hrr1], ?_⟩
  refine kq (And.intro @zA_ (And.intro @hsl (@lnc))) ?_
  have hself:zN_ (zD_ (S,pl) k).1 k ⟨((zD_ (S,pl) k).1.dir k).seen,j7_ (zD_ (S,pl) k).1 k 0,((zD_ (S,pl) k).1.dir k).pend⟩=(zD_ (S,pl) k).1:=Jt_ _ _
  have hfe: ∀j,j7_ (zD_ (S,pl) k).1 k j=j7_ S k j:=fun j=>by unfold j7_;rw[hdk]
  have hq2: (zD_ (S,pl) (k+1)).2=(zD_ (S,pl) k).2.drop 1:=rfl
  generalize zD_ (S,pl) k=q at*
  obtain⟨Sk,pk⟩:=q
  simp only at*
  refine Cw.loopG (G:=C2G) [42,43,44,9,45,46,47,48,49,50,51,41] (fun g=> [(41,vi g.j)]) (fun g=>g.L) (fun g=>g.j≤n∧DkP g.L G (zN_ Sk k ⟨(Sk.dir k).seen,j7_ Sk k g.j,(Sk.dir k).pend⟩)∧Sx.look g.L bk=some (qV_ v')∧Ext w X g.L∧(∀b o,Sx.look L1 b=some o→b≠G.t k→Sx.look g.L b=some o)) (fun g=>n - g.j) ⟨0,L1⟩ rfl rfl ?_ ?_
  ·exact⟨Nat.zero_le _,by rw[hself];exact hP1,hlk1,hE1,fun _ _ h _=>h⟩
  intro g j hg
  refine kv ?_
  obtain⟨j,L2⟩:=g
  simp only at hg ⊢
  obtain⟨hj,hP2,hlk2,hE2,hkp⟩:=hg
  by_cases hjt:j<n
  ·have d2:decide ((j:Int)< (n:Int))=true:=decide_eq_true (by omega)
   have hjm:j< (vals.take n).length:=by rw[List.length_take,Nat.min_eq_left hple];exact hjt
   have ix3:=hrw.idx false j hjm
   rw[Nat.mul_one] at ix3
   have ld3:=fun n=>acP_ hrw hjm n
   have hvj: (vals.take n).getD j undef=vals.getD j undef:=by
    rw[List.getD_eq_getElem?_getD,List.getD_eq_getElem?_getD,List.getElem?_take_of_lt hjt]
   rw[hvj] at ld3
   have hpj:j< (S.dir k).pend.length:=by omega
   have htm: ∀ {b:Nat} {o:Obj},Sx.look L1 b=some o→tyO o≠none→b≠G.t k:=by
    intro b o hb ht e
    obtain⟨ot,mt,hot,hmt,-⟩:=hP1.stl k hlt
    rw[e,hot] at hb;cases hb
    exact ht (zQ_ hmt)
   have hFj:FnP L2 G.fb (vals.getD j undef) ((S.dir k).pend.getD j jH_):=(hF1 j (by omega)).keep fun b o ho hx=>hkp b o ho (htm ho (by rcases hx with⟨s,rfl⟩ | ⟨a,rfl⟩<;>simp[tyO,kz_,wE_]))
   have hN2:=hP2.stl k hlt
   have hs2:=hP2.ok.stl k hlt
   have hl2:=hP2.ok.stlN k hlt
   have hp2:=hP2.ok.pendN k hlt
   rw[ja_] at hN2 hs2 hl2 hp2
   have hok:okC (j7_ Sk k j) ((S.dir k).pend.getD j jH_):=by rw[hfe];exact(hpn k hlt).1 j hpj
   obtain⟨fk,cap,hvf,hfk,hcall⟩:=kv_ hFj hN2 hs2 hok
   rw[hvf] at ld3
   have hlr2:=hkp rb _ (hlr (by omega)) (htm (hlr (by omega)) (by simp[tyO]))
   have rd3:=zc_ (w0:=w) hlr2
   have hrr2:=zc_ (w0:=w) (hP2.dir k hlt)
   have hbk2:=htm hlk1 (by simp[tyO,qV_])
   first|with_reducible refine ks [] (And.intro @zA_ (And.intro @d2 (And.intro @ix3 (And.intro @ld3 (And.intro @rd3 (@hrr2)))))) ?_|refine kp (And.intro @zA_ (And.intro @d2 (And.intro @ix3 (And.intro @ld3 (And.intro @rd3 (@hrr2)))))) ?_
   refine Ow.callFnXC (b:=vm (G.t k)) (cap:=cap) (ars:= #[vm (G.t k)]++cap) rfl (X:=L2) (Y:= []) (List.append_nil _).symm rfl rfl rfl rfl hfk (fun w' hw' hX' hn'=>hcall w' hX' hn') (fun r D hC hS=> ?_)
   rw[List.append_nil]
   obtain⟨rfl,o',hO,hN3⟩:=hS
   have hE3:=hE2.came0 hC
   have hP3:=hP2.stl1 hlt (l':=zU_ (j7_ Sk k j) ((S.dir k).pend.getD j jH_)) (fun b o hb hne=>(hO.rest b hne).trans hb) hN3 (XH_ _ hs2) (XC_ hl2 hok fun h0=>hp2 _ (by show _∈ (Sk.dir k).pend;rw[hdk,List.getD_eq_getElem?_getD,List.getElem?_eq_getElem hpj];exact List.getElem_mem _) h0)
   rw[ja_,wz_] at hP3
   have hnx:j7_ Sk k (j+1)=zU_ (j7_ Sk k j) ((S.dir k).pend.getD j jH_):=by rw[Kr_ (by rw[hdk];exact hpj),hdk]
   refine ko @zA_ ?_
   first|with_reducible refine ks [] @zA_ ?_|refine kp @zA_ ?_
   exact Again.mk ⟨j+1,D⟩ (by show n - (j+1)<n - j;omega) ⟨hjt,by rw[hnx];exact hP3,(hO.rest bk hbk2).trans hlk2,hE3,fun b o hb hne=>(hO.rest b hne).trans (hkp b o hb hne)⟩ rfl rfl
  ·obtain rfl:j=n:=by omega
   have d2:decide ((j:Int)< (j:Int))=false:=decide_eq_false (by omega)
   have hN2:=hP2.stl k hlt
   have hs2:=hP2.ok.stl k hlt
   have hl2:=hP2.ok.stlN k hlt
   rw[ja_] at hN2 hs2 hl2
   obtain⟨ot,mt,hot,hmt,hnp⟩:=hN2
   have hdl2:=hP2.dir k hlt
   have hrr2:=zc_ (w0:=w) hdl2
   first|with_reducible refine ks [13] (And.intro @zA_ (And.intro @d2 (@hrr2))) ?_|refine kp (And.intro @zA_ (And.intro @d2 (@hrr2))) ?_
   refine Ow.callC rfl rfl Tryd.call29 (fun w' hw'=>J4_ (G.t k) ot mt w' (hw'.has _ _ (zi_ hot)) hmt) (fun B4 v4 D4 hA4 hB4 hN4 hS4=> ?_)
   obtain⟨c,o4,rfl,rfl,hm4⟩:=hS4
   have hbc:qo_ L2 c:=zv_ fun b hb=>by
    have h1:=zB_ hA4 hb
    have h2:=hN4.le c (by simp[keys])
    omega
   have hcn:c∉keys L2:=fun hm=>by have:=zB_ hbc hm;omega
   have hl3:Sx.look (L2++ [(c,o4)]) (G.d k)=some (qF_ (G.s k) (G.t k) (G.p k)):=zn_ hdl2
   have hlc3:Sx.look (L2++ [(c,o4)]) c=some o4:=qU_ hbc
   have hkp3: ∀b o,Sx.look L2 b=some o→Sx.look (L2++ [(c,o4)]) b=some o:=fun b o h=>zn_ h
   have hE3:=hE2.app (o:=o4) (b:=c) (by have:=hN4.le c (by simp[keys]);omega)
   generalize L2++ [(c,o4)]=L3 at*
   have hr3:=zc_ (w0:=w) hl3
   have st0:=fun x=>Vc_ (G.s k) (G.t k) c (G.p k) x
   have hcd:c≠G.d k:=fun e=>hcn (by rw[e];exact zb_ hdl2)
   have hl4:Sx.look (setB L3 (G.d k) (qF_ c (G.t k) (G.p k))) (G.d k)=some (qF_ c (G.t k) (G.p k)):=zF_ hl3
   have hlc4:Sx.look (setB L3 (G.d k) (qF_ c (G.t k) (G.p k))) c=some o4:=by rw[zd_ (Ne.symm hcd)];exact hlc3
   have hkp4: ∀b o,Sx.look L2 b=some o→b≠G.d k→Sx.look (setB L3 (G.d k) (qF_ c (G.t k) (G.p k))) b=some o:=fun b o h hne=>by rw[zd_ (Ne.symm hne)];exact hkp3 b o h
   have hE4:=hE3.setB (b:=G.d k) (o:=qF_ c (G.t k) (G.p k))
   refine ko (And.intro @zA_ (And.intro @hl3 (And.intro @st0 (@wB_)))) ?_
   generalize setB L3 (G.d k) (qF_ c (G.t k) (G.p k))=L4 at*
   have hr4:=zc_ (w0:=w) hl4
   have st2:=fun x=>xP_ c (G.t k) (G.p k) (.slice none 0 0) x ⟨rfl,rfl⟩
   first|with_reducible refine ks [] (And.intro @zA_ (And.intro @hl4 (And.intro @hr4 (And.intro @st2 (@wB_))))) ?_|refine kp (And.intro @zA_ (And.intro @hl4 (And.intro @hr4 (And.intro @st2 (@wB_))))) ?_
   have hkp5: ∀b o,Sx.look L2 b=some o→b≠G.t k→b≠G.d k→Sx.look (setB L4 (G.d k) (qF_ c (G.t k) (.slice none 0 0))) b=some o:=fun b o h _ hne=>by rw[zd_ (Ne.symm hne)];exact hkp4 b o h hne
   have hmd: ∀ {b:Nat} {o:Obj} {m:List (List UInt8×Option Nat)},Sx.look L2 b=some o→j6_ vs z6_ o m→b≠G.d k:=by
    intro b o m hb hm e
    rw[e,hdl2] at hb;cases hb
    obtain⟨es,cl,h,-⟩:=hm;cases h
   have hP5:=hP2.calm hlt (s':=c) ⟨j7_ Sk k j,j7_ Sk k j,[]⟩ rfl hkp5 ⟨o4,mt,by rw[zd_ (Ne.symm hcd)];exact hlc4,hm4,hnp⟩ ⟨ot,mt,by rw[zd_ (Ne.symm (hmd hot hmt))];exact hkp4 _ _ hot (hmd hot hmt),hmt,hnp⟩ (zF_ hl4) (.inr hcn) hs2 hs2 hl2 hl2
   rw[wz_] at hP5
   have hbkd2:bk≠G.d k:=fun e=>hbkd e
   exact Again.mk ⟨k+1,aaN_ G k c,setB L4 (G.d k) (qF_ c (G.t k) (.slice none 0 0)),v'⟩ (by show 3 - (k+1)<3 - k;omega) ⟨hlt,by rw[hcr];exact hP5,rfl,by rw[zd_ (Ne.symm hbkd)];exact hkp4 _ _ hlk2 hbkd,by rw[hcr];exact hvn,by rw[hcr];exact hvn2 hvb,hE4.setB,by rw[hcr];show(pk.drop 1).length<1000000;rw[List.length_drop];omega⟩ rfl rfl
 ·obtain rfl:k=3:=by omega
  have d1:decide (((3:Nat):Int)<3)=false:=rfl
  unfold kN_
  generalize zD_ (S,pl) 3=q at*
  obtain⟨S3,p3⟩:=q
  simp only at*
  have hok1:DkOk {S3 with off:=false}:=⟨hP.ok.seen,hP.ok.stl,hP.ok.seenN,hP.ok.stlN,hP.ok.pendN,hP.ok.file,hP.ok.fuse,hP.ok.max⟩
  have hP1:=hP.setDisk {S3 with off:=false} rfl rfl hok1
  have hok2:DkOk (vd_ S3):=⟨hP.ok.seen,hP.ok.stl,hP.ok.seenN,hP.ok.stlN,hP.ok.pendN,hP.ok.file,⟨hP.ok.fuse.1,hP.ok.fuse.2.1,fun h=>by cases h⟩,hP.ok.max⟩
  have hP2:=hP1.setDisk (vd_ S3) rfl rfl hok2
  have hr0:=zc_ (w0:=w) hP.disk
  have hl1:=hP.disk
  have hl2:=hP1.disk
  have st4:=fun x=>ww_ G.bm S3 false x
  have st3:=fun x=>wr_ G.bm {S3 with off:=false} false x
  have hrg:=rdg
  have hbkb:bk≠G.bd:=fun e=>by
   have hdd:=hP.disk
   rw[←e,hlk] at hdd
   simp[qb_,qV_] at hdd
  have hlk2:Sx.look (setB (setB L G.bd (qb_ G.bm {S3 with off:=false})) G.bd (qb_ G.bm (vd_ S3))) bk=some (qV_ v):=by
   rw[zd_ (Ne.symm hbkb),zd_ (Ne.symm hbkb)];exact hlk
  have hE2:=(hE.setB (b:=G.bd) (o:=qb_ G.bm {S3 with off:=false})).setB (b:=G.bd) (o:=qb_ G.bm (vd_ S3))
  have hr2:=rdg _ hE2
  have hr5:zm_ w (setB (setB L G.bd (qb_ G.bm {S3 with off:=false})) G.bd (qb_ G.bm {S3 with off:=false,fused:=false})) 0=_:=hr2
  have hlk5:Sx.look (setB (setB L G.bd (qb_ G.bm {S3 with off:=false})) G.bd (qb_ G.bm {S3 with off:=false,fused:=false})) bk=some (qV_ v):=hlk2
  have hE5:Ext w X (setB (setB L G.bd (qb_ G.bm {S3 with off:=false})) G.bd (qb_ G.bm {S3 with off:=false,fused:=false})):=hE2
  have hP5:DkP (setB (setB L G.bd (qb_ G.bm {S3 with off:=false})) G.bd (qb_ G.bm {S3 with off:=false,fused:=false})) G (vd_ S3):=hP2
  clear hr2 hlk2 hE2 hP2
  first|with_reducible refine ks [17] (And.intro @zA_ (And.intro @d1 (And.intro @hl1 (And.intro @hl2 (And.intro @st4 (And.intro @st3 (And.intro @wB_ (And.intro @hr5 (@qZ_))))))))) ?_|refine kp (And.intro @zA_ (And.intro @d1 (And.intro @hl1 (And.intro @hl2 (And.intro @st4 (And.intro @st3 (And.intro @wB_ (And.intro @hr5 (@qZ_))))))))) ?_
  generalize hL5:setB (setB L G.bd (qb_ G.bm {S3 with off:=false})) G.bd (qb_ G.bm {S3 with off:=false,fused:=false})=L5 at*
  have hdw: (vd_ S3).dir=S3.dir:=rfl
  have how: (vd_ S3).off=false:=rfl
  generalize vd_ S3=S5 at*
  refine Cw.loopG (G:=C3G) [72,73,11,74,75,76,77,78,79,80,81,13,82,83,84,85,86,87,88,89,90,91,92,14,93,94,95,96,97,98,99,100,101,102,103,104,105,106,107,108,109,110,111,112,113,114,115,116,117,118,119,120,121,122,123,124,125,126,127,71] (fun g=> [(71,vi g.k)]) (fun g=>g.L) (fun g=>g.k≤3∧DkP g.L G (zT_ (S5,p3) g.k).1∧Sx.look g.L bk=some (qV_ g.v)∧PkS w g.v (zT_ (S5,p3) g.k).2∧PkB w X (zT_ (S5,p3) g.k).2 g.v∧Ext w X g.L∧(zT_ (S5,p3) g.k).2.length<1000000) (fun g=>3 - g.k) ⟨0,L5,v⟩ rfl rfl ?_ ?_
  ·exact⟨Nat.zero_le _,hP5,hlk5,hv,hvb,hE5,hpl1⟩
  intro g j hg
  refine kv ?_
  obtain⟨k,L6,v6⟩:=g
  simp only at hg ⊢
  obtain⟨hk6,hP6,hlk6,hv6,hvb6,hE6,hpl6⟩:=hg
  by_cases hlt6:k<3
  ·have d6:decide ((k:Int)<3)=true:=decide_eq_true (by omega)
   have ixk:=xu_ hlt6
   have hd6:=jc_ (S5,p3) k
   have ho6:=wd_ (S5,p3) k
   simp only at hd6 ho6
   have hB6:DkB (zT_ (S5,p3) k).1:=by
    intro i hi
    rw[hd6,hdw];exact hB i hi
   have hcm:zT_ (S5,p3) (k+1)=((S5.dir k).seen).foldl qA_ (zT_ (S5,p3) k):=rfl
   first|with_reducible refine ks [26] (And.intro @zA_ (And.intro @d6 (@ixk))) ?_|refine kp (And.intro @zA_ (And.intro @d6 (@ixk))) ?_
   refine Ow.callC rfl rfl Tryd.call7 (fun w' hw'=>KK_ w' G (zT_ (S5,p3) k).1 (Zo_ k) (hP6.world hw') hB6) (fun B7 v7 D7 hA7 hB7 hN7 hS7=> ?_)
   rw[VT_ hlt6,hd6,ho6,how,if_neg (by simp),←VI_] at hS7
   obtain⟨sn,hsn⟩: ∃sn,(S5.dir k).seen=sn:=⟨_,rfl⟩
   rw[hsn] at hcm hS7
   have ln7:=adv_ hS7
   rw[List.length_map] at ln7
   refine ko (And.intro @zA_ @ln7) ?_
   refine Cw.world fun w1 hw1=> ?_
   obtain⟨rb,off,arr,E,fz,hr7,hlk7⟩:=hS7.rowL (z:= []) (by rw[List.length_map]) ((hw1.perm (M:=D7++L6) List.perm_append_comm).part) abk_
   clear hw1
   have hq6:=hP6.ok.seen k hlt6
   have hsl6:=(hB6 k hlt6).1
   rw[hd6,hsn] at hq6 hsl6
   have hrn: ∀c,c∈keys L6→0<sn.length→rb≠c:=fun c hc h0 e=>by
    have h1:=zB_ hA7 hc
    have h2:=hN7.le rb (zb_ (hlk7 (by rw[List.length_map];exact h0)))
    omega
   have hlr7:0<sn.length→Sx.look (L6++D7) rb=some (.cells arr E fz):=fun h0=>by
    rw[qn_ (fun hm=>hrn rb hm h0 rfl)]
    exact hlk7 (by rw[List.length_map];exact h0)
   have hP7:DkP (L6++D7) G (zT_ (S5,p3) k).1:=hP6.mono fun b o h=>zn_ h
   have hlk8:Sx.look (L6++D7) bk=some (qV_ v6):=zn_ hlk6
   have hE7:Ext w X (L6++D7):=⟨fun c hc=>by
    rw[zk_] at hc
    rcases List.mem_append.1 hc with h|h
    ·exact hE6.new c h
    ·exact .inr (Nat.le_trans hB7 (hN7.le c h)),fun c hc=>by rw[zk_];exact List.mem_append_left _ (hE6.all c hc)⟩
   have hfk: ∀n,n< (zT_ (S5,p3) k).1.files.length→G.fb.getD n 0∈keys L6:=fun n hn=>zb_ (hP6.file n hn)
   have hbk6:=zb_ hlk6
   clear hlk7 hS7
   generalize L6++D7=L7 at*
   refine Cw.loopG (G:=C4G) [79,80,81,13,82,83,84,85,86,87,88,89,90,91,92,14,93,94,95,96,97,98,99,100,101,102,103,104,105,106,107,108,109,110,111,112,113,114,115,116,117,118,119,120,121,122,123,124,125,126,78] (fun g=> [(78,vi g.j)]) (fun g=>g.L) (fun g=>g.j≤sn.length∧DkP g.L G ((sn.take g.j).foldl qA_ (zT_ (S5,p3) k)).1∧Sx.look g.L bk=some (qV_ g.v)∧PkS w g.v ((sn.take g.j).foldl qA_ (zT_ (S5,p3) k)).2∧PkB w X ((sn.take g.j).foldl qA_ (zT_ (S5,p3) k)).2 g.v∧Ext w X g.L∧((sn.take g.j).foldl qA_ (zT_ (S5,p3) k)).2.length<1000000∧(0<sn.length→Sx.look g.L rb=some (.cells arr E fz))) (fun g=>sn.length - g.j) ⟨0,L7,v6⟩ rfl rfl ?_ ?_
   ·exact⟨Nat.zero_le _,hP7,hlk8,hv6,hvb6,hE7,hpl6,hlr7⟩
   intro g j hg
   refine kv ?_
   obtain⟨j,L8,v8⟩:=g
   simp only at hg ⊢
   obtain⟨hj,hP8,hlk9,hv8,hvb8,hE8,hpl8,hlr8⟩:=hg
   by_cases hjt:j<sn.length
   ·have d2:decide ((j:Int)< (sn.length:Int))=true:=decide_eq_true (by omega)
    have hjm:j< (sn.map Prod.fst).length:=by rw[List.length_map];exact hjt
    have ix3:=hr7.idx false j hjm
    rw[Nat.mul_one] at ix3
    have ld3:=fun n=>VL_ hr7 hjm n
    have hlrb:=hlr8 (by omega)
    have rd3:=zc_ (w0:=w) hlrb
    have hp:sn[j]'hjt∈sn:=List.getElem_mem _
    have hse: (sn.map Prod.fst).getD j []=(sn[j]'hjt).1:=by simp[List.getD_eq_getElem?_getD,hjt]
    have hts:sn.take (j+1)=sn.take j++ [sn[j]'hjt]:=by
     rw[List.take_add_one];simp[hjt]
    rw[hse] at ld3
    generalize sn[j]'hjt=p at*
    obtain⟨x,n⟩:=p
    have hd8: ((sn.take j).foldl qA_ (zT_ (S5,p3) k)).1.dir=S5.dir:=by rw[wg_,jc_]
    have hfl8: ((sn.take (j+1)).foldl qA_ (zT_ (S5,p3) k))=qA_ ((sn.take j).foldl qA_ (zT_ (S5,p3) k)) (x,n):=by rw[hts,List.foldl_append];rfl
    generalize (sn.take j).foldl qA_ (zT_ (S5,p3) k)=q8 at*
    obtain⟨S8,p8⟩:=q8
    simp only at hP8 hv8 hpl8 hd8 ld3
    have hsk: (S8.dir k).seen=sn:=by rw[hd8];exact hsn
    obtain⟨om,hom,hM⟩:=hP8.dirs
    obtain⟨os,ms,hos,hms,hnp⟩:=hP8.seen k hlt6
    rw[hsk] at hnp
    have hfn:zC_ sn x=some n:=Zm_ hq6.nodup hp
    have hnl:n<S8.files.length:=hP8.ok.seenN k hlt6 _ (by rw[hsk];exact hp)
    have rdd:=zc_ (w0:=w) hP8.disk
    have rdr:=zc_ (w0:=w) (hP8.dir k hlt6)
    have hlf:=hP8.file n hnl
    have rdf:=zc_ (w0:=w) hlf
    have hpd:z6_ (some (G.d k))=vp (G.d k) 0:=rfl
    have hpf:z6_ (some (G.fb.getD n 0))=vp (G.fb.getD n 0) 0:=rfl
    first|with_reducible refine ks [] (And.intro @zA_ (And.intro @d2 (And.intro @ix3 (And.intro @ld3 (And.intro @rd3 (@rdd)))))) ?_|refine kp (And.intro @zA_ (And.intro @d2 (And.intro @ix3 (And.intro @ld3 (And.intro @rd3 (@rdd)))))) ?_
    refine kq (And.intro @zA_ @rdd) ?_
    refine Ow.mapGetG (encK:=vs) (encV:=z6_) (k:=Zo_ k) (z:=none) rfl rfl Tryd.underlying60 qS_ zrPd rfl rfl (zc_ hom) hM ?_
    rw[wR_,q9_ hlt6]
    show Ow _ _ _ _ _ _ _ _
    refine ko (And.intro @zA_ (And.intro @hpd (@rdr))) ?_
    refine Ow.mapGetG (encK:=vs) (encV:=z6_) (k:=x) (z:=none) rfl rfl Tryd.underlying49 qS_ zrPf rfl rfl (zc_ hos) hms ?_
    rw[hnp.get hq6.nodup,hfn]
    show Ow _ _ _ _ _ _ _ _
    refine ko (And.intro @zA_ @hpf) ?_
    have hfo:=w7_ hP8.ok hnl
    have hrf2:zm_ w L8 (G.fb.getD n 0)=some (jj_ (zH_ S8 n)):=rdf
    have hfd:S8.files.getD n jy_=zH_ S8 n:=rfl
    rw[hfd] at hlf
    clear rdf
    have hcf:qA_ (S8,p8) (x,n)=(V4_ S8 n ⟨(zH_ S8 n).data.take ((zH_ S8 n).stl+jB_ p8 ((zH_ S8 n).data.length - (zH_ S8 n).stl)),((zH_ S8 n).data.take ((zH_ S8 n).stl+jB_ p8 ((zH_ S8 n).data.length - (zH_ S8 n).stl))).length⟩,p8.drop 1):=rfl
    rw[hcf] at hfl8
    have hple8:=XD_ p8 ((zH_ S8 n).data.length - (zH_ S8 n).stl)
    generalize zH_ S8 n=f at*
    have hsub: (f.data.length:Int) - (f.stl:Int)=((f.data.length - f.stl:Nat):Int):=by omega
    refine Cw.regionG [G.fb.getD n 0] [25] 26 (by kernel_rfl) rfl ?_
    refine kyc ?_
    refine OwG.run [0,1,2,3,4,5,6,7,8,9,10,11,12,13,14,15,16,17,18,19] [true,true,true,true,true,true,true,true,true,true,true,true,true,true,true,true,true,true,true,true,false,false,false,false,false,false] 6 rfl (by kernel_rfl) (by kernel_rfl) fun k hk=> ?_
    refine kya ?_
    refine kp (And.intro @zA_ (And.intro @Md.next_sofnil (And.intro @hrf2 (@hsub)))) ?_
    (with_reducible refine hk _ _ _ ?_);clear hk k
    refine OwG.one 20 _ (by kernel_rfl) rfl ?_
    refine Ow.callFnXC (b:=vi ((f.data.length - f.stl:Nat):Int)) (ars:= #[vi ((f.data.length - f.stl:Nat):Int),vp bk 0]) rfl (X:=L8) (Y:= []) (List.append_nil _).symm rfl rfl rfl rfl Tryd.call28 (fun w' hw' hX' hn'=>Rets.chunk hX' hn' (zb_ hlk9) (wv_ (f.data.length - f.stl) bk v8 p8 w' (by omega) (hv8.old hw' fun hq b hb=>hE8.not (hvb8 hq b hb).1 (hvb8 hq b hb).2) hpl8 (fun hq e=>by have:=(hvb8 hq bk e).1;omega) (hX' _ (zi_ hlk9)))) (fun r D hC hS=> ?_)
    rw[List.append_nil]
    obtain⟨o,rfl,rfl,v9,rfl,hv1,hv2⟩:=hS
    obtain⟨hvn,hvn2⟩:=QD_ hv8 hv1 hv2
    have hE9:=hE8.came0 hC
    have hP9:=hP8.away hlk9 (qV_ v9)
    have hk9: ∀b o,Sx.look L8 b=some o→tyO o≠some 25→Sx.look (setB L8 bk (qV_ v9)) b=some o:=fun b o hb ht=>zs_ hlk9 hb ht
    have hlf9:Sx.look (setB L8 bk (qV_ v9)) (G.fb.getD n 0)=some (jj_ f):=hk9 _ _ hlf (by simp[tyO,jj_])
    have hlkA:Sx.look (setB L8 bk (qV_ v9)) bk=some (qV_ v9):=zF_ hlk9
    have hrbA:Sx.look (setB L8 bk (qV_ v9)) rb=some (.cells arr E fz):=by rw[zd_ (fun e=>hrn bk hbk6 (by omega) e.symm)];exact hlrb
    have hrf9:=zc_ (w0:=w) hlf9
    generalize jB_ p8 (f.data.length - f.stl)=m at*
    have hadd: (f.stl:Int)+ (m:Int)=((f.stl+m:Nat):Int):=by omega
    have hbkf:bk≠G.fb.getD n 0:=fun e=>by
     rw[←e,hlkA] at hlf9
     simp[jj_,qV_] at hlf9
    generalize setB L8 bk (qV_ v9)=L9 at*
    have st0:=fun x=>xX_ f (f.data.take (f.stl+m)) x
    with_reducible refine Ow.nil ?_
    refine⟨(fun b hb=>by rw[List.mem_singleton] at hb;subst hb;rw[hrf2,hrf9]), ?_⟩
    refine kyb ?_
    refine OwG.rest [21,22,23,24,25] rfl (by kernel_rfl) (by kernel_rfl) ?_
    refine kya ?_
    refine kq (And.intro @zA_ @hadd) ?_
    refine Ow.store rfl rfl rfl (ke (And.intro @zA_ (And.intro @hlf9 (@st0)))) ?_
    have htl: (f.data.take (f.stl+m)).length≤f.data.length:=by rw[List.length_take];omega
    have htl2:f.stl≤ (f.data.take (f.stl+m)).length:=by rw[List.length_take];omega
    have hlB:Sx.look (setB L9 (G.fb.getD n 0) (jj_ ⟨f.data.take (f.stl+m),f.stl⟩)) (G.fb.getD n 0)=some (jj_ ⟨f.data.take (f.stl+m),f.stl⟩):=zF_ hlf9
    have hrB:=zc_ (w0:=w) hlB
    have st1:=fun x=>xS_ ⟨f.data.take (f.stl+m),f.stl⟩ (f.data.take (f.stl+m)).length x
    have hokA:=km_ (n:=n) (f:=⟨f.data.take (f.stl+m),f.stl⟩) hP8.ok ⟨Nat.le_trans htl hfo.1,htl2⟩
    have hPA:=hP9.setFile hnl ⟨f.data.take (f.stl+m),f.stl⟩ hokA
    have hokB:=km_ (n:=n) (f:=⟨f.data.take (f.stl+m),(f.data.take (f.stl+m)).length⟩) hokA ⟨Nat.le_trans htl hfo.1,Nat.le_refl _⟩
    have hPB:=hPA.setFile (by rw[List.length_set];exact hnl) ⟨f.data.take (f.stl+m),(f.data.take (f.stl+m)).length⟩ hokB
    simp only[List.set_set] at hPB
    have hEB:=(hE9.setB (b:=G.fb.getD n 0) (o:=jj_ ⟨f.data.take (f.stl+m),f.stl⟩)).setB (b:=G.fb.getD n 0) (o:=jj_ ⟨f.data.take (f.stl+m),(f.data.take (f.stl+m)).length⟩)
    have hrf:rb≠G.fb.getD n 0:=hrn _ (hfk n (by have:=hP6.len;have:=hP8.len;omega)) (by omega)
    have hlkB:Sx.look (setB (setB L9 (G.fb.getD n 0) (jj_ ⟨f.data.take (f.stl+m),f.stl⟩)) (G.fb.getD n 0) (jj_ ⟨f.data.take (f.stl+m),(f.data.take (f.stl+m)).length⟩)) bk=some (qV_ v9):=by
     rw[zd_ (Ne.symm hbkf),zd_ (Ne.symm hbkf)];exact hlkA
    have hrbB:Sx.look (setB (setB L9 (G.fb.getD n 0) (jj_ ⟨f.data.take (f.stl+m),f.stl⟩)) (G.fb.getD n 0) (jj_ ⟨f.data.take (f.stl+m),(f.data.take (f.stl+m)).length⟩)) rb=some (.cells arr E fz):=by
     rw[zd_ (Ne.symm hrf),zd_ (Ne.symm hrf)];exact hrbA
    refine ko (And.intro @zA_ (And.intro @wB_ (And.intro @hrB (And.intro @hlB (@st1))))) ?_
    first|with_reducible refine ks [] @zA_ ?_|refine kp @zA_ ?_
    exact Again.mk ⟨j+1,setB (setB L9 (G.fb.getD n 0) (jj_ ⟨f.data.take (f.stl+m),f.stl⟩)) (G.fb.getD n 0) (jj_ ⟨f.data.take (f.stl+m),(f.data.take (f.stl+m)).length⟩),v9⟩ (by show sn.length - (j+1)<sn.length - j;omega) ⟨hjt,by rw[hfl8];exact hPB,hlkB,by rw[hfl8];exact hvn,by rw[hfl8];exact hvn2 hvb8,hEB,by rw[hfl8];show(p8.drop 1).length<1000000;rw[List.length_drop];omega,fun _=>hrbB⟩ rfl rfl
   ·obtain rfl:j=sn.length:=by omega
    have d2:decide ((sn.length:Int)< (sn.length:Int))=false:=decide_eq_false (by omega)
    rw[List.take_length] at hP8 hv8 hvb8 hpl8
    first|with_reducible refine ks [] (And.intro @zA_ @d2) ?_|refine kp (And.intro @zA_ @d2) ?_
    first|with_reducible refine ks [] @zA_ ?_|refine kp @zA_ ?_
    exact Again.mk ⟨k+1,L8,v8⟩ (by show 3 - (k+1)<3 - k;omega) ⟨hlt6,by rw[hcm];exact hP8,hlk9,by rw[hcm];exact hv8,by rw[hcm];exact hvb8,hE8,by rw[hcm];exact hpl8⟩ rfl rfl
  ·obtain rfl:k=3:=by omega
   have d6:decide (((3:Nat):Int)<3)=false:=rfl
   first|with_reducible refine ks [] (And.intro @zA_ @d6) ?_|refine kp (And.intro @zA_ @d6) ?_
   refine⟨_,(ke @zA_), ?_⟩
   exact⟨hE6,G,rfl,hP6⟩
end Go.Proofs
end
section
open Go Go.Proofs Go.Sx Go.StP
namespace Go.Proofs
set_option maxRecDepth 10000
set_option maxHeartbeats 400000
set_option linter.unusedSimpArgs false
def Vv_ (d:DirL):Prop:=d.pend.foldl zU_ d.stl=d.seen∧aer_ d
def qJ_ (S:DiskL):Prop:= ∀k,Vv_ (S.dir k)
theorem kG_ (l:NmL):Vv_ ⟨l,l,[]⟩:=⟨rfl,fun i hi=>absurd hi (Nat.not_lt_zero i)⟩
theorem Vt_ {d:DirL} {c:CallL} (h:Vv_ d) (hok:okC d.seen c):Vv_ ⟨zU_ d.seen c,d.stl,d.pend++ [c]⟩:=by
 refine⟨by show(d.pend++ [c]).foldl zU_ d.stl=_;rw[List.foldl_append,h.1];rfl,fun i hi=> ?_⟩
 have hi':i< (d.pend++ [c]).length:=hi
 show okC (((d.pend++ [c]).take i).foldl zU_ d.stl) ((d.pend++ [c]).getD i jH_)
 by_cases e:i<d.pend.length
 ·rw[List.take_append_of_le_length (by omega),List.getD_eq_getElem?_getD,List.getElem?_append_left e,←List.getD_eq_getElem?_getD]
  exact h.2 i e
 ·rw[List.length_append,List.length_singleton] at hi'
  obtain rfl:i=d.pend.length:=by omega
  rw[List.take_append_of_le_length (Nat.le_refl _),List.take_length,h.1,List.getD_eq_getElem?_getD,List.getElem?_append_right (Nat.le_refl _),Nat.sub_self]
  exact hok
theorem j4_ {S S':DiskL} (h:qJ_ S) (e:S'.dir=S.dir):qJ_ S':=fun k=>by rw[e];exact h k
theorem xh_ {S:DiskL} (h:qJ_ S) {k:Nat} {d:DirL} (hd:Vv_ d):qJ_ (zN_ S k d):=fun j=>by
 by_cases e:j=k
 ·subst e;rw[ja_];exact hd
 ·rw[vr_ _ _ e];exact h j
theorem Kp_ {S:DiskL} (h:qJ_ S) {k:Nat} {c:CallL} (hok:okC (S.dir k).seen c):qJ_ (abi_ S k c):=xh_ h (Vt_ (h k) hok)
theorem qt_ {S:DiskL} (h:qJ_ S):qJ_ (zp_ S).1:=j4_ h (qW_ S).1
theorem aa4_ (q:Int):qJ_ (Vz_ q):=fun _=>kG_ []
theorem Ju_ {S:DiskL} (h:qJ_ S) (dir name:List UInt8):qJ_ (jm_ S dir name).1:=by
 unfold jm_
 split
 ·exact h
 ·split
  ·exact h
  ·split
   ·exact qt_ h
   ·exact Kp_ (j4_ (qt_ h) rfl) (fun e=>by cases e)
theorem kH_ {S:DiskL} (h:qJ_ S) (dir name s:List UInt8):qJ_ (qx_ S dir name s).1:=by
 unfold qx_
 split
 ·exact h
 ·split
  ·exact h
  ·split
   ·exact h
   ·split
    ·exact qt_ h
    ·exact j4_ (qt_ h) rfl
theorem Wf_ {S:DiskL} (h:qJ_ S) (dir name:List UInt8):qJ_ (w4_ S dir name).1:=by
 unfold w4_
 split
 ·exact h
 ·split
  ·exact h
  ·split
   ·exact qt_ h
   ·exact j4_ (qt_ h) rfl
theorem ZI_ {S:DiskL} (h:qJ_ S) (dir:List UInt8):qJ_ (qD_ S dir).1:=by
 unfold qD_
 split
 ·exact h
 ·split
  ·exact qt_ h
  ·exact xh_ (qt_ h) (kG_ _)
theorem k1_ {q:DiskL×List UInt16} (h:qJ_ q.1): ∀k,qJ_ (zD_ q k).1
 |0=>h
 |k+1=>xh_ (k1_ h k) (kG_ _)
theorem Kn_ {S:DiskL} (h:qJ_ S) (pl:List UInt16):qJ_ (kN_ S pl):=by
 unfold kN_
 refine j4_ (S:=vd_ (zD_ (S,pl) 3).1) ?_ (jc_ _ 3)
 exact j4_ (k1_ (q:=(S,pl)) h 3) rfl
end Go.Proofs
end
section
open Go Go.Proofs Go.Sx Go.StP
namespace Go.Proofs
set_option maxRecDepth 10000
set_option maxHeartbeats 400000
set_option linter.unusedSimpArgs false
def NmB (l:NmL):Prop:= ∀p,p∈l→p.1.length≤1000000
def W7_ (c:CallL):Prop:=c.a.length≤1000000∧c.b.length≤1000000
structure DirB (N:Nat) (d:DirL):Prop where
 seen:d.seen.length≤N
 stl:d.stl.length+d.pend.length≤N
 seenB:NmB d.seen
 stlB:NmB d.stl
 pendB: ∀c,c∈d.pend→W7_ c
def DkN (N:Nat) (S:DiskL):Prop:= ∀k,DirB N (S.dir k)
theorem DkN.b {N:Nat} {S:DiskL} (h:DkN N S) (hN:N≤1000000):DkB S:=fun k _=>⟨Nat.le_trans (h k).seen hN,(h k).seenB⟩
theorem DirB.mono {N M:Nat} {d:DirL} (h:DirB N d) (hm:N≤M):DirB M d:=⟨Nat.le_trans h.seen hm,Nat.le_trans h.stl hm,h.seenB,h.stlB,h.pendB⟩
theorem DkN.mono {N M:Nat} {S:DiskL} (h:DkN N S) (hm:N≤M):DkN M S:=fun k=>(h k).mono hm
theorem k9_ (l:NmL) (s:List UInt8): (qC_ l s).length≤l.length:=List.length_filter_le _ _
theorem X1_ (l:NmL) (x:List UInt8×Nat): (Vi_ l x).length≤l.length+1:=by
 have h1:=(qs_ x (qC_ l x.1)).length_eq
 have h2:=k9_ l x.1
 rw[List.length_cons] at h1
 show(insN (qC_ l x.1) x).length≤_
 omega
theorem Qk_ (l:NmL) (c:CallL): (zU_ l c).length≤l.length+1:=by
 unfold zU_
 split
 ·exact X1_ l _
 ·have h1:=X1_ (qC_ l c.a) (c.b,(zC_ l c.a).getD 0)
  have h2:=k9_ l c.a
  omega
 ·exact Nat.le_succ_of_le (k9_ l _)
theorem Jz_ {l:NmL} (h:NmB l) (s:List UInt8):NmB (qC_ l s):=fun p hp=>h p (List.mem_filter.1 hp).1
theorem acg_ {l:NmL} (h:NmB l) {x:List UInt8×Nat} (hx:x.1.length≤1000000):NmB (Vi_ l x):=fun p hp=>by
 have:=(qs_ x (qC_ l x.1)).mem_iff.1 hp
 rcases List.mem_cons.1 this with rfl|h1
 ·exact hx
 ·exact Jz_ h _ p h1
theorem WT_ {l:NmL} (h:NmB l) {c:CallL} (hc:W7_ c):NmB (zU_ l c):=by
 unfold zU_
 split
 ·exact acg_ h hc.1
 ·exact acg_ (Jz_ h _) hc.2
 ·exact Jz_ h _
theorem WO_: ∀ (cs:List CallL) {l:NmL},NmB l→(∀c,c∈cs→W7_ c)→NmB (cs.foldl zU_ l)∧(cs.foldl zU_ l).length≤l.length+cs.length
 | [],l,h,_=>⟨h,Nat.le_refl _⟩
 |c::cs,l,h,hc=>by
  have h1:=WO_ cs (WT_ h (hc c List.mem_cons_self)) (fun c' h'=>hc c' (List.mem_cons_of_mem _ h'))
  have h2:=Qk_ l c
  refine⟨h1.1, ?_⟩
  have h3:=h1.2
  rw[List.length_cons]
  show(List.foldl zU_ (zU_ l c) cs).length≤_
  omega
theorem aaf_ {N:Nat} {d:DirL} {c:CallL} (h:DirB N d) (hc:W7_ c):DirB (N+1) ⟨zU_ d.seen c,d.stl,d.pend++ [c]⟩ where
 seen:=by have:=Qk_ d.seen c;have:=h.seen;show(zU_ d.seen c).length≤_;omega
 stl:=by have:=h.stl;show d.stl.length+ (d.pend++ [c]).length≤_;rw[List.length_append,List.length_singleton];omega
 seenB:=WT_ h.seenB hc
 stlB:=h.stlB
 pendB:=fun c' h'=>by
  rcases List.mem_append.1 h' with h'|h'
  ·exact h.pendB c' h'
  ·rw[List.mem_singleton.1 h'];exact hc
theorem k5_ {N:Nat} {l:NmL} (h:l.length≤N) (hb:NmB l):DirB N ⟨l,l,[]⟩:=⟨h,h,hb,hb,fun c hc=>by cases hc⟩
theorem xR_ {N:Nat} {S:DiskL} (h:DkN N S) {k:Nat} {d:DirL} (hd:DirB N d):DkN N (zN_ S k d):=fun j=>by
 by_cases e:j=k
 ·subst e;rw[ja_];exact hd
 ·rw[vr_ _ _ e];exact h j
theorem xU_ {N:Nat} {S S':DiskL} (h:DkN N S) (e:S'.dir=S.dir):DkN N S':=fun k=>by rw[e];exact h k
theorem W1_ {N:Nat} {S:DiskL} (h:DkN N S) {k:Nat} {c:CallL} (hc:W7_ c):DkN (N+1) (abi_ S k c):=xR_ (h.mono (Nat.le_succ N)) (aaf_ (h k) hc)
theorem xI_ {N:Nat} {q:DiskL×List UInt16} (h:DkN N q.1): ∀k,DkN N (zD_ q k).1
 |0=>h
 |k+1=>by
  have h1:=xI_ h k
  have hd:=h1 k
  show DkN N (XW_ (zD_ q k) k).1
  generalize zD_ q k=r at*
  refine xR_ h1 ?_
  have h2:=WO_ ((r.1.dir k).pend.take (jB_ r.2 (r.1.dir k).pend.length)) hd.stlB (fun c hc=>hd.pendB c (List.mem_of_mem_take hc))
  refine k5_ ?_ h2.1
  have h3:=h2.2
  rw[List.length_take] at h3
  have h4:=hd.stl
  show(List.foldl zU_ _ _).length≤N
  omega
theorem VA_ {N:Nat} {S:DiskL} (h:DkN N S) (pl:List UInt16):DkN N (kN_ S pl):=by
 unfold kN_
 refine xU_ (S:=vd_ (zD_ (S,pl) 3).1) ?_ (jc_ _ 3)
 exact xU_ (xI_ (q:=(S,pl)) h 3) rfl
theorem acK_ (q:Int):DkN 0 (Vz_ q):=fun _=>k5_ (Nat.le_refl 0) fun _ h=>by cases h
end Go.Proofs
end
section
open Go Go.Proofs Go.Sx Go.StP
namespace Go.Proofs
set_option maxRecDepth 10000
set_option maxHeartbeats 400000
set_option linter.unusedSimpArgs false
end Go.Proofs
end
section
open Go Go.Proofs Go.Sx Go.StP
namespace Go.Proofs
set_option maxRecDepth 10000
set_option maxHeartbeats 400000
set_option linter.unusedSimpArgs false
end Go.Proofs
end
section
open Go Go.Proofs Go.Sx Go.StP
namespace Go.Proofs
set_option maxRecDepth 10000
set_option maxHeartbeats 400000
set_option linter.unusedSimpArgs false
theorem qr_ {N:Nat} {S:DiskL} (h:DkN N S):DkN N (zp_ S).1:=xU_ h (qW_ S).1
theorem VJ_ {N:Nat} {S:DiskL} (h:DkN N S):DkN (N+1) S:=h.mono (Nat.le_succ N)
theorem KO_ {N:Nat} {S:DiskL} (h:DkN N S) (dir:List UInt8) {name:List UInt8} (hn:name.length≤1000000):DkN (N+1) (jm_ S dir name).1:=by
 unfold jm_
 split
 ·exact VJ_ h
 ·split
  ·exact VJ_ h
  ·split
   ·exact VJ_ (qr_ h)
   ·exact W1_ (xU_ (qr_ h) rfl) ⟨hn,Nat.zero_le _⟩
theorem wn_ {N:Nat} {S:DiskL} (h:DkN N S) (dir name s:List UInt8):DkN N (qx_ S dir name s).1:=by
 unfold qx_
 split
 ·exact h
 ·split
  ·exact h
  ·split
   ·exact h
   ·split
    ·exact qr_ h
    ·exact xU_ (qr_ h) rfl
theorem aaL_ {N:Nat} {S:DiskL} (h:DkN N S) (dir name:List UInt8):DkN N (w4_ S dir name).1:=by
 unfold w4_
 split
 ·exact h
 ·split
  ·exact h
  ·split
   ·exact qr_ h
   ·exact xU_ (qr_ h) rfl
theorem QY_ {N:Nat} {S:DiskL} (h:DkN N S) (dir:List UInt8):DkN N (qD_ S dir).1:=by
 unfold qD_
 split
 ·exact h
 ·split
  ·exact qr_ h
  ·exact xR_ (qr_ h) (k5_ ((qr_ h) _).seen ((qr_ h) _).seenB)
theorem kf_ {S:DiskL} (ok:DkOk S): ∀ (l:NmL),(∀p,p∈l→p.2<S.files.length)→xO_ S l≤l.length*1048576
 | [],_=>Nat.zero_le _
 |p::l,h=>by
  have h1:=kf_ ok l fun q hq=>h q (List.mem_cons_of_mem _ hq)
  have h2:=(w7_ ok (h p List.mem_cons_self)).1
  unfold xO_ zH_ at*
  rw[List.map_cons,List.sum_cons,List.length_cons]
  omega
theorem abT_ {N:Nat} {S:DiskL} (ok:DkOk S) (h:DkN N S):kc_ S≤3* (N*1048576):=by
 have h0:=kf_ ok _ (ok.seenN 0 (by omega))
 have h1:=kf_ ok _ (ok.seenN 1 (by omega))
 have h2:=kf_ ok _ (ok.seenN 2 (by omega))
 have g0:=Nat.mul_le_mul_right 1048576 (h 0).seen
 have g1:=Nat.mul_le_mul_right 1048576 (h 1).seen
 have g2:=Nat.mul_le_mul_right 1048576 (h 2).seen
 unfold kc_
 omega
end Go.Proofs
end
section
open Go Go.Proofs Go.Sx Go.StP
namespace Go.Proofs
set_option maxRecDepth 10000
set_option maxHeartbeats 400000
set_option linter.unusedSimpArgs false
end Go.Proofs
end
section
open Go Go.Proofs Go.Sx Go.StP
namespace Go.Proofs
set_option maxRecDepth 10000
set_option maxHeartbeats 400000
set_option linter.unusedSimpArgs false
section
variable {S S':DiskL} {kind:Int} {dir name s:List UInt8} {e:Nat}
end
end Go.Proofs
end
section
open Go Go.Proofs Go.Sx Go.StP
namespace Go.Proofs
set_option maxRecDepth 10000
set_option maxHeartbeats 400000
set_option linter.unusedSimpArgs false
section
variable {S S':DiskL} {kind:Int} {dir name s:List UInt8} {e:Nat}
end
end Go.Proofs
end
section
open Go Go.Proofs Go.Sx Go.StP
namespace Go.Proofs
set_option maxRecDepth 10000
set_option maxHeartbeats 400000
set_option linter.unusedSimpArgs false
def BegF (f g:FileL):Prop:=(∃t,g.data=f.data.take t)∧(f.stl=f.data.length→g.data=f.data∧g.stl=g.data.length)
theorem BegF.refl (f:FileL):BegF f f:=⟨⟨f.data.length,(List.take_length).symm⟩,fun h=>⟨rfl,h⟩⟩
theorem BegF.trans {f g h:FileL} (h1:BegF f g) (h2:BegF g h):BegF f h:=by
 obtain⟨⟨t,ht⟩,a⟩:=h1
 obtain⟨⟨u,hu⟩,b⟩:=h2
 refine⟨⟨min u t,by rw[hu,ht,List.take_take]⟩,fun e=> ?_⟩
 obtain⟨a1,a2⟩:=a e
 obtain⟨b1,b2⟩:=b a2
 exact⟨b1.trans a1,b2⟩
section
variable {S S':DiskL} {kind:Int} {dir name s:List UInt8} {e:Nat}
end
end Go.Proofs
end
section
open Go Go.Proofs Go.Sx Go.StP
namespace Go.Proofs
set_option maxRecDepth 10000
set_option maxHeartbeats 400000
set_option linter.unusedSimpArgs false
structure KeepS (S:DiskL) (k:Nat) (nm:List UInt8) (n:Nat) (data:List UInt8):Prop where
 lt:n<S.files.length
 data: (zH_ S n).data=data
 stl: (zH_ S n).stl=(zH_ S n).data.length
 at_:zC_ (S.dir k).stl nm=some n
 pend: ∀c,c∈ (S.dir k).pend→c.a≠nm∧(c.kind=1→c.b≠nm)
theorem Zx_ {x:List UInt8×Nat} {s:List UInt8} (hx:x.1≠s): ∀l:NmL,zC_ (insN l x) s=zC_ l s
 | []=>by
  have: (s==x.1)=false:=beq_eq_false_iff_ne.2 (Ne.symm hx)
  unfold insN zC_
  rw[List.find?_cons,this]
 |p::l=>by
  have e: (s==x.1)=false:=beq_eq_false_iff_ne.2 (Ne.symm hx)
  have ih:=Zx_ hx l
  unfold insN
  split
  ·unfold zC_
   rw[List.find?_cons,e]
  ·unfold zC_ at ih ⊢
   rw[List.find?_cons,List.find?_cons]
   split
   ·rfl
   ·exact ih
theorem xk_ {a s:List UInt8} (ha:a≠s): ∀l:NmL,zC_ (qC_ l a) s=zC_ l s
 | []=>rfl
 |p::l=>by
  have ih:=xk_ ha l
  unfold qC_ at ih ⊢
  rw[List.filter_cons]
  by_cases e:a=p.1
  ·have e1: (s==p.1)=false:=beq_eq_false_iff_ne.2 (fun h=>ha (by rw[e,h]))
   rw[if_neg (by rw[e];simp),ih]
   unfold zC_
   rw[List.find?_cons,e1]
  ·rw[if_pos (by simpa using e)]
   unfold zC_ at ih ⊢
   rw[List.find?_cons,List.find?_cons]
   split
   ·rfl
   ·exact ih
theorem XT_ {x:List UInt8×Nat} {s:List UInt8} (hx:x.1≠s) (l:NmL):zC_ (Vi_ l x) s=zC_ l s:=by
 unfold Vi_
 rw[Zx_ hx,xk_ hx]
theorem Vq_ {l:NmL} {c:CallL} {s:List UInt8} (h:c.a≠s∧(c.kind=1→c.b≠s)):zC_ (zU_ l c) s=zC_ l s:=by
 unfold zU_
 split
 ·exact XT_ h.1 l
 ·rename_i hk
  rw[XT_ (h.2 hk),xk_ h.1]
 ·exact xk_ h.1 l
theorem ZB_ {s:List UInt8}: ∀ (cs:List CallL) (l:NmL),(∀c,c∈cs→c.a≠s∧(c.kind=1→c.b≠s))→zC_ (cs.foldl zU_ l) s=zC_ l s
 | [],_,_=>rfl
 |c::cs,l,h=>by
  rw[List.foldl_cons,ZB_ cs _ fun d hd=>h d (List.mem_cons_of_mem _ hd),Vq_ (h c List.mem_cons_self)]
section
variable {S S':DiskL} {kind:Int} {dir name s:List UInt8} {e k n:Nat} {nm data:List UInt8}
theorem KeepS.seen (h:KeepS S k nm n data) (hh:qJ_ S):zC_ (S.dir k).seen nm=some n:=by
 rw[← (hh k).1,ZB_ _ _ h.pend,h.at_]
end
end Go.Proofs
end
section
open Go Go.Proofs Go.Sx Go.StP
namespace Go.Proofs
set_option maxRecDepth 10000
set_option maxHeartbeats 400000
set_option linter.unusedSimpArgs false
structure PkL where
 v:Value
 l:List UInt16
 h:Value.oneCell' v=true∧v.cells= #[v]
def pk0:PkL:=⟨.slice none 0 0,[],rfl,rfl⟩
structure ActL where
 kind:Int
 n:Int
 dir:List UInt8
 name:List UInt8
 s:List UInt8
 picks:PkL
def acC (r:ActL):List Value:= [vi r.kind]++ ([vi r.n]++ ([vs r.dir]++ ([vs r.name]++ ([vs r.s]++ ([r.picks.v])))))
def ac0:ActL:=⟨0,0,[],[],[],pk0⟩
theorem ks_ (r:ActL): (acC r).length=6:=by simp[acC]
theorem XM_ (r:ActL):Value.cells (.agg (acC r).toArray)=(acC r).toArray:=zZ_ _
theorem acq_ (r:ActL): (acC r).all Value.oneCell'=true:=by
 unfold acC
 simp only[List.all_append,List.all_cons,List.all_nil,adH_,Bool.and_true,Bool.true_and]
 rw[r.picks.h.1];rfl
theorem zrAc:qg_ Tryd.prog 27=some (.agg (acC ac0).toArray):=id (by kernel_rfl)
theorem adS_ (r:ActL):acC r=([]:List Value)++ (([vi r.kind])++ ([vi r.n]++ ([vs r.dir]++ ([vs r.name]++ ([vs r.s]++ ([r.picks.v])))))):=by
 unfold acC;simp only[List.append_assoc,List.nil_append,List.append_nil]
theorem Xu_ (r:ActL) (n:Nat) (E:TypeId) (fz:Nat×Nat):zy_ (some (false,n)) (some (.cells (acC r).toArray E fz)) 0=some (vi r.kind):=by
 rw[adS_];exact j2_ _ _ _ n E fz (by simp)
theorem adX_ (r:ActL):acC r=(([vi r.kind]))++ (([vi r.n])++ ([vs r.dir]++ ([vs r.name]++ ([vs r.s]++ ([r.picks.v]))))):=by
 unfold acC;simp only[List.append_assoc,List.nil_append,List.append_nil]
theorem Xp_ (r:ActL) (n:Nat) (E:TypeId) (fz:Nat×Nat):zy_ (some (false,n)) (some (.cells (acC r).toArray E fz)) 1=some (vi r.n):=by
 rw[adX_];exact j2_ _ _ _ n E fz (by simp)
theorem ad9_ (r:ActL):acC r=(([vi r.kind])++ ([vi r.n]))++ (([vs r.dir])++ ([vs r.name]++ ([vs r.s]++ ([r.picks.v])))):=by
 unfold acC;simp only[List.append_assoc,List.nil_append,List.append_nil]
theorem XU_ (r:ActL) (n:Nat) (E:TypeId) (fz:Nat×Nat):zy_ (some (false,n)) (some (.cells (acC r).toArray E fz)) 2=some (vs r.dir):=by
 rw[ad9_];exact j2_ _ _ _ n E fz (by simp)
theorem aex_ (r:ActL):acC r=(([vi r.kind])++ ([vi r.n])++ ([vs r.dir]))++ (([vs r.name])++ ([vs r.s]++ ([r.picks.v]))):=by
 unfold acC;simp only[List.append_assoc,List.nil_append,List.append_nil]
theorem XK_ (r:ActL) (n:Nat) (E:TypeId) (fz:Nat×Nat):zy_ (some (false,n)) (some (.cells (acC r).toArray E fz)) 3=some (vs r.name):=by
 rw[aex_];exact j2_ _ _ _ n E fz (by simp)
theorem adV_ (r:ActL):acC r=(([vi r.kind])++ ([vi r.n])++ ([vs r.dir])++ ([vs r.name]))++ (([vs r.s])++ ([r.picks.v])):=by
 unfold acC;simp only[List.append_assoc,List.nil_append,List.append_nil]
theorem Xx_ (r:ActL) (n:Nat) (E:TypeId) (fz:Nat×Nat):zy_ (some (false,n)) (some (.cells (acC r).toArray E fz)) 4=some (vs r.s):=by
 rw[adV_];exact j2_ _ _ _ n E fz (by simp)
theorem aet_ (r:ActL):acC r=(([vi r.kind])++ ([vi r.n])++ ([vs r.dir])++ ([vs r.name])++ ([vs r.s]))++ (([r.picks.v])++ (([]:List Value))):=by
 unfold acC;simp only[List.append_assoc,List.nil_append,List.append_nil]
theorem Xz_ (r:ActL) (n:Nat) (E:TypeId) (fz:Nat×Nat):zy_ (some (false,n)) (some (.cells (acC r).toArray E fz)) 5=some (r.picks.v):=by
 rw[aet_];exact j2_ _ _ _ n E fz (by simp)
theorem Vs_ (r:ActL) (E:TypeId) (fz:Nat×Nat):zy_ (some (true,6)) (some (.cells (acC r).toArray E fz)) 0=some (.agg (acC r).toArray):=kj_ _ E fz 6 (by rw[List.size_toArray,ks_])
theorem aaQ_ (old:Array Value) (r:ActL) (a:Bool) (E:TypeId) (h:old.size=6):zM_ (some (a,6)) (some (.cells old E (0,0))) 0 (.agg (acC r).toArray)=some (.cells (acC r).toArray E (0,0)):=Jx_ _ a old E (ks_ r) (acq_ r) h
theorem VS_ (r r':ActL) (a:Bool) (E:TypeId):zM_ (some (a,6)) (some (.cells (acC r').toArray E (0,0))) 0 (.agg (acC r).toArray)=some (.cells (acC r).toArray E (0,0)):=aaQ_ _ r a E (by rw[List.size_toArray,ks_])
theorem aeg_ {w:World} {v:Value} {l:List ActL} {b off:Nat} {arr:Array Value} {E:TypeId} {fz:Nat×Nat} (h:RowS 6 acC ac0 w v l b off arr E fz) {k:Nat} (hk:k<l.length):zy_ (some (true,6)) (some (.cells arr E fz)) (off+k*6)=some (.agg (acC (l.getD k ac0)).toArray):=RowS.load h ks_ (by omega) hk
abbrev AcSl (w:World) (v:Value) (l:List ActL):Prop:=SlV 6 acC ac0 w v l
structure ActOk (w:World) (a:ActL):Prop where
 pk:PkS w a.picks.v a.picks.l
 n: -9223372036854775808≤a.n∧a.n<9223372036854775808
theorem PkS.blk {w:World} {v:Value} {l:List UInt16} (h:PkS w v l) (hl:l≠ []) {b:Nat} (hb:slB v=some b):b<w.heap.size:=by
 obtain⟨b',off,c,arr,E,fz,hr,hc,⟨rfl,rfl,rfl⟩ | ⟨rfl,hh,-⟩⟩:=h.resolve_right fun e=>hl e.1
 ·exact absurd rfl hl
 ·cases hb
  exact(Array.getElem?_eq_some_iff.1 hh).1
set_option linter.defProp false
structure DkA (X:za_) (G:DkG) (S:DiskL) (N:Nat):Prop where
 P:DkP X G S
 H:qJ_ S
 B:DkN N S
theorem DkA.pend {X:za_} {G:DkG} {S:DiskL} {N:Nat} (h:DkA X G S N) (hN:N<1000000): ∀k,k<3→(S.dir k).pend.length<1000000:=fun k _=>by
 have:=(h.B k).stl
 omega
theorem DkA.used {X:za_} {G:DkG} {S:DiskL} {N:Nat} (h:DkA X G S N) (hN:N<1000000):kc_ S<4611686018427387904:=by
 have:=abT_ h.P.ok h.B
 omega
theorem DkA.mono {X X':za_} {G:DkG} {S:DiskL} {N:Nat} (h:DkA X G S N) (hk: ∀b o,Sx.look X b=some o→Sx.look X' b=some o):DkA X' G S N:=⟨h.P.mono hk,h.H,h.B⟩
theorem DkA.b {X:za_} {G:DkG} {S:DiskL} {N:Nat} (h:DkA X G S N) (hN:N<1000000):DkB S:=h.B.b (by omega)
end Go.Proofs
end
section
open Go Go.Proofs Go.Sx Go.StP
namespace Go.Proofs
set_option maxRecDepth 10000
set_option maxHeartbeats 400000
set_option linter.unusedSimpArgs false
set_option linter.defProp false
theorem rem9 (a:Int):ze_ .rem (vi a) (vi 9)=some (vi (a.tmod 9)):=by
 unfold vi ze_
 rfl
end Go.Proofs
end
section
open Go Go.Proofs Go.Sx Go.StP
namespace Go.Proofs
set_option maxRecDepth 10000
set_option maxHeartbeats 400000
set_option linter.unusedSimpArgs false
def al0:DiskL:=Vz_ 100
def al1:DiskL:=(jm_ al0 zt_ [97]).1
def al2:DiskL:=(qx_ al1 zt_ [97] [120,121,122]).1
def al3:DiskL:=(w4_ al2 zt_ [97]).1
def al4:DiskL:=(qD_ al3 zt_).1
def al5:DiskL:=(qx_ al4 zt_ [97] [117,118]).1
def al6:DiskL:=kN_ al5 [0,0,0,1]
theorem afj_: (((jm_ al0 zt_ [97]).2:Nat):Int)=0:=by rfl
theorem afh_: (((qx_ al1 zt_ [97] [120,121,122]).2:Nat):Int)=0:=by rfl
theorem afx_: (((w4_ al2 zt_ [97]).2:Nat):Int)=0:=by rfl
theorem afr_: (((qD_ al3 zt_).2:Nat):Int)=0:=by rfl
theorem afm_: (((qx_ al4 zt_ [97] [117,118]).2:Nat):Int)=0:=by rfl
theorem aeV_: (Wk_ al6 zt_ [97]).1= [120,121,122,117]:=by rfl
theorem aej_: (((Wk_ al6 zt_ [97]).2:Nat):Int)=0:=by rfl
theorem aeP_: (((qx_ al6 jP_ [98] []).2:Nat):Int)=6:=by rfl
theorem XN_ {w:World} {L:za_} (hg:vU_ w) (hn:New w.heap.size L):0∉keys L:=by
 obtain⟨e,fz,hgl⟩:=hg
 exact hn.not (Array.getElem?_eq_some_iff.1 hgl).1
theorem qP_ {w w':World} {L:za_} (hg:vU_ w) (h:Hp w L w') (hn:New w.heap.size L):vU_ w':=by
 have hno:=XN_ hg hn
 obtain⟨e,fz,hgl⟩:=hg
 exact⟨e,fz,(h.old _ (Array.getElem?_eq_some_iff.1 hgl).1 hno).trans hgl⟩
theorem aeR_ {w:World} {b:Nat} {x0 x1 x2 x3:UInt16} {E:TypeId} (h:w.heap[b]? =some (.cells #[v16 x0,v16 x1,v16 x2,v16 x3] E (0,0))):abC_ w (vsl b 0 4 4) [x0,x1,x2,x3]:=
 SlV.sl (l:= [x0,x1,x2,x3]) h (fun k hk j hj=>by
  obtain rfl:j=0:=by omega
  have hk':k<4:=hk
  have:k=0∨k=1∨k=2∨k=3:=by omega
  rcases this with rfl|rfl|rfl|rfl<;>rfl) (Nat.le_refl 4) (Nat.le_refl 4)
set_option linter.defProp false
def qL_:=And.intro (And.intro (@zx_) (@zw_)) (And.intro (@Sx.tup2_0) (@Sx.tup2_1))
theorem jN_ (w:World) (hG:vU_ w):Rets Tryd.prog 4 #[] w (fun v D=>v= .bool true∧D= []):=by
 refine Rets.enterV Tryd.func4 rfl (rs:= [.tmp 0]) Tryd.results4 Tryd.ntmps4 ?_
 refine kf ?_
 first|with_reducible refine ks [] @qL_ ?_|refine kp @qL_ ?_
 refine Ow.callC rfl rfl Tryd.call11 (fun w' hw'=>VH_ 100 w' (by decide) (qP_ hG hw' trivial)) (fun B0 v0 D0 hA0 hB0 hN0 hS0=> ?_)
 obtain⟨G0,rfl,hP0⟩:=hS0
 rw[List.nil_append]
 have hE0:Ext w [] D0:=Ext.of_new (hN0.mono hB0)
 have hA0:DkA D0 G0 al0 0:=⟨hP0,aa4_ 100,acK_ 100⟩
 refine ko @qL_ ?_
 first|with_reducible refine ks [] @qL_ ?_|refine kp @qL_ ?_
 refine Ow.callX (X:=D0) (Y:= []) (List.append_nil _).symm rfl rfl Tryd.call12 (fun w' hw' hX' hn'=>Z1_ D0 G0 al0 zt_ [97] w' hX' hn' hP0 (by decide) (hA0.pend (by omega))) (fun v1 D1 hC1 hS1=> ?_)
 rw[List.append_nil]
 obtain⟨rfl,G1,hb1,hP1⟩:=hS1
 have hE1:=hE0.came0 hC1
 have hA1:DkA D1 G1 al1 1:=⟨hP1,Ju_ hA0.H _ _,KO_ hA0.B _ (by decide)⟩
 rw[afj_,←hb1]
 refine ko @qL_ ?_
 refine Ow.callX (X:=D1) (Y:= []) (List.append_nil _).symm rfl rfl Tryd.call13 (fun w' hw' hX' hn'=>jG_ D1 G1 al1 zt_ [97] [120,121,122] w' hX' hn' hA1.P (by decide) (by decide) (hA1.used (by omega))) (fun v2 D2 hC2 hS2=> ?_)
 rw[List.append_nil]
 obtain⟨rfl,hP2⟩:=hS2
 have hE2:=hE1.came0 hC2
 have hA2:DkA D2 G1 al2 1:=⟨hP2,kH_ hA1.H _ _ _,wn_ hA1.B _ _ _⟩
 rw[afh_]
 refine ko @qL_ ?_
 refine Ow.callX (X:=D2) (Y:= []) (List.append_nil _).symm rfl rfl Tryd.call14 (fun w' hw' hX' hn'=>X8_ D2 G1 al2 zt_ [97] w' hX' hn' hA2.P (by decide)) (fun v3 D3 hC3 hS3=> ?_)
 rw[List.append_nil]
 obtain⟨rfl,hP3⟩:=hS3
 have hE3:=hE2.came0 hC3
 have hA3:DkA D3 G1 al3 1:=⟨hP3,Wf_ hA2.H _ _,aaL_ hA2.B _ _⟩
 rw[afx_]
 refine ko @qL_ ?_
 refine Ow.callX (X:=D3) (Y:= []) (List.append_nil _).symm rfl rfl Tryd.call15 (fun w' hw' hX' hn'=>wP_ D3 G1 al3 zt_ w' hX' hn' hA3.P) (fun v4 D4 hC4 hS4=> ?_)
 rw[List.append_nil]
 obtain⟨rfl,G4,hb4,hP4⟩:=hS4
 have hE4:=hE3.came0 hC4
 have hA4:DkA D4 G4 al4 1:=⟨hP4,ZI_ hA3.H _,QY_ hA3.B _⟩
 rw[afr_,←hb4]
 refine ko @qL_ ?_
 first|with_reducible refine ks [] @qL_ ?_|refine kp @qL_ ?_
 refine Ow.callX (X:=D4) (Y:= []) (List.append_nil _).symm rfl rfl Tryd.call13 (fun w' hw' hX' hn'=>jG_ D4 G4 al4 zt_ [97] [117,118] w' hX' hn' hA4.P (by decide) (by decide) (hA4.used (by omega))) (fun v5 D5 hC5 hS5=> ?_)
 rw[List.append_nil]
 obtain⟨rfl,hP5⟩:=hS5
 have hE5:=hE4.came0 hC5
 have hA5:DkA D5 G4 al5 1:=⟨hP5,kH_ hA4.H _ _ _,wn_ hA4.B _ _ _⟩
 rw[afm_]
 refine ko @qL_ ?_
 first|with_reducible refine ks [] @qL_ ?_|refine kp @qL_ ?_
 refine Ow.buildSlice (e:=43) #[v16 0,v16 0,v16 0,v16 1] rfl rfl (by kernel_rfl) fun bp hbp hwp=> ?_
 refine ko @qL_ ?_
 have hmb: (bp,Obj.cells #[v16 0,v16 0,v16 0,v16 1] 43 (0,0))∈D5++ [(bp,Obj.cells #[v16 0,v16 0,v16 0,v16 1] 43 (0,0))]:=by simp
 refine Ow.callX (X:=D5) (Y:= [(bp, .cells #[v16 0,v16 0,v16 0,v16 1] 43 (0,0))]) rfl rfl rfl Tryd.call16 (fun w' hw' hX' hn'=>Q4_ D5 G4 al5 (vsl bp 0 4 4) [0,0,0,1] w' hX' hn' hA5.P (qP_ hG hw' (hE5.new0.app (show New w.heap.size [(bp,Obj.cells #[v16 0,v16 0,v16 0,v16 1] 43 (0,0))] from⟨hwp,trivial⟩))) (XN_ hG hE5.new0) ((xI_ (q:=(al5,[0,0,0,1])) hA5.B 3).b (by omega)) (.inl (aeR_ (hw'.has bp _ hmb))) (fun _ b hb=>by have hb':bp=b:=Option.some.inj hb;rw[←hb'];exact⟨(Array.getElem?_eq_some_iff.1 (hw'.has bp _ hmb)).1,fun hm=>by have:=zB_ hbp hm;omega⟩) (by decide) (fun k hk=>⟨(hA5.H k).2,hA5.pend (by omega) k hk⟩)) (fun v6 D6 hC6 hS6=> ?_)
 obtain⟨G6,hb6,hP6⟩:=hS6
 have hE6:=hE5.came0 hC6
 have hA6:DkA D6 G6 al6 1:=⟨hP6,Kn_ hA5.H _,VA_ hA5.B _⟩
 rw[←hb6]
 have hP6':DkP (D6++ [(bp,Obj.cells #[v16 0,v16 0,v16 0,v16 1] 43 (0,0))]) G6 al6:=hP6.mono fun b o h=>zn_ h
 have hE6':=hE6.app (o:=Obj.cells #[v16 0,v16 0,v16 0,v16 1] 43 (0,0)) hwp
 generalize D6++ [(bp,Obj.cells #[v16 0,v16 0,v16 0,v16 1] 43 (0,0))]=L6 at*
 have hA7:DkA L6 G6 al6 1:=⟨hP6',hA6.H,hA6.B⟩
 refine ko @qL_ ?_
 first|with_reducible refine ks [] @qL_ ?_|refine kp @qL_ ?_
 refine Ow.callFV rfl Tryd.call6 (fun w' hw'=>X5_ w' G6 al6 zt_ [97] (hP6'.world hw') (by decide)) ?_
 rw[aeV_,aej_]
 have e0: ((0:Int)==0)=true:=rfl
 have e1: (([120,121,122,117]:List UInt8)== [120,121,122,117])=true:=rfl
 refine ko (And.intro @qL_ (And.intro @e0 (@e1))) ?_
 refine Ow.callX (X:=L6) (Y:= []) (List.append_nil _).symm rfl rfl Tryd.call13 (fun w' hw' hX' hn'=>jG_ L6 G6 al6 jP_ [98] [] w' hX' hn' hA7.P (by decide) (by decide) (hA7.used (by omega))) (fun v7 D7 hC7 hS7=> ?_)
 obtain⟨rfl,hP7⟩:=hS7
 have hE7:=hE6'.came0 hC7
 rw[List.append_nil,aeP_]
 have e6: ((6:Int)==6)=true:=rfl
 refine ko (And.intro @qL_ @e6) ?_
 first|with_reducible refine ks [] @qL_ ?_|refine kp @qL_ ?_
 refine⟨_,(ke @qL_),hE7.new0, ?_⟩
 rfl
end Go.Proofs
end
section
open Go Go.Proofs Go.Sx Go.StP
namespace Go.Proofs
set_option maxRecDepth 10000
set_option maxHeartbeats 1000000
set_option linter.unusedSimpArgs false
theorem ad7_:qq_ Tryd.prog .eql 24 (.pointer none) (.pointer none)=some (.bool true):=by
 simp[qq_,eqX,qu_,qd_,Tryd.underlying24]
theorem adw_:qq_ Tryd.prog .neq 24 (.pointer none) (.pointer none)=some (.bool false):=by
 simp[qq_,eqX,qu_,qd_,Tryd.underlying24]
theorem ne90: ((9:Int) !=0)=true:=rfl
set_option linter.defProp false
def zf_:=And.intro (And.intro (@zx_) (And.intro (@zw_) (@ad7_))) (And.intro (And.intro (@adw_) (@Sx.tup2_0)) (And.intro (@Sx.tup2_1) (@ne90)))
theorem zX_ (dir:List UInt8) (v:Value) (w:World):Rets Tryd.prog 21 #[.pointer none,vs dir,v] w (fun v D=>v= .tuple #[.pointer none,vi 9]∧D= []):=by
 refine Rets.enterV Tryd.func21 rfl (rs:= [.tmp 6, .tmp 7]) Tryd.results21 Tryd.ntmps21 ?_
 refine kf ?_
 first|with_reducible refine ks [] @zf_ ?_|refine kp @zf_ ?_
 refine⟨_,(ke @zf_),trivial, ?_⟩
 rfl
theorem kR_ (dir name:List UInt8) (w:World):Rets Tryd.prog 6 #[.pointer none,vs dir,vs name] w (fun v D=>v= .tuple #[vs [],vi 9]∧D= []):=by
 refine Rets.enterV Tryd.func6 rfl (rs:= [.tmp 6, .tmp 7]) Tryd.results6 Tryd.ntmps6 ?_
 refine kf ?_
 first|with_reducible refine ks [] @zf_ ?_|refine kp @zf_ ?_
 refine Ow.buildSlice (e:=9) #[vs name] rfl rfl (by kernel_rfl) fun b1 hb1 hw1=> ?_
 refine ko @zf_ ?_
 refine Ow.callFV rfl Tryd.call21 (fun w' hw'=>zX_ dir (vsl b1 0 1 1) w') ?_
 refine ko @zf_ ?_
 first|with_reducible refine ks [] @zf_ ?_|refine kp @zf_ ?_
 refine⟨_,(ke @zf_),⟨hw1,trivial⟩, ?_⟩
 rfl
theorem jr_ (dir:List UInt8) (w:World):Rets Tryd.prog 7 #[.pointer none,vs dir] w (fun v D=>v= .slice none 0 0∧D= []):=by
 refine Rets.enterV Tryd.func7 rfl (rs:= [.tmp 4]) Tryd.results7 Tryd.ntmps7 ?_
 refine kf ?_
 first|with_reducible refine ks [] @zf_ ?_|refine kp @zf_ ?_
 refine Ow.callFV rfl Tryd.call21 (fun w' hw'=>zX_ dir (.slice none 0 0) w') ?_
 refine ko @zf_ ?_
 first|with_reducible refine ks [] @zf_ ?_|refine kp @zf_ ?_
 refine⟨_,(ke @zf_),trivial, ?_⟩
 rfl
theorem kF_ (w:World):Rets Tryd.prog 9 #[.pointer none] w (fun v D=>v=vi 0∧D= []):=by
 refine Rets.enterV Tryd.func9 rfl (rs:= [.tmp 2]) Tryd.results9 Tryd.ntmps9 ?_
 refine kf ?_
 first|with_reducible refine ks [] @zf_ ?_|refine kp @zf_ ?_
 refine⟨_,(ke @zf_),trivial, ?_⟩
 rfl
theorem wj_ (w:World):Rets Tryd.prog 10 #[.pointer none] w (fun v D=>v= .bool true∧D= []):=by
 refine Rets.enterV Tryd.func10 rfl (rs:= [.tmp 2]) Tryd.results10 Tryd.ntmps10 ?_
 refine kf ?_
 first|with_reducible refine ks [] @zf_ ?_|refine kp @zf_ ?_
 refine⟨_,(ke @zf_),trivial, ?_⟩
 rfl
theorem Jw_ (n:Int) (w:World):Rets Tryd.prog 19 #[.pointer none,vi n] w (fun v D=>v=xF_ []∧D= []):=by
 refine Rets.enterV Tryd.func19 rfl (rs:= []) Tryd.results19 Tryd.ntmps19 ?_
 refine kf ?_
 first|with_reducible refine ks [] @zf_ ?_|refine kp @zf_ ?_
 refine⟨_,(ke @zf_),trivial, ?_⟩
 rfl
theorem Qt_ (n:Int) (w:World):Rets Tryd.prog 20 #[.pointer none,vi n] w (fun v D=>v=xF_ []∧D= []):=by
 refine Rets.enterV Tryd.func20 rfl (rs:= []) Tryd.results20 Tryd.ntmps20 ?_
 refine kf ?_
 first|with_reducible refine ks [] @zf_ ?_|refine kp @zf_ ?_
 refine⟨_,(ke @zf_),trivial, ?_⟩
 rfl
theorem Qo_ (p:PkL) (w:World):Rets Tryd.prog 16 #[.pointer none,p.v] w (fun v D=>v=xF_ []∧D= []):=by
 have hp:=p.h
 refine Rets.enterV Tryd.func16 rfl (rs:= []) Tryd.results16 Tryd.ntmps16 ?_
 refine kf ?_
 first|with_reducible refine ks [] @zf_ ?_|refine kp @zf_ ?_
 refine Ow.box rfl rfl fun b1 hb1 hw1=> ?_
 simp only[ji_,jf_,jx_,zZ_,List.nil_append,List.cons_append]
 refine Ow.go rfl ?_
 simp(disch:=(first|assumption|omega| (simp only[lenS,Wb_,UInt64.reduceToNat];try omega))) only[↓Sx.S0,Sx.S1,Tryd.fx,zf_,Nat.reduceAdd,Nat.reducePow,Int.reducePow,Nat.reduceBEq, ↓reduceIte,UInt8.reduceToNat,UInt16.reduceToNat,UInt32.reduceToNat,UInt64.reduceToNat,Int.reduceToNat]
 first|with_reducible refine ks [] @zf_ ?_|refine kp @zf_ ?_
 refine⟨_,(ke @zf_),⟨hw1,trivial⟩, ?_⟩
 rfl
theorem wN_ (dir name:List UInt8) (w:World):Rets Tryd.prog 12 #[.pointer none,vs dir,vs name] w (fun v D=>v=vi 9∧D= []):=by
 refine Rets.enterV Tryd.func12 rfl (rs:= [.tmp 6]) Tryd.results12 Tryd.ntmps12 ?_
 refine kf ?_
 first|with_reducible refine ks [] @zf_ ?_|refine kp @zf_ ?_
 refine Ow.buildSlice (e:=9) #[vs name] rfl rfl (by kernel_rfl) fun b1 hb1 hw1=> ?_
 refine ko @zf_ ?_
 refine Ow.callFV rfl Tryd.call21 (fun w' hw'=>zX_ dir (vsl b1 0 1 1) w') ?_
 refine ko @zf_ ?_
 first|with_reducible refine ks [] @zf_ ?_|refine kp @zf_ ?_
 refine⟨_,(ke @zf_),⟨hw1,trivial⟩, ?_⟩
 rfl
theorem wW_ (dir name s:List UInt8) (w:World):Rets Tryd.prog 13 #[.pointer none,vs dir,vs name,vs s] w (fun v D=>v=vi 9∧D= []):=by
 refine Rets.enterV Tryd.func13 rfl (rs:= [.tmp 8]) Tryd.results13 Tryd.ntmps13 ?_
 refine kf ?_
 first|with_reducible refine ks [] @zf_ ?_|refine kp @zf_ ?_
 refine Ow.buildSlice (e:=9) #[vs name] rfl rfl (by kernel_rfl) fun b1 hb1 hw1=> ?_
 refine ko @zf_ ?_
 refine Ow.callFV rfl Tryd.call21 (fun w' hw'=>zX_ dir (vsl b1 0 1 1) w') ?_
 refine ko @zf_ ?_
 first|with_reducible refine ks [] @zf_ ?_|refine kp @zf_ ?_
 refine⟨_,(ke @zf_),⟨hw1,trivial⟩, ?_⟩
 rfl
theorem QB_ (dir name:List UInt8) (w:World):Rets Tryd.prog 14 #[.pointer none,vs dir,vs name] w (fun v D=>v=vi 9∧D= []):=by
 refine Rets.enterV Tryd.func14 rfl (rs:= [.tmp 6]) Tryd.results14 Tryd.ntmps14 ?_
 refine kf ?_
 first|with_reducible refine ks [] @zf_ ?_|refine kp @zf_ ?_
 refine Ow.buildSlice (e:=9) #[vs name] rfl rfl (by kernel_rfl) fun b1 hb1 hw1=> ?_
 refine ko @zf_ ?_
 refine Ow.callFV rfl Tryd.call21 (fun w' hw'=>zX_ dir (vsl b1 0 1 1) w') ?_
 refine ko @zf_ ?_
 first|with_reducible refine ks [] @zf_ ?_|refine kp @zf_ ?_
 refine⟨_,(ke @zf_),⟨hw1,trivial⟩, ?_⟩
 rfl
theorem vW_ (dir:List UInt8) (w:World):Rets Tryd.prog 15 #[.pointer none,vs dir] w (fun v D=>v=vi 9∧D= []):=by
 refine Rets.enterV Tryd.func15 rfl (rs:= [.tmp 4]) Tryd.results15 Tryd.ntmps15 ?_
 refine kf ?_
 first|with_reducible refine ks [] @zf_ ?_|refine kp @zf_ ?_
 refine Ow.callFV rfl Tryd.call21 (fun w' hw'=>zX_ dir (.slice none 0 0) w') ?_
 refine ko @zf_ ?_
 first|with_reducible refine ks [] @zf_ ?_|refine kp @zf_ ?_
 refine⟨_,(ke @zf_),trivial, ?_⟩
 rfl
theorem w1_ (dir name s:List UInt8) (w:World):Rets Tryd.prog 17 #[.pointer none,vs dir,vs name,vs s] w (fun v D=>v=vi 9∧D= []):=by
 have c1: (vs name).cells= #[vs name]:=rfl
 have c2: (vs s).cells= #[vs s]:=rfl
 have ld1: ∀ (E:TypeId) n,zy_ (some (false,n)) (some (.cells #[vs name] E (0,0))) 0=some (vs name):=fun _ _=>rfl
 have ld2: ∀ (E:TypeId) n,zy_ (some (false,n)) (some (.cells #[vs s] E (0,0))) 0=some (vs s):=fun _ _=>rfl
 refine Rets.enterV Tryd.func17 rfl (rs:= [.tmp 8]) Tryd.results17 Tryd.ntmps17 ?_
 refine kf ?_
 first|with_reducible refine ks [] @zf_ ?_|refine kp @zf_ ?_
 refine Ow.box rfl rfl fun b1 hb1 hw1=> ?_
 simp only[ji_,jf_,jx_,zZ_,List.nil_append,List.cons_append]
 refine Ow.go rfl ?_
 simp(disch:=(first|assumption|omega| (simp only[lenS,Wb_,UInt64.reduceToNat];try omega))) only[↓Sx.S0,Sx.S1,Tryd.fx,zf_,Nat.reduceAdd,Nat.reducePow,Int.reducePow,Nat.reduceBEq, ↓reduceIte,UInt8.reduceToNat,UInt16.reduceToNat,UInt32.reduceToNat,UInt64.reduceToNat,Int.reduceToNat]
 refine Ow.box rfl rfl fun b2 hb2 hw2=> ?_
 simp only[ji_,jf_,jx_,zZ_,List.nil_append,List.cons_append]
 refine Ow.go rfl ?_
 simp(disch:=(first|assumption|omega| (simp only[lenS,Wb_,UInt64.reduceToNat];try omega))) only[↓Sx.S0,Sx.S1,Tryd.fx,zf_,Nat.reduceAdd,Nat.reducePow,Int.reducePow,Nat.reduceBEq, ↓reduceIte,UInt8.reduceToNat,UInt16.reduceToNat,UInt32.reduceToNat,UInt64.reduceToNat,Int.reduceToNat]
 rw[c1]
 rw[c2]
 have hr2:zm_ w [(b1,Obj.cells #[vs name] 9 (0,0)),(b2,Obj.cells #[vs s] 9 (0,0))] b2=some (.cells #[vs s] 9 (0,0)):=zc_ (qU_ (L:= [(b1,_)]) hb2)
 first|with_reducible refine ks [] (And.intro @zf_ (And.intro @ld1 (And.intro @ld2 (@hr2)))) ?_|refine kp (And.intro @zf_ (And.intro @ld1 (And.intro @ld2 (@hr2)))) ?_
 refine Ow.buildSlice (e:=9) #[vs name,vs s] rfl rfl (by kernel_rfl) fun b3 hb3 hw3=> ?_
 refine ko @zf_ ?_
 refine Ow.callFV rfl Tryd.call21 (fun w' hw'=>zX_ dir (vsl b3 0 2 2) w') ?_
 refine ko @zf_ ?_
 first|with_reducible refine ks [] @zf_ ?_|refine kp @zf_ ?_
 refine⟨_,(ke @zf_),⟨hw1,hw2,hw3,trivial⟩, ?_⟩
 rfl
theorem Zn_ (dir name:List UInt8) (w:World):Rets Tryd.prog 18 #[.pointer none,vs dir,vs name] w (fun v D=>v=vi 9∧D= []):=by
 refine Rets.enterV Tryd.func18 rfl (rs:= [.tmp 6]) Tryd.results18 Tryd.ntmps18 ?_
 refine kf ?_
 first|with_reducible refine ks [] @zf_ ?_|refine kp @zf_ ?_
 refine Ow.buildSlice (e:=9) #[vs name] rfl rfl (by kernel_rfl) fun b1 hb1 hw1=> ?_
 refine ko @zf_ ?_
 refine Ow.callFV rfl Tryd.call21 (fun w' hw'=>zX_ dir (vsl b1 0 1 1) w') ?_
 refine ko @zf_ ?_
 first|with_reducible refine ks [] @zf_ ?_|refine kp @zf_ ?_
 refine⟨_,(ke @zf_),⟨hw1,trivial⟩, ?_⟩
 rfl
end Go.Proofs
end
section
open Go Go.Proofs Go.Sx Go.StP Go.Flo
namespace Go.Proofs
set_option maxRecDepth 10000
set_option maxHeartbeats 400000
set_option linter.unusedSimpArgs false
set_option linter.defProp false
set_option linter.defProp false
end Go.Proofs
end
section
open Go Go.Proofs Go.Sx Go.StP Go.Flo
namespace Go.Proofs
set_option maxRecDepth 10000
set_option maxHeartbeats 400000
set_option linter.unusedSimpArgs false
set_option linter.defProp false
end Go.Proofs
end
section
open Go Go.Proofs Go.Sx Go.StP Go.Flo
namespace Go.Proofs
set_option maxRecDepth 10000
set_option maxHeartbeats 400000
set_option linter.unusedSimpArgs false
set_option linter.defProp false
end Go.Proofs
end
section
open Go Go.Proofs Go.Sx Go.StP Go.Flo
namespace Go.Proofs
set_option maxRecDepth 10000
set_option maxHeartbeats 400000
set_option linter.unusedSimpArgs false
set_option linter.defProp false
end Go.Proofs
end
section
open Go Go.Proofs Go.Sx Go.StP Go.Flo
namespace Go.Proofs
set_option maxRecDepth 10000
set_option maxHeartbeats 400000
set_option linter.unusedSimpArgs false
set_option linter.defProp false
end Go.Proofs
end
section
open Go Go.Proofs Go.Sx Go.StP Go.Flo
namespace Go.Proofs
set_option maxRecDepth 10000
set_option maxHeartbeats 400000
set_option linter.unusedSimpArgs false
set_option linter.defProp false
set_option linter.defProp false
end Go.Proofs
end
section
open Go Go.Proofs Go.Sx Go.StP Go.Flo
namespace Go.Proofs
set_option maxRecDepth 10000
set_option maxHeartbeats 400000
set_option linter.unusedSimpArgs false
set_option linter.defProp false
end Go.Proofs
end
section
open Go Go.Proofs Go.Sx Go.StP Go.Flo
namespace Go.Proofs
set_option maxRecDepth 10000
set_option maxHeartbeats 400000
set_option linter.unusedSimpArgs false
set_option linter.defProp false
end Go.Proofs
end
section
open Go Go.Proofs Go.Sx Go.StP Go.Flo
namespace Go.Proofs
set_option maxRecDepth 10000
set_option maxHeartbeats 400000
set_option linter.unusedSimpArgs false
set_option linter.defProp false
end Go.Proofs
end
section
open Go Go.Proofs Go.Sx Go.StP Go.Flo
namespace Go.Proofs
set_option maxRecDepth 10000
set_option maxHeartbeats 1000000
set_option linter.unusedSimpArgs false
set_option linter.defProp false
end Go.Proofs
end
section
open Go Go.Proofs Go.Sx Go.StP Go.Flo
namespace Go.Proofs
set_option maxRecDepth 10000
set_option maxHeartbeats 400000
set_option linter.unusedSimpArgs false
set_option linter.defProp false
end Go.Proofs
end
section
open Go Go.Proofs Go.Sx Go.StP Go.Flo
namespace Go.Proofs
set_option maxRecDepth 10000
set_option maxHeartbeats 400000
set_option linter.unusedSimpArgs false
end Go.Proofs
end
section
open Go Go.Proofs Go.Sx Go.StP Go.Flo
namespace Go.Proofs
set_option maxRecDepth 10000
set_option maxHeartbeats 400000
set_option linter.unusedSimpArgs false
set_option linter.defProp false
end Go.Proofs
end
section
open Go Go.Proofs Go.Sx Go.StP Go.Flo
namespace Go.Proofs
set_option maxRecDepth 10000
set_option maxHeartbeats 400000
set_option linter.unusedSimpArgs false
set_option linter.defProp false
end Go.Proofs
end
section
open Go Go.Proofs Go.Sx Go.StP Go.Flo
namespace Go.Proofs
set_option maxRecDepth 10000
set_option maxHeartbeats 400000
set_option linter.unusedSimpArgs false
set_option linter.defProp false
end Go.Proofs
end
namespace Go.Sx
end Go.Sx
section
open Go Go.Proofs Go.Sx
namespace Go.Proofs
set_option maxRecDepth 10000
set_option maxHeartbeats 4000000
set_option linter.unusedSimpArgs false
set_option linter.defProp false
end Go.Proofs
end
section
open Go Go.Proofs Go.Sx Go.StP Go.Flo
namespace Go.Proofs
set_option maxRecDepth 10000
set_option maxHeartbeats 1000000
set_option linter.unusedSimpArgs false
set_option linter.defProp false
end Go.Proofs
end
section
open Go Go.Proofs Go.Sx Go.StP Go.Flo
namespace Go.Proofs
set_option maxRecDepth 10000
set_option maxHeartbeats 1000000
set_option linter.unusedSimpArgs false
set_option linter.defProp false
end Go.Proofs
end
section
open Go Go.Proofs Go.Sx Go.StP Go.Flo
namespace Go.Proofs
set_option maxRecDepth 10000
set_option maxHeartbeats 1000000
set_option linter.unusedSimpArgs false
set_option linter.defProp false
end Go.Proofs
end
section
open Go Go.Proofs Go.Sx Go.StP Go.Flo
namespace Go.Proofs
set_option maxRecDepth 10000
set_option maxHeartbeats 400000
set_option linter.unusedSimpArgs false
set_option linter.defProp false
end Go.Proofs
end
section
open Go Go.Proofs Go.Sx Go.StP Go.Flo
namespace Go.Proofs
set_option maxRecDepth 10000
set_option maxHeartbeats 400000
set_option linter.unusedSimpArgs false
set_option linter.defProp false
end Go.Proofs
end
section
open Go Go.Proofs Go.Sx Go.StP Go.Flo
namespace Go.Proofs
set_option maxRecDepth 10000
set_option maxHeartbeats 400000
set_option linter.unusedSimpArgs false
set_option linter.defProp false
end Go.Proofs
end
section
open Go Go.Proofs Go.Sx Go.StP Go.Flo
namespace Go.Proofs
set_option maxRecDepth 10000
set_option maxHeartbeats 400000
set_option linter.unusedSimpArgs false
set_option linter.defProp false
instance:DecidableEq FiL:=fun a b=>if h:a.dir=b.dir∧a.name=b.name∧a.data=b.data then .isTrue (by cases a;cases b;simp only at h;obtain⟨rfl,rfl,rfl⟩:=h;rfl) else .isFalse (fun e=>h (by rw[e];exact⟨rfl,rfl,rfl⟩))
set_option linter.defProp false
end Go.Proofs
end
section
open Go Go.Proofs Go.Sx Go.StP Go.Flo
namespace Go.Proofs
set_option maxRecDepth 10000
set_option maxHeartbeats 1000000
set_option linter.unusedSimpArgs false
theorem ActOk.old {w w':World} {L:za_} {a:ActL} (h:ActOk w a) (hw:Hp w L w') (hn:New w.heap.size L):ActOk w' a:=
 ⟨h.pk.old hw fun hl _b hb=>hn.not (h.pk.blk hl hb),h.n⟩
set_option linter.defProp false
end Go.Proofs
end
section
open Go Go.Proofs Go.Sx Go.StP Go.Flo
namespace Go.Proofs
set_option maxRecDepth 10000
set_option maxHeartbeats 1000000
set_option linter.unusedSimpArgs false
structure NoG where
 i:Nat
set_option linter.defProp false
def jw_:=And.intro (And.intro (@zx_) (@zw_)) (And.intro (@Sx.tup2_0) (@Sx.tup2_1))
theorem x4_ (w:World) (hGl:vU_ w):Rets Tryd.prog 8 #[.pointer none] w (fun v D=>v= .slice none 0 0∧D= []):=by
 obtain⟨eg,fzg,hgl⟩:=hGl
 refine Rets.enterV Tryd.func8 rfl (rs:= [.tmp 2]) Tryd.results8 Tryd.ntmps8 ?_
 refine kf ?_
 first|with_reducible refine ks [] (And.intro @jw_ (And.intro @hgl (@qZ_))) ?_|refine kp (And.intro @jw_ (And.intro @hgl (@qZ_))) ?_
 refine Cw.loopG (G:=NoG) [10,11,5,12,13,14,15,16,17,18,19,7,20,21,22,23,24,25,26,27,28,29,30,31,32,33,34,35,36,37,38,39,3,40,41,9] (fun g=> [(3, .slice none 0 0),(9,vi g.i)]) (fun g=> []) (fun g=>g.i≤3) (fun g=>3 - g.i) ⟨0⟩ rfl rfl ?_ ?_
 ·exact Nat.zero_le _
 intro g j hg
 refine kv ?_
 obtain⟨i⟩:=g
 simp only at hg ⊢
 by_cases hlt:i<3
 ·have d1:decide ((i:Int)<3)=true:=decide_eq_true (by omega)
  have ixk:=xu_ hlt
  first|with_reducible refine ks [10] (And.intro @jw_ (And.intro @d1 (@ixk))) ?_|refine kp (And.intro @jw_ (And.intro @d1 (@ixk))) ?_
  refine Ow.callFV rfl Tryd.call7 (fun w' hw'=>jr_ (Zo_ i) w') ?_
  have ln0: ∀x,wu_ (.sl x) (.slice none 0 0)=some (vi 0):=fun x=>rfl
  refine ko (And.intro @jw_ @ln0) ?_
  refine Cw.loopG (G:=NoG) [17,18,19,7,20,21,22,23,24,25,26,27,28,29,30,31,32,33,34,35,36,37,38,39,3,40,16] (fun g=> [(3, .slice none 0 0),(16,vi 0)]) (fun g=> []) (fun g=>True) (fun g=>0) ⟨0⟩ rfl rfl ?_ ?_
  ·trivial
  intro g j hg
  refine kv ?_
  have d2:decide ((0:Int)<0)=false:=rfl
  first|with_reducible refine ks [] (And.intro @jw_ @d2) ?_|refine kp (And.intro @jw_ @d2) ?_
  first|with_reducible refine ks [] @jw_ ?_|refine kp @jw_ ?_
  refine Again.mk ⟨i+1⟩ (by show 3 - (i+1)<3 - i;omega) hlt rfl rfl
 ·have d1:decide ((i:Int)<3)=false:=decide_eq_false (by omega)
  first|with_reducible refine ks [] (And.intro @jw_ @d1) ?_|refine kp (And.intro @jw_ @d1) ?_
  refine⟨_,(ke @jw_),trivial, ?_⟩
  rfl
def Vl_ (a:ActL):Nat:=if 0≤a.kind.tmod 9∧a.kind.tmod 9<6 then 9 else 0
set_option linter.defProp false
def zh_:=And.intro (And.intro (And.intro (@zx_) (@zw_)) (And.intro (@Vs_) (And.intro (@Xu_) (@Xp_)))) (And.intro (And.intro (@XU_) (@XK_)) (And.intro (@Xx_) (And.intro (@Xz_) (@XM_))))
theorem WK_ (a:ActL) (w:World):Rets Tryd.prog 5 #[.pointer none, .agg (acC a).toArray] w (fun v D=>v=vi (Vl_ a:Nat)∧D= []):=by
 refine Rets.enterV Tryd.func5 rfl (rs:= [.tmp 4]) Tryd.results5 Tryd.ntmps5 ?_
 refine kf ?_
 first|with_reducible refine ks [1] @zh_ ?_|refine kp @zh_ ?_
 refine Ow.box rfl rfl fun b1 hb1 hw1=> ?_
 simp only[ji_,jf_,jx_,zZ_,List.nil_append,List.cons_append]
 refine Ow.go rfl ?_
 simp(disch:=(first|assumption|omega| (simp only[lenS,Wb_,UInt64.reduceToNat];try omega))) only[↓Sx.S0,Sx.S1,Tryd.fx,zh_,Nat.reduceAdd,Nat.reducePow,Int.reducePow,Nat.reduceBEq, ↓reduceIte,UInt8.reduceToNat,UInt16.reduceToNat,UInt32.reduceToNat,UInt64.reduceToNat,Int.reduceToNat]
 have hrem:=rem9 a.kind
 by_cases k0:a.kind.tmod 9=0
 ·have e0: (a.kind.tmod 9==0)=true:=beq_iff_eq.2 k0
  have hd:Vl_ a=9:=if_pos (by omega)
  first|with_reducible refine ks [] (And.intro @zh_ (And.intro @hrem (@e0))) ?_|refine kp (And.intro @zh_ (And.intro @hrem (@e0))) ?_
  refine Ow.callFV rfl Tryd.call12 (fun w' hw'=>wN_ a.dir a.name w') ?_
  refine ko @zh_ ?_
  first|with_reducible refine ks [] @zh_ ?_|refine kp @zh_ ?_
  refine⟨_,(ke @zh_),⟨hw1,trivial⟩, ?_⟩
  (rw[hd];rfl)
 have e0: (a.kind.tmod 9==0)=false:=beq_eq_false_iff_ne.2 k0
 by_cases k1:a.kind.tmod 9=1
 ·have e1: (a.kind.tmod 9==1)=true:=beq_iff_eq.2 k1
  have hd:Vl_ a=9:=if_pos (by omega)
  first|with_reducible refine ks [] (And.intro @zh_ (And.intro @hrem (And.intro @e0 (@e1)))) ?_|refine kp (And.intro @zh_ (And.intro @hrem (And.intro @e0 (@e1)))) ?_
  refine Ow.callFV rfl Tryd.call13 (fun w' hw'=>wW_ a.dir a.name a.s w') ?_
  refine ko @zh_ ?_
  first|with_reducible refine ks [] @zh_ ?_|refine kp @zh_ ?_
  refine⟨_,(ke @zh_),⟨hw1,trivial⟩, ?_⟩
  (rw[hd];rfl)
 have e1: (a.kind.tmod 9==1)=false:=beq_eq_false_iff_ne.2 k1
 by_cases k2:a.kind.tmod 9=2
 ·have e2: (a.kind.tmod 9==2)=true:=beq_iff_eq.2 k2
  have hd:Vl_ a=9:=if_pos (by omega)
  first|with_reducible refine ks [] (And.intro @zh_ (And.intro @hrem (And.intro @e0 (And.intro @e1 (@e2))))) ?_|refine kp (And.intro @zh_ (And.intro @hrem (And.intro @e0 (And.intro @e1 (@e2))))) ?_
  refine Ow.callFV rfl Tryd.call14 (fun w' hw'=>QB_ a.dir a.name w') ?_
  refine ko @zh_ ?_
  first|with_reducible refine ks [] @zh_ ?_|refine kp @zh_ ?_
  refine⟨_,(ke @zh_),⟨hw1,trivial⟩, ?_⟩
  (rw[hd];rfl)
 have e2: (a.kind.tmod 9==2)=false:=beq_eq_false_iff_ne.2 k2
 by_cases k3:a.kind.tmod 9=3
 ·have e3: (a.kind.tmod 9==3)=true:=beq_iff_eq.2 k3
  have hd:Vl_ a=9:=if_pos (by omega)
  first|with_reducible refine ks [] (And.intro @zh_ (And.intro @hrem (And.intro @e0 (And.intro @e1 (And.intro @e2 (@e3)))))) ?_|refine kp (And.intro @zh_ (And.intro @hrem (And.intro @e0 (And.intro @e1 (And.intro @e2 (@e3)))))) ?_
  refine Ow.callFV rfl Tryd.call15 (fun w' hw'=>vW_ a.dir w') ?_
  refine ko @zh_ ?_
  first|with_reducible refine ks [] @zh_ ?_|refine kp @zh_ ?_
  refine⟨_,(ke @zh_),⟨hw1,trivial⟩, ?_⟩
  (rw[hd];rfl)
 have e3: (a.kind.tmod 9==3)=false:=beq_eq_false_iff_ne.2 k3
 by_cases k4:a.kind.tmod 9=4
 ·have e4: (a.kind.tmod 9==4)=true:=beq_iff_eq.2 k4
  have hd:Vl_ a=9:=if_pos (by omega)
  first|with_reducible refine ks [] (And.intro @zh_ (And.intro @hrem (And.intro @e0 (And.intro @e1 (And.intro @e2 (And.intro @e3 (@e4))))))) ?_|refine kp (And.intro @zh_ (And.intro @hrem (And.intro @e0 (And.intro @e1 (And.intro @e2 (And.intro @e3 (@e4))))))) ?_
  refine Ow.callFV rfl Tryd.call17 (fun w' hw'=>w1_ a.dir a.name a.s w') ?_
  refine ko @zh_ ?_
  first|with_reducible refine ks [] @zh_ ?_|refine kp @zh_ ?_
  refine⟨_,(ke @zh_),⟨hw1,trivial⟩, ?_⟩
  (rw[hd];rfl)
 have e4: (a.kind.tmod 9==4)=false:=beq_eq_false_iff_ne.2 k4
 by_cases k5:a.kind.tmod 9=5
 ·have e5: (a.kind.tmod 9==5)=true:=beq_iff_eq.2 k5
  have hd:Vl_ a=9:=if_pos (by omega)
  first|with_reducible refine ks [] (And.intro @zh_ (And.intro @hrem (And.intro @e0 (And.intro @e1 (And.intro @e2 (And.intro @e3 (And.intro @e4 (@e5)))))))) ?_|refine kp (And.intro @zh_ (And.intro @hrem (And.intro @e0 (And.intro @e1 (And.intro @e2 (And.intro @e3 (And.intro @e4 (@e5)))))))) ?_
  refine Ow.callFV rfl Tryd.call18 (fun w' hw'=>Zn_ a.dir a.name w') ?_
  refine ko @zh_ ?_
  first|with_reducible refine ks [] @zh_ ?_|refine kp @zh_ ?_
  refine⟨_,(ke @zh_),⟨hw1,trivial⟩, ?_⟩
  (rw[hd];rfl)
 have e5: (a.kind.tmod 9==5)=false:=beq_eq_false_iff_ne.2 k5
 have hd:Vl_ a=0:=if_neg (by omega)
 by_cases k6:a.kind.tmod 9=6
 ·have e6: (a.kind.tmod 9==6)=true:=beq_iff_eq.2 k6
  first|with_reducible refine ks [] (And.intro @zh_ (And.intro @hrem (And.intro @e0 (And.intro @e1 (And.intro @e2 (And.intro @e3 (And.intro @e4 (And.intro @e5 (@e6))))))))) ?_|refine kp (And.intro @zh_ (And.intro @hrem (And.intro @e0 (And.intro @e1 (And.intro @e2 (And.intro @e3 (And.intro @e4 (And.intro @e5 (@e6))))))))) ?_
  refine Ow.callFV rfl Tryd.call19 (fun w' hw'=>Jw_ a.n w') ?_
  refine ko @zh_ ?_
  first|with_reducible refine ks [] @zh_ ?_|refine kp @zh_ ?_
  refine⟨_,(ke @zh_),⟨hw1,trivial⟩, ?_⟩
  (rw[hd];rfl)
 have e6: (a.kind.tmod 9==6)=false:=beq_eq_false_iff_ne.2 k6
 by_cases k7:a.kind.tmod 9=7
 ·have e7: (a.kind.tmod 9==7)=true:=beq_iff_eq.2 k7
  first|with_reducible refine ks [] (And.intro @zh_ (And.intro @hrem (And.intro @e0 (And.intro @e1 (And.intro @e2 (And.intro @e3 (And.intro @e4 (And.intro @e5 (And.intro @e6 (@e7)))))))))) ?_|refine kp (And.intro @zh_ (And.intro @hrem (And.intro @e0 (And.intro @e1 (And.intro @e2 (And.intro @e3 (And.intro @e4 (And.intro @e5 (And.intro @e6 (@e7)))))))))) ?_
  refine Ow.callFV rfl Tryd.call16 (fun w' hw'=>Qo_ a.picks w') ?_
  refine ko @zh_ ?_
  first|with_reducible refine ks [] @zh_ ?_|refine kp @zh_ ?_
  refine⟨_,(ke @zh_),⟨hw1,trivial⟩, ?_⟩
  (rw[hd];rfl)
 have e7: (a.kind.tmod 9==7)=false:=beq_eq_false_iff_ne.2 k7
 by_cases k8:a.kind.tmod 9=8
 ·have e8: (a.kind.tmod 9==8)=true:=beq_iff_eq.2 k8
  first|with_reducible refine ks [] (And.intro @zh_ (And.intro @hrem (And.intro @e0 (And.intro @e1 (And.intro @e2 (And.intro @e3 (And.intro @e4 (And.intro @e5 (And.intro @e6 (And.intro @e7 (@e8))))))))))) ?_|refine kp (And.intro @zh_ (And.intro @hrem (And.intro @e0 (And.intro @e1 (And.intro @e2 (And.intro @e3 (And.intro @e4 (And.intro @e5 (And.intro @e6 (And.intro @e7 (@e8))))))))))) ?_
  refine Ow.callFV rfl Tryd.call20 (fun w' hw'=>Qt_ a.n w') ?_
  refine ko @zh_ ?_
  first|with_reducible refine ks [] @zh_ ?_|refine kp @zh_ ?_
  refine⟨_,(ke @zh_),⟨hw1,trivial⟩, ?_⟩
  (rw[hd];rfl)
 have e8: (a.kind.tmod 9==8)=false:=beq_eq_false_iff_ne.2 k8
 first|with_reducible refine ks [] (And.intro @zh_ (And.intro @hrem (And.intro @e0 (And.intro @e1 (And.intro @e2 (And.intro @e3 (And.intro @e4 (And.intro @e5 (And.intro @e6 (And.intro @e7 (@e8))))))))))) ?_|refine kp (And.intro @zh_ (And.intro @hrem (And.intro @e0 (And.intro @e1 (And.intro @e2 (And.intro @e3 (And.intro @e4 (And.intro @e5 (And.intro @e6 (And.intro @e7 (@e8))))))))))) ?_
 refine⟨_,(ke @zh_),⟨hw1,trivial⟩, ?_⟩
 (rw[hd];rfl)
structure NdG where
 i:Nat
 DG:za_
set_option linter.defProp false
def zj_:=And.intro (And.intro (And.intro (@zx_) (And.intro (@zw_) (@Vs_))) (And.intro (@Xu_) (And.intro (@Xp_) (@XU_)))) (And.intro (And.intro (@XK_) (And.intro (@Xx_) (@Xz_))) (And.intro (And.intro (@VS_) (@XM_)) (And.intro (@Sx.tup2_0) (@Sx.tup2_1))))
theorem wK_ (v1:Value) (acts:List ActL) (w:World) (hG:vU_ w) (hva:AcSl w v1 acts):Rets Tryd.prog 3 #[v1] w (fun v D=>v= .bool true∧D= []):=by
 have ln:=hva.len
 obtain⟨rb,off,arr,E,fz,hr⟩:=hva.row
 have ln0: ∀x,wu_ (.sl x) (.slice none 0 0)=some (vi 0):=fun x=>rfl
 have z0:decide ((0:Int)<0)=false:=rfl
 refine Rets.enterV Tryd.func3 rfl (rs:= [.tmp 2]) Tryd.results3 Tryd.ntmps3 ?_
 refine kf ?_
 first|with_reducible refine ks [] @zj_ ?_|refine kp @zj_ ?_
 refine Ow.callFV rfl Tryd.call4 (fun w' hw'=>jN_ w' (qP_ hG hw' trivial)) ?_
 refine ko @zj_ ?_
 first|with_reducible refine ks [] @zj_ ?_|refine kp @zj_ ?_
 refine Cw.loopG (G:=NdG) [12,13,14,15,16,17,18,19,22,23,24,25,5,26,27,28,6,29,30,31,7,33,34,35,36,37,38,32,39,40,8,9,41,42,43,44,45,46,47,48,49,50,51,52,53,54,55,56,57,58,59,60,61,62,63,64,65,66,2,20,21,4] (fun g=> [(4,vi g.i)]) (fun g=>g.DG) (fun g=>g.i≤acts.length∧g.i≤60∧New w.heap.size g.DG) (fun g=>acts.length - g.i) ⟨0,[]⟩ rfl rfl ?_ ?_
 ·exact⟨Nat.zero_le _,Nat.zero_le _,trivial⟩
 intro g j hg
 refine kv ?_
 obtain⟨i,DG⟩:=g
 simp only at hg ⊢
 obtain⟨hi,hi6,hNG⟩:=hg
 by_cases hlt:i<acts.length∧i<60
 ·have d1:decide ((i:Int)< (acts.length:Int))=true:=decide_eq_true (by omega)
  have d2:decide ((i:Int)<60)=true:=decide_eq_true (by omega)
  have ix:=hr.idx true i hlt.1
  have rda:zm_ w DG rb=some (.cells arr E fz):=by rw[qi_ (hNG.not (hr.lt (by omega)))];exact hr.has (by omega)
  have lda:=aeg_ hr hlt.1
  generalize acts.getD i ac0=a at*
  first|with_reducible refine ks [8] (And.intro @zj_ (And.intro @ln (And.intro @d1 (And.intro @d2 (And.intro @ix (And.intro @rda (@lda))))))) ?_|refine kp (And.intro @zj_ (And.intro @ln (And.intro @d1 (And.intro @d2 (And.intro @ix (And.intro @rda (@lda))))))) ?_
  refine Ow.alloc rfl rfl zrAc fun b9 hb9 hw9=> ?_
  simp only[zZ_,List.nil_append,List.cons_append]
  refine Ow.permL (M:=(b9, .cells (acC ac0).toArray 27 (0,0))::DG) (by classical exact List.perm_iff_count.2 fun a=>by simp only[List.count_append,List.count_cons,List.count_nil]<;>omega) ?_
  have hN9:New w.heap.size ((b9,Obj.cells (acC a).toArray 27 (0,0))::DG):=⟨hw9,hNG⟩
  refine ko @zj_ ?_
  have hrem:=rem9 a.kind
  first|with_reducible refine ks [] @zj_ ?_|refine kp @zj_ ?_
  refine Ow.callFV rfl Tryd.call5 (fun w' hw'=>WK_ a w') ?_
  have hs0: (([]:List UInt8) != [])=false:=rfl
  have n99: ((9:Int) !=9)=false:=rfl
  have n90: ((9:Int) !=0)=true:=rfl
  by_cases hk:0≤a.kind.tmod 9∧a.kind.tmod 9<6
  ·have hd:vi ((Vl_ a:Nat):Int)=vi 9:=by rw[show Vl_ a=9 from if_pos hk];rfl
   have e1:decide (0≤a.kind.tmod 9)=true:=decide_eq_true hk.1
   have e2:decide (a.kind.tmod 9<6)=true:=decide_eq_true hk.2
   rw[hd]
   refine ko @zj_ ?_
   first|with_reducible refine ks [] (And.intro @zj_ @hrem) ?_|refine kp (And.intro @zj_ @hrem) ?_
   refine Ow.callFV rfl Tryd.call6 (fun w' hw'=>kR_ a.dir a.name w') ?_
   refine ko (And.intro @zj_ @hrem) ?_
   first|with_reducible refine ks [] (And.intro @zj_ (And.intro @e1 (And.intro @e2 (And.intro @n99 (@hs0))))) ?_|refine kp (And.intro @zj_ (And.intro @e1 (And.intro @e2 (And.intro @n99 (@hs0))))) ?_
   refine Ow.callFV rfl Tryd.call7 (fun w' hw'=>jr_ a.dir w') ?_
   refine ko (And.intro @zj_ (And.intro @ln0 (@z0))) ?_
   first|with_reducible refine ks [] @zj_ ?_|refine kp @zj_ ?_
   exact Again.mk ⟨i+1,(b9, .cells (acC a).toArray 27 (0,0))::DG⟩ (by show acts.length - (i+1)<acts.length - i;omega) ⟨hlt.1,hlt.2,hN9⟩ rfl rfl
  ·have hd:vi ((Vl_ a:Nat):Int)=vi 0:=by rw[show Vl_ a=0 from if_neg hk];rfl
   have hf:decide (0≤a.kind.tmod 9)=false∨(decide (0≤a.kind.tmod 9)=true∧decide (a.kind.tmod 9<6)=false):=by
    by_cases h1:0≤a.kind.tmod 9
    ·exact .inr ⟨decide_eq_true h1,decide_eq_false fun h2=>hk ⟨h1,h2⟩⟩
    ·exact .inl (decide_eq_false h1)
   rw[hd]
   refine ko @zj_ ?_
   first|with_reducible refine ks [] (And.intro @zj_ @hrem) ?_|refine kp (And.intro @zj_ @hrem) ?_
   refine Ow.callFV rfl Tryd.call6 (fun w' hw'=>kR_ a.dir a.name w') ?_
   rcases hf with e1| ⟨e1,e2⟩
   ·refine ko (And.intro @zj_ @hrem) ?_
    first|with_reducible refine ks [] (And.intro @zj_ (And.intro @e1 (And.intro @n99 (@hs0)))) ?_|refine kp (And.intro @zj_ (And.intro @e1 (And.intro @n99 (@hs0)))) ?_
    refine Ow.callFV rfl Tryd.call7 (fun w' hw'=>jr_ a.dir w') ?_
    refine ko (And.intro @zj_ (And.intro @ln0 (@z0))) ?_
    first|with_reducible refine ks [] @zj_ ?_|refine kp @zj_ ?_
    exact Again.mk ⟨i+1,(b9, .cells (acC a).toArray 27 (0,0))::DG⟩ (by show acts.length - (i+1)<acts.length - i;omega) ⟨hlt.1,hlt.2,hN9⟩ rfl rfl
   ·refine ko (And.intro @zj_ @hrem) ?_
    first|with_reducible refine ks [] (And.intro @zj_ (And.intro @e1 (And.intro @e2 (And.intro @n99 (@hs0))))) ?_|refine kp (And.intro @zj_ (And.intro @e1 (And.intro @e2 (And.intro @n99 (@hs0))))) ?_
    refine Ow.callFV rfl Tryd.call7 (fun w' hw'=>jr_ a.dir w') ?_
    refine ko (And.intro @zj_ (And.intro @ln0 (@z0))) ?_
    first|with_reducible refine ks [] @zj_ ?_|refine kp @zj_ ?_
    exact Again.mk ⟨i+1,(b9, .cells (acC a).toArray 27 (0,0))::DG⟩ (by show acts.length - (i+1)<acts.length - i;omega) ⟨hlt.1,hlt.2,hN9⟩ rfl rfl
 ·have d1: (decide ((i:Int)< (acts.length:Int))=true∧decide ((i:Int)<60)=false)∨decide ((i:Int)< (acts.length:Int))=false:=by
   by_cases h1:i<acts.length
   ·exact .inl ⟨decide_eq_true (by omega),decide_eq_false (by omega)⟩
   ·exact .inr (decide_eq_false (by omega))
  rcases d1 with⟨d1,d2⟩ |d1
  ·first|with_reducible refine ks [] (And.intro @zj_ (And.intro @ln (And.intro @d1 (@d2)))) ?_|refine kp (And.intro @zj_ (And.intro @ln (And.intro @d1 (@d2)))) ?_
   refine Ow.callFV rfl Tryd.call4 (fun w' hw'=>jN_ w' (qP_ hG hw' hNG)) ?_
   refine ko @zj_ ?_
   refine Ow.callFV rfl Tryd.call8 (fun w' hw'=>x4_ w' (qP_ hG hw' hNG)) ?_
   refine ko (And.intro @zj_ @ln0) ?_
   refine Ow.callFV rfl Tryd.call9 (fun w' hw'=>kF_ w') ?_
   refine ko @zj_ ?_
   refine Ow.callFV rfl Tryd.call10 (fun w' hw'=>wj_ w') ?_
   refine ko @zj_ ?_
   first|with_reducible refine ks [] @zj_ ?_|refine kp @zj_ ?_
   refine⟨_,(ke @zj_),hNG, ?_⟩
   rfl
  ·first|with_reducible refine ks [] (And.intro @zj_ (And.intro @ln (@d1))) ?_|refine kp (And.intro @zj_ (And.intro @ln (@d1))) ?_
   refine Ow.callFV rfl Tryd.call4 (fun w' hw'=>jN_ w' (qP_ hG hw' hNG)) ?_
   refine ko @zj_ ?_
   refine Ow.callFV rfl Tryd.call8 (fun w' hw'=>x4_ w' (qP_ hG hw' hNG)) ?_
   refine ko (And.intro @zj_ @ln0) ?_
   refine Ow.callFV rfl Tryd.call9 (fun w' hw'=>kF_ w') ?_
   refine ko @zj_ ?_
   refine Ow.callFV rfl Tryd.call10 (fun w' hw'=>wj_ w') ?_
   refine ko @zj_ ?_
   first|with_reducible refine ks [] @zj_ ?_|refine kp @zj_ ?_
   refine⟨_,(ke @zj_),hNG, ?_⟩
   rfl
end Go.Proofs
end
namespace Go.Sx
open Go Go.ChangeShapes Go.WideShapes Go.RowKit
theorem Hp.same0 {W W':World} (h:Hp W [] W') {b:Nat} (hb:b<W.heap.size):W'.heap[b]? =W.heap[b]? :=h.old b hb (fun hm=>by cases hm)
theorem Hp.kept {W W':World} (h:Hp W [] W') (may:MemPlace→Prop):W.keptBut W' may:=by
 refine⟨h.os,h.output,fun i hi=> ?_⟩
 rw[h.same0 hi]
 cases ho:W.heap[i]? with
 |none=>rfl
 |some o=>
  cases o<;>first
   |exact⟨rfl,rfl,rfl,fun _ _=>rfl⟩
   |exact .inr ⟨rfl,rfl⟩
   |rfl
theorem Hp.sameAt {W W':World} (h:Hp W [] W') {p:MemPlace} (hp:p.block<W.heap.size):W.sameAt W' p:=by
 cases p with
 |cell b off=>
  have:=h.same0 (b:=b) hp
  simp only[World.sameAt,World.cell?,this]
 |map b=>exact h.same0 hp
theorem Hp.frozen {W W':World} (h:Hp W [] W') {a:Addr} (ha:a.block<W.heap.size):W'.frozen? a=W.frozen? a:=by
 simp only[World.frozen?,h.same0 ha]
section
variable {H:Type} {enc:TypeId×Value→H} {P:Program}
theorem xD_ (hl:laidOutB P=true) {W W':World} {sp:Nat→Bool} (hp:Hp W [] W'): ∀ {ts:List TypeId} {vs:List Value} {ds:List (DataW H)} {ps:List MemPlace},
  (∀t∈ts,P.readableRec t=true∧t<P.types.size)→(∀p∈ps,p.block<W.heap.size)→(∀p∈ps,sp p.block=true)→
  DataW.TrodAll enc P W 0 (fun _=>true) true ts vs ds ps→DataW.TrodAll enc P W' 0 sp true ts vs ds ps
 | [],_,_,_,_,_,_,h=>by
  obtain⟨rfl,rfl,rfl⟩:=trodAll_nil h
  exact trodAll_mk0
 |t::ts,_,_,_,ht,hlt,hs,h=>by
  obtain⟨v,vs,d,ds,p,q,rfl,rfl,rfl,h1,h2⟩:=trodAll_cons h
  have hlt1: ∀x∈p,x.block<W.heap.size:=fun x hx=>hlt x (List.mem_append_left _ hx)
  exact trodAll_cons_mk (WideElems.Trod_stays hl (ht t List.mem_cons_self).1 (ht t List.mem_cons_self).2 h1 (fun x hx=>hp.sameAt (hlt1 x hx)) (fun x hx=>hs x (List.mem_append_left _ hx)))
   (xD_ hl hp (fun u hu=>ht u (List.mem_cons_of_mem _ hu)) (fun x hx=>hlt x (List.mem_append_right _ hx)) (fun x hx=>hs x (List.mem_append_right _ hx)) h2)
theorem Ww_ {f:Func} {s:ChangeSpec} {W W':World} {args:Array Value} {ds gs:List (DataW H)} {before:List MemPlace} {tb:TypeId} (hl:laidOutB P=true)
  (hW:DataW.Whole enc P f.params.toList s.vars false W args.toList ds gs before) (hv:s.vars= []) (hpar: ∀t∈f.params.toList,P.readableRec t=true∧t<P.types.size)
  (hr:f.resultTypes= #[tb]) (htb:P.underlying tb=some .bool) (hfn:s.fn H ds={results:= [.lit (.bool true)],args:=ds}) (hp:Hp W [] W'):
  s.post enc P f false true false false W args (.bool true) W':=by
 have hlt:=hW.lt
 have hW0:=hW
 obtain⟨p,q,hA,hV,rfl,hz,hn⟩:=hW
 rw[hv] at hV
 obtain⟨rfl,rfl⟩:=trodVars_none hV
 rw[List.append_nil] at hW0 hlt hz
 have hargs: ∀sp:Nat→Bool,(∀x∈p,sp x.block=true)→DataW.TrodAll enc P W' 0 sp true f.params.toList args.toList (s.fn H (ds++ [])).args p:=fun sp hs=>by
  rw[List.append_nil,hfn]
  exact xD_ hl hp hpar hlt hs hA
 have hvars: ∀sp:Nat→Bool,DataW.TrodVars enc P W' sp s.vars (s.fn H (ds++ [])).vars []:=fun sp=>by
  rw[List.append_nil,hfn,hv];rfl
 have hres: ∀ (b:Nat) (sp:Nat→Bool) (hd:Bool),DataW.TrodAll enc P W' b sp hd f.resultTypes.toList ((Value.bool true).resultList f.resultTypes.size) (s.fn H (ds++ [])).results []:=fun b sp hd=>by
  rw[List.append_nil,hfn,hr]
  exact trodAll_cons_mk (shut_bool htb true) trodAll_mk0
 have hold: ∀x∈p,(fun b=>decide (b<W.heap.size)) x.block=true:=fun x hx=>by simpa using hlt x hx
 refine⟨ds,[],p,[],p,[],hW0,hres _ _ _,hargs _ hold,hvars _,hp.kept _,fun _=> ?_⟩
 refine⟨ok_one hr rfl (okWide_bool_mk htb true),_,_,([]++p)++ [],⟨[]++p,[],trodAll_append (hargs _ (fun _ _=>rfl)) (hres _ _ _),hvars _,rfl, ?_,fun h=>by cases h⟩, ?_⟩
 ·intro b off hx
  have hx':MemPlace.cell b off∈p:=by simpa using hx
  rw[hp.frozen (hlt _ hx')]
  exact hz b off hx'
 ·intro x hx _
  simpa using hx
end
section
variable {P:Program} {W:World} {name:String} {k:IntKind} {zs:List Int}
end
section
variable {H:Type} {enc:TypeId×Value→H} {P:Program}
end
end Go.Sx
namespace Go.Sx
open Go
section
variable {P:Program}
theorem aaK_ {fits:TypeId→Bool} {d:Nat} {e:TypeId} {count off n:Nat} (h:rowAt P fits d e count off n=true):off≤count*P.cellsOf e:=by
 cases d with
 |zero=>simp[rowAt] at h
 |succ d=>
  unfold rowAt at h
  simp only at h
  split at h
  ·cases h
  ·rename_i hs
   have hs':0<P.cellsOf e:=Nat.pos_of_ne_zero hs
   have hd:=Nat.div_add_mod off (P.cellsOf e)
   have hm:=Nat.mod_lt off hs'
   rw[Bool.or_eq_true] at h
   rcases h with h|h
   ·simp only[Bool.and_eq_true,beq_iff_eq,decide_eq_true_eq] at h
    have:off / P.cellsOf e*P.cellsOf e≤count*P.cellsOf e:=Nat.mul_le_mul_right _ (by omega)
    rw[Nat.mul_comm (P.cellsOf e)] at hd
    omega
   ·simp only[Bool.and_eq_true,decide_eq_true_eq] at h
    have: (off / P.cellsOf e+1)*P.cellsOf e≤count*P.cellsOf e:=Nat.mul_le_mul_right _ (by omega)
    rw[Nat.add_mul,Nat.one_mul] at this
    rw[Nat.mul_comm (P.cellsOf e)] at hd
    omega
theorem Qn_ {e:TypeId} {count off:Nat}: ∀ {d:Nat} {u:TypeId} {n:Nat},liesAt P d e count off u n=true→off≤count*P.cellsOf e
 |0,u,n,h=>by simp[liesAt] at h
 |d+1,u,n,h=>by
  unfold liesAt at h
  rw[Bool.or_eq_true] at h
  rcases h with h|h
  ·exact aaK_ h
  ·split at h
   ·exact Qn_ h
   ·cases h
theorem ad4_ {W:World} {r:Reach} {base:Nat} {a:Addr} {e:TypeId} {n:Nat} (h:W.has P r base a e n):a.spot=none∧ ∃arr E fz,W.heap[a.block]? =some (.cells arr E fz)∧a.off≤arr.size:=by
 obtain⟨-,hs,row,cells,hsh,hl⟩:=h
 refine⟨hs, ?_⟩
 unfold World.shape? at hsh
 split at hsh
 ·rename_i c el fz hh
  cases hsh
  refine⟨c,_,fz,hh,Nat.le_trans (Qn_ hl) ?_⟩
  exact Nat.div_mul_le_self _ _
 ·cases hsh
theorem Wl_ {W:World} {r:Reach} {base:Nat} {t e:TypeId} {v:Value} (ht:P.underlying t=some (.slice e)) (h:Value.okWide P W r base t v):
  v= .slice none 0 0∨ ∃b off len cap arr E fz,v=vsl b off len cap∧len≤cap∧W.heap[b]? =some (.cells arr E fz)∧off≤arr.size:=by
 obtain⟨a,len,cap,rfl⟩:=Go.WideShapes.okWide_slice ht h
 unfold Value.okWide at h
 rw[ht] at h
 unfold Cell.okWide at h
 rw[ht] at h
 simp only at h
 unfold Cell.ok at h
 rw[ht] at h
 cases a with
 |none=>
  left
  simp only at h
  split at h
  all_goals first| (cases h;done) |simp_all
 |some a=>
  right
  simp only at h
  obtain⟨hle,-,hh⟩:=h
  obtain⟨hs,arr,E,fz,hb,ho⟩:=ad4_ hh
  obtain⟨b,off,sp⟩:=a
  simp only at hs
  subst hs
  exact⟨b,off,len,cap,arr,E,fz,rfl,hle,hb,ho⟩
theorem ach_ {α:Type} {enc:α→List Value} {z:α} {m:Nat} {W:World} {base b off c:Nat} {l:List α} {arr:Array Value} {E:TypeId} {fz:Nat×Nat} (hm0:0<m) (hm: ∀x,(enc x).length=m)
  (hcells: ∀i,i<l.length→W.cells? base ((Addr.mk b off none).add (i*m)) m=some (enc (l.getD i z))) (hheap:W.heap[b]? =some (.cells arr E fz)) (hoff:off≤arr.size) (hc:l.length≤c):SlV m enc z W (vsl b off l.length c) l:=by
 have get: ∀k,k<l.length→ ∀j,j<m→arr[off+k*m+j]? =(enc (l.getD k z))[j]? :=by
  intro k hk j hj
  obtain⟨-,hl,hg⟩:=World.cells?_some (hcells k hk)
  have:=hg j (by omega)
  rw[z3_,z3_] at this
  simp only[World.cell?,hheap,Option.isSome_none,Bool.false_eq_true,if_false] at this
  exact this
 refine SlV.sl hheap get hc ?_
 by_cases h0:l.length=0
 ·rw[h0];omega
 ·have h1:=get (l.length - 1) (by omega) (m - 1) (by omega)
  rw[List.getElem?_eq_getElem (by rw[hm];omega)] at h1
  have h2:=(Array.getElem?_eq_some_iff.1 h1).1
  have h3: (l.length - 1)*m+m=l.length*m:=by
   rw[←Nat.succ_mul];congr 1;omega
  omega
end
end Go.Sx
section
open Go Go.Proofs Go.Sx Go.StP Go.Flo
open Go.ChangeShapes Go.WideShapes Go.ChangeAt Go.RowKit Go.ChangeMaps
namespace Go.Proofs
set_option maxRecDepth 10000
set_option maxHeartbeats 1000000
set_option linter.unusedSimpArgs false
theorem abL_ {H:Type} {tell:TypeId×Value→H} {α:Type} {enc:α→List Value} {z:α} {m:Nat} {W:World} {r:Reach} {base b0:Nat} {sp:Nat→Bool} {held:Bool} {fuel:Nat} {t e:TypeId} {v:Value} {x:DataW H×List MemPlace} {R:α→DataW H→Prop}
  (ht: (Tryd.prog).underlying t=some (.slice e)) (he: (Tryd.prog).cellsOf e=m) (hm0:0<m) (hm: ∀x,(enc x).length=m) (hval:Value.okWide Tryd.prog W r b0 t v)
  (hdec: ∀n cs y,DataW.trod tell Tryd.prog W base sp held n e cs=some y→ ∃a,cs=enc a∧R a y.1) (hd:DataW.trod tell Tryd.prog W base sp held fuel t [v]=some x):
  ∃l,SlV m enc z W v l∧(l= []∨ ∃es sp',x.1= .slice es sp'∧ ∀i,i<l.length→ ∃d,d∈es∧R (l.getD i z) d):=by
 rcases DataW.trod_slice ht hd with⟨hcs,-⟩ | ⟨a,len,cap,elems,rest,n,-,hcs,hx,-,hl,-,hlen,hel,-,-⟩
 ·simp only[List.cons.injEq,and_true] at hcs
  subst hcs
  exact⟨[],SlV.nil W, .inl rfl⟩
 ·simp only[List.cons.injEq,and_true] at hcs
  subst hcs
  rcases Wl_ ht hval with h0| ⟨b,off,len',cap',arr,E,fz,h1,-,hb,ho⟩
  ·cases h0
  ·unfold vsl at h1
   cases h1
   rw[he] at hel
   have hex: ∀i,i<len→ ∃q,W.cells? base ((Addr.mk b off none).add (i*m)) m=some (enc q)∧ ∃d,d∈elems.map (·.1)∧R q d:=by
    intro i hi
    have h2:=hel i hi
    rw[List.getElem?_eq_getElem (by omega)] at h2
    cases hc:W.cells? base ((Addr.mk b off none).add (i*m)) m with
    |none=>rw[hc] at h2;cases h2
    |some cs=>
     rw[hc] at h2
     obtain⟨q,rfl,hR⟩:=hdec _ _ _ h2
     exact⟨q,rfl,_,List.mem_map_of_mem (List.getElem_mem (by omega)),hR⟩
   obtain⟨f,hf⟩: ∃f:Nat→α,∀i,i<len→W.cells? base ((Addr.mk b off none).add (i*m)) m=some (enc (f i))∧ ∃d,d∈elems.map (·.1)∧R (f i) d:=by
    classical
    refine⟨fun i=>if h:i<len then Classical.choose (hex i h) else z,fun i hi=> ?_⟩
    simp only[dif_pos hi]
    exact Classical.choose_spec (hex i hi)
   have hll: ((List.range len).map f).length=len:=by simp
   have hgd: ∀i,i<len→((List.range len).map f).getD i z=f i:=fun i hi=>by
    rw[List.getD_eq_getElem?_getD,List.getElem?_map,List.getElem?_range hi];rfl
   refine⟨(List.range len).map f, ?_, .inr ⟨_,_,by rw[hx],fun i hi=> ?_⟩⟩
   ·have:=ach_ (W:=W) (base:=base) (b:=b) (off:=off) (c:=cap) (l:=(List.range len).map f) (z:=z) hm0 hm (fun i hi=>by
     rw[hll] at hi
     rw[(hf i hi).1,hgd i hi]) hb ho (by rw[hll];exact hl)
    rw[hll] at this
    exact this
   ·rw[hll] at hi
    rw[hgd i hi]
    exact(hf i hi).2
theorem adk_ {n:Int} (h: (Lit.int .u16 n).wf=true): ∃x:UInt16,Value.int .u16 n=v16 x:=by
 simp only[Lit.wf,Bool.and_eq_true,decide_eq_true_eq] at h
 have h1: (0:Int)≤n:=h.1
 have h2:n≤65535:=h.2
 refine⟨UInt16.ofNat n.toNat, ?_⟩
 unfold v16
 rw[UInt16.toNat_ofNat',Nat.mod_eq_of_lt (by omega),Int.toNat_of_nonneg h1]
theorem aey_ {H:Type} {tell:TypeId×Value→H} {W:World} {base:Nat} {sp:Nat→Bool} {held:Bool} {n:Nat} {cs:List Value} {y:DataW H×List MemPlace}
  (h:DataW.trod tell Tryd.prog W base sp held n 25 cs=some y): ∃p:PkL,cs= [p.v]∧PkS W p.v p.l:=by
 have h1: (Tryd.prog).cellsOf 43=1:=by kernel_rfl
 rcases DataW.trod_slice Tryd.underlying25 h with⟨rfl,-⟩ | ⟨a,len,cap,elems,rest,m,-,rfl,-,-,hl,-,hlen,hel,-,-⟩
 ·exact⟨pk0,rfl, .inl (SlV.nil W)⟩
 ·rw[h1] at hel
  by_cases h0:len=0
  ·subst h0
   exact⟨⟨.slice (some a) 0 cap,[],rfl,rfl⟩,rfl, .inr ⟨rfl,a,cap,rfl⟩⟩
  ·have hex: ∀i,i<len→ ∃q:UInt16,W.cells? base (a.add (i*1)) 1=some (u16C q):=by
    intro i hi
    have h2:=hel i hi
    rw[List.getElem?_eq_getElem (by omega)] at h2
    cases hc:W.cells? base (a.add (i*1)) 1 with
    |none=>rw[hc] at h2;cases h2
    |some cs=>
     rw[hc] at h2
     obtain⟨z,hz,-,hw⟩:=DataW.trod_int Tryd.underlying43 h2
     obtain⟨q,hq⟩:=adk_ hw
     exact⟨q,by rw[hz,hq];rfl⟩
   obtain⟨f,hf⟩: ∃f:Nat→UInt16,∀i,i<len→W.cells? base (a.add (i*1)) 1=some (u16C (f i)):=by
    classical
    refine⟨fun i=>if h:i<len then Classical.choose (hex i h) else 0,fun i hi=> ?_⟩
    simp only[dif_pos hi]
    exact Classical.choose_spec (hex i hi)
   obtain⟨-,-,hg⟩:=World.cells?_some (hf 0 (by omega))
   have hg0:=hg 0 (by omega)
   obtain⟨blk,off,spt⟩:=a
   have hcell:W.cell? ((Addr.mk blk off spt).add (0*1) |>.add 0)=some (v16 (f 0)):=hg0
   unfold World.cell? at hcell
   have hb: ((Addr.mk blk off spt).add (0*1) |>.add 0).block=blk:=rfl
   rw[hb] at hcell
   split at hcell
   ·rename_i arr E fz hh
    split at hcell
    ·cases hcell
    ·rename_i hsp
     have hspt:spt=none:=by
      cases spt with
      |none=>rfl
      |some q=>exact absurd rfl hsp
     subst hspt
     have hoff:off<arr.size:=(Array.getElem?_eq_some_iff.1 hcell).1
     have hll: ((List.range len).map f).length=len:=by simp
     have hgd: ∀i,i<len→((List.range len).map f).getD i 0=f i:=fun i hi=>by
      rw[List.getD_eq_getElem?_getD,List.getElem?_map,List.getElem?_range hi];rfl
     have hs:=ach_ (W:=W) (base:=base) (b:=blk) (off:=off) (c:=cap) (l:=(List.range len).map f) (enc:=u16C) (z:=0) (by decide) abh_ (fun i hi=>by
      rw[hll] at hi
      rw[hf i hi,hgd i hi]) hh (by omega) (by rw[hll];exact hl)
     rw[hll] at hs
     exact⟨⟨.slice (some ⟨blk,off,none⟩) len cap,(List.range len).map f,rfl,rfl⟩,rfl, .inl hs⟩
   ·cases hcell
theorem aev_ {H:Type} {tell:TypeId×Value→H} {W:World} {base:Nat} {sp:Nat→Bool} {held:Bool} (n:Nat) (cs:List Value) (y:DataW H×List MemPlace)
  (h:DataW.trod tell Tryd.prog W base sp held n 27 cs=some y): ∃a:ActL,cs=acC a∧ActOk W a:=by
 obtain⟨xs,m,-,-,hlen,hxl,hel⟩:=DataW.trod_struct Tryd.underlying27 h
 have hc: (Tryd.prog).cellsOf 27=6:=by kernel_rfl
 have hci: (Tryd.prog).cellsOf 3=1:=by kernel_rfl
 have hcs: (Tryd.prog).cellsOf 9=1:=by kernel_rfl
 have hcp: (Tryd.prog).cellsOf 25=1:=by kernel_rfl
 rw[hc] at hlen
 have hxl:xs.length=6:=hxl
 have h0:DataW.trod tell Tryd.prog W base sp held m 3 ((cs.drop 0).take ((Tryd.prog).cellsOf 3))=xs[0]? :=hel 0 _ rfl
 rw[hci,List.getElem?_eq_getElem (by omega)] at h0
 have h1:DataW.trod tell Tryd.prog W base sp held m 3 ((cs.drop 1).take ((Tryd.prog).cellsOf 3))=xs[1]? :=hel 1 _ rfl
 rw[hci,List.getElem?_eq_getElem (by omega)] at h1
 have h2:DataW.trod tell Tryd.prog W base sp held m 9 ((cs.drop 2).take ((Tryd.prog).cellsOf 9))=xs[2]? :=hel 2 _ rfl
 rw[hcs,List.getElem?_eq_getElem (by omega)] at h2
 have h3:DataW.trod tell Tryd.prog W base sp held m 9 ((cs.drop 3).take ((Tryd.prog).cellsOf 9))=xs[3]? :=hel 3 _ rfl
 rw[hcs,List.getElem?_eq_getElem (by omega)] at h3
 have h4:DataW.trod tell Tryd.prog W base sp held m 9 ((cs.drop 4).take ((Tryd.prog).cellsOf 9))=xs[4]? :=hel 4 _ rfl
 rw[hcs,List.getElem?_eq_getElem (by omega)] at h4
 have h5:DataW.trod tell Tryd.prog W base sp held m 25 ((cs.drop 5).take ((Tryd.prog).cellsOf 25))=xs[5]? :=hel 5 _ rfl
 rw[hcp,List.getElem?_eq_getElem (by omega)] at h5
 obtain⟨k,hk,-,-⟩:=DataW.trod_int Tryd.underlying3 h0
 obtain⟨i,hi,-,hiw⟩:=DataW.trod_int Tryd.underlying3 h1
 obtain⟨d,hd,-,-⟩:=DataW.trod_string Tryd.underlying9 h2
 obtain⟨u,hu,-,-⟩:=DataW.trod_string Tryd.underlying9 h3
 obtain⟨s,hs,-,-⟩:=DataW.trod_string Tryd.underlying9 h4
 obtain⟨p,hp,hpk⟩:=aey_ h5
 refine⟨⟨k,i,d.data.toList,u.data.toList,s.data.toList,p⟩, ?_,hpk, ?_⟩
 ·have hd6:cs=(cs.drop 0).take 1++ ((cs.drop 1).take 1++ ((cs.drop 2).take 1++ ((cs.drop 3).take 1++ ((cs.drop 4).take 1++ (cs.drop 5).take 1)))):=by
   match cs,hlen with
   | [c0,c1,c2,c3,c4,c5],_=>rfl
  rw[hd6,hk,hi,hd,hu,hs,hp]
  rfl
 ·simp only[Lit.wf,Bool.and_eq_true,decide_eq_true_eq] at hiw
  have g1: (-9223372036854775808:Int)≤i:=by simpa [IntKind.min,IntKind.bits,IntKind.signed] using hiw.1
  have g2:i≤9223372036854775807:=by simpa [IntKind.max,IntKind.bits,IntKind.signed] using hiw.2
  exact⟨g1,by show i<9223372036854775808;omega⟩
theorem Wq_ {H:Type} {enc:TypeId×Value→H} {W:World} {r:Reach} {b0 base:Nat} {sp:Nat→Bool} {held:Bool} {v:Value} {d:DataW H} {p:List MemPlace}
  (hval:Value.okWide Tryd.prog W r b0 22 v) (hd:DataW.Trod enc Tryd.prog W base sp held 22 v d p):
  ∃l,AcSl W v l∧ ∀a,a∈l→ActOk W a:=by
 obtain⟨a0,len,cap,rfl⟩:=WideShapes.okWide_slice Tryd.underlying22 hval
 obtain⟨fu,hf⟩:=hd
 obtain⟨l,h1,h2⟩:=abL_ (z:=ac0) (R:=fun a _=>ActOk W a) Tryd.underlying22 (by kernel_rfl) (by decide) ks_ hval (fun n cs y h=>aev_ n cs y h) hf
 refine⟨l,h1,fun a ha=> ?_⟩
 rcases h2 with rfl| ⟨es,sp',-,h3⟩
 ·cases ha
 ·obtain⟨i,hi,rfl⟩:=List.getElem_of_mem ha
  obtain⟨-,-,h4⟩:=h3 i hi
  rw[List.getD_eq_getElem?_getD,List.getElem?_eq_getElem hi] at h4
  exact h4
end Go.Proofs
end
section
open Go Go.Proofs Go.Sx Go.StP Go.Flo
namespace Go.Proofs
set_option maxRecDepth 10000
set_option maxHeartbeats 1000000
set_option linter.unusedSimpArgs false
def wJ_:DataW Unit:= .agg [.lit (.string zt_), .lit (.string jP_), .lit (.string JD_)]
theorem vO_ {W:World} {base:Nat} {sp:Nat→Bool} {held:Bool} {fuel:Nat} {cs:List Value} {p:List MemPlace}
  (hd:DataW.trod (fun _=>()) Tryd.prog W base sp held fuel 59 cs=some (wJ_,p)):cs= [vs zt_,vs jP_,vs JD_]:=by
 obtain⟨xs,m,-,hx,hlen,hxl,hel⟩:=DataW.trod_array Tryd.underlying59 hd
 have hc: (Tryd.prog).cellsOf 59=3:=by kernel_rfl
 have h1: (Tryd.prog).cellsOf 9=1:=by kernel_rfl
 rw[hc] at hlen
 rw[h1] at hel
 have hm:xs.map (·.1)= [.lit (.string zt_), .lit (.string jP_), .lit (.string JD_)]:=by
  have:=congrArg Prod.fst hx
  unfold wJ_ at this
  simp only[DataW.agg.injEq] at this
  exact this.symm
 have h0:=hel 0 (by omega)
 have h2:=hel 1 (by omega)
 have h3:=hel 2 (by omega)
 rw[List.getElem?_eq_getElem (by omega)] at h0 h2 h3
 obtain⟨s0,hs0,hy0,-⟩:=DataW.trod_string Tryd.underlying9 h0
 obtain⟨s1,hs1,hy1,-⟩:=DataW.trod_string Tryd.underlying9 h2
 obtain⟨s2,hs2,hy2,-⟩:=DataW.trod_string Tryd.underlying9 h3
 match xs,hxl,hm,hy0,hy1,hy2 with
 | [x0,x1,x2],_,hm,hy0,hy1,hy2=>
  simp only[List.map_cons,List.map_nil,List.cons.injEq,and_true] at hm
  simp only[List.getElem_cons_zero,List.getElem_cons_succ] at hy0 hy1 hy2
  obtain⟨m0,m1,m2⟩:=hm
  rw[hy0] at m0
  rw[hy1] at m1
  rw[hy2] at m2
  simp only[DataW.lit.injEq,Lit.string.injEq] at m0 m1 m2
  match cs,hlen with
  | [c0,c1,c2],_=>
   simp only[Nat.zero_mul,List.drop_zero,List.take_succ_cons,List.take_zero,List.cons.injEq,and_true,Nat.one_mul,List.drop_succ_cons,Nat.reduceMul] at hs0 hs1 hs2
   rw[hs0,hs1,hs2,←m0,←m1,←m2]
   rfl
theorem xq_ {W:World}: ∀ {laid:List (String×DataW Unit)} {ps:List MemPlace},DataW.LaidVars Tryd.prog W laid ps→("sediment/disk.order",wJ_)∈laid→vU_ W
 | [],_,_,hm=>by cases hm
 | (n',d')::rest,ps,h,hm=>by
  obtain⟨g',t',cs,fuel,p,q,hg',ht',hvar,hd,hr,-⟩:=h
  rcases List.mem_cons.1 hm with hm|hm
  ·cases hm
   have hg: (Tryd.prog).globalNamed "sediment/disk.order" =some 0:=by kernel_rfl
   have hty: ((Tryd.prog).globals[(0:Nat)]?).map (·.type)=some 59:=by kernel_rfl
   obtain rfl:=Option.some.inj (hg.symm.trans hg')
   obtain rfl:=Option.some.inj (hty.symm.trans ht')
   have hcs:=vO_ hd
   simp only[World.var?,hg,Option.bind_some] at hvar
   split at hvar
   ·rename_i cs' e f hb
    cases hvar
    refine⟨e,f, ?_⟩
    rw[hb]
    congr 2
    apply Array.ext'
    rw[hcs]
   ·cases hvar
  ·exact xq_ hr hm
end Go.Proofs
end
namespace Go.Proofs
end Go.Proofs
namespace Go.Sx
open Go
theorem aan_ {P:Program} {f:FuncId} {fn:Func} {s:ChangeSpec} {c:OpenClaim}
  (h1: (c.wf (OpenSpec.ofChange s))=true)
  (h2: (laidOutB P)=true)
  (h3: (mapsRowed P)=true)
  (h4: (fn.params.all (P.readableRec ·))=true)
  (h5: (namedTie P c.named s.vars)=true)
  (h6: ((c.stops== []))=true)
  (h7: ((P.stops== []))=true)
  (h8: ((c.knobs== []))=true)
  (h9: ((P.stopKnobs== []))=true)
  (h10: ((c.inPlace==P.inPlace f))=true)
  (h11: ((c.unfollowed==P.unfollowed f))=true)
  (h12: ((c.recurses==P.recurses f))=true)
  (h13: ((c.named==P.varsNamed f))=true)
  (h14: ((c.maps==(fn.params.toList++s.plain.varTypes P).any (P.mapsRec ·)))=true)
  (h15: ((c.ifaces==(fn.params.toList++s.plain.varTypes P).any (P.ifacesRec ·)))=true)
  (h16: ((c.mapsOut==P.mapsAmong fn.resultTypes.toList))=true)
  (h17: ((c.loops==(fn.params.toList++s.plain.varTypes P).any (P.loopsFrom ·)))=true)
  (h18: ((c.wideKeys==(fn.params.toList++s.plain.varTypes P++fn.resultTypes.toList).any (P.wideKeysFrom ·)))=true)
  (h19: (s.vars.all (P.varReadable ·))=true)
  (h20: (fn.resultTypes.all (fun t=>P.readableRec t&&decide (t<P.types.size)))=true)
  (h21: ((c.ifacesOut==fn.resultTypes.toList.any (P.ifacesRec ·)))=true)
  (h22: ((c.loopsOut==fn.resultTypes.toList.any (P.loopsFrom ·)))=true)
  (h23: ((c.plainKeys==P.plainKeys))=true)
  (h24: (c.shortTexts.isNone)=true)
  (h25: (P.stopsHeard)=true)
  (h26: (P.mayEnter)=true)
  (h27: ((c.lifted==P.liftsFinal))=true)
  (h28: ((P.make==some c.make))=true)
  (h29: ((c.kinds==(if c.domain.isEmpty then [] else fn.params.toList.map fun t=>match P.underlying t with|some (.int k)=>some k|_=>none)))=true)
  (h30: ((c.pinned==c.pinnedBy))=true)
  (h31: ((c.veiled==(fn.params.toList++s.plain.varTypes P++fn.resultTypes.toList).any (P.veiledRec ·)))=true)
  (h32: (c.veiledFits P fn.params.toList (fn.params.toList++s.plain.varTypes P++fn.resultTypes.toList))=true):
  joinedFacts P f fn s c=true:=by
 unfold joinedFacts
 exact(Bool.and_eq_true_iff.2 ⟨(Bool.and_eq_true_iff.2 ⟨(Bool.and_eq_true_iff.2 ⟨(Bool.and_eq_true_iff.2 ⟨(Bool.and_eq_true_iff.2 ⟨(Bool.and_eq_true_iff.2 ⟨(Bool.and_eq_true_iff.2 ⟨(Bool.and_eq_true_iff.2 ⟨(Bool.and_eq_true_iff.2 ⟨(Bool.and_eq_true_iff.2 ⟨(Bool.and_eq_true_iff.2 ⟨(Bool.and_eq_true_iff.2 ⟨(Bool.and_eq_true_iff.2 ⟨(Bool.and_eq_true_iff.2 ⟨(Bool.and_eq_true_iff.2 ⟨(Bool.and_eq_true_iff.2 ⟨(Bool.and_eq_true_iff.2 ⟨(Bool.and_eq_true_iff.2 ⟨(Bool.and_eq_true_iff.2 ⟨(Bool.and_eq_true_iff.2 ⟨(Bool.and_eq_true_iff.2 ⟨(Bool.and_eq_true_iff.2 ⟨(Bool.and_eq_true_iff.2 ⟨(Bool.and_eq_true_iff.2 ⟨(Bool.and_eq_true_iff.2 ⟨(Bool.and_eq_true_iff.2 ⟨(Bool.and_eq_true_iff.2 ⟨(Bool.and_eq_true_iff.2 ⟨(Bool.and_eq_true_iff.2 ⟨(Bool.and_eq_true_iff.2 ⟨(Bool.and_eq_true_iff.2 ⟨h1,h2⟩),h3⟩),h4⟩),h5⟩),h6⟩),h7⟩),h8⟩),h9⟩),h10⟩),h11⟩),h12⟩),h13⟩),h14⟩),h15⟩),h16⟩),h17⟩),h18⟩),h19⟩),h20⟩),h21⟩),h22⟩),h23⟩),h24⟩),h25⟩),h26⟩),h27⟩),h28⟩),h29⟩),h30⟩),h31⟩),h32⟩)
end Go.Sx
