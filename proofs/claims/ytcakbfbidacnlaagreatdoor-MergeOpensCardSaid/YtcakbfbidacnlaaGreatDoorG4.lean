/-
  Part 4 of the walk: contracts of the functions that the law reaches, and the calculus they stand on.
  No conditions.
-/
import Derived.Test.YtcakbfbidacnlaaGreatDoorG3
import Derived.Deep.Strs
section
open Go Go.Proofs Go.Sx Go.StP
namespace Go.Proofs
set_option maxRecDepth 10000
set_option maxHeartbeats 1000000
set_option linter.unusedSimpArgs false
theorem zrSd:zZ_ Tryz.prog 149=some (.agg (shC sh0).toArray):=id (by kernel_rfl)
theorem XG_:zP_ Tryz.prog 149=some (true,2):=id (by kernel_rfl)
theorem aiX_ (r:ShL):ql_ (vo_ Tryz.prog 149) (zZ_ Tryz.prog 149) [(0,vs r.name),(1,vs r.bytes)]=some (.agg (shC r).toArray):=by
 have hp:vo_ Tryz.prog 149=some [(0,1),(1,1)]:=id (by kernel_rfl)
 rw[hp,zrSd]
 have e0: (shC sh0).toArray=(([]:List Value)++ (([vs sh0.name])++ ([vs sh0.bytes]))).toArray:=by congr 1<;>simp only[shC,List.append_assoc,List.nil_append,List.append_nil]
 have q0:x8_ (([]:List Value)++ (([vs sh0.name])++ ([vs sh0.bytes]))).toArray 0 ([vs r.name])=(([]:List Value)++ (([vs r.name])++ ([vs sh0.bytes]))).toArray:=jc_ _ _ _ _ (by simp) (rfl)
 have s0: (([]:List Value)++ (([vs sh0.name])++ ([vs sh0.bytes]))).toArray.size=2:=by simp
 have z0: (Value.cells (vs r.name)).toList= [vs r.name]:=by rfl
 have y0: (Value.cells (vs r.name)).size=1:=by rw[←Array.length_toList,z0];simp
 have e1: (([]:List Value)++ (([vs r.name])++ ([vs sh0.bytes]))).toArray=((([vs r.name]))++ (([vs sh0.bytes])++ (([]:List Value)))).toArray:=by congr 1<;>simp only[shC,List.append_assoc,List.nil_append,List.append_nil]
 have q1:x8_ ((([vs r.name]))++ (([vs sh0.bytes])++ (([]:List Value)))).toArray 1 ([vs r.bytes])=((([vs r.name]))++ (([vs r.bytes])++ (([]:List Value)))).toArray:=jc_ _ _ _ _ (by simp) (rfl)
 have s1: ((([vs r.name]))++ (([vs sh0.bytes])++ (([]:List Value)))).toArray.size=2:=by simp
 have z1: (Value.cells (vs r.bytes)).toList= [vs r.bytes]:=by rfl
 have y1: (Value.cells (vs r.bytes)).size=1:=by rw[←Array.length_toList,z1];simp
 have e2: ((([vs r.name]))++ (([vs r.bytes])++ (([]:List Value)))).toArray=(shC r).toArray:=by congr 1<;>simp only[shC,List.append_assoc,List.nil_append,List.append_nil]
 simp only[ql_]
 rw[e0]
 unfold Sx.fillV
 simp only[List.getElem?_cons_zero,List.getElem?_cons_succ,z0,y0]
 rw[if_pos ⟨trivial,by rw[s0];decide⟩,q0]
 rw[e1]
 unfold Sx.fillV
 simp only[List.getElem?_cons_zero,List.getElem?_cons_succ,z1,y1]
 rw[if_pos ⟨trivial,by rw[s1];decide⟩,q1]
 rw[e2];rfl
theorem Vw_:zZ_ Tryz.prog 88=some (.agg (lnC ln0).toArray):=id (by kernel_rfl)
theorem Xo_:zP_ Tryz.prog 88=some (true,35):=id (by kernel_rfl)
theorem ajm_ (r:LnL):ql_ (vo_ Tryz.prog 88) (zZ_ Tryz.prog 88) [(0,Value.agg (a8 r.id.l)),(1,vi r.share),(2,vi r.place),(3,vi r.spot)]=some (.agg (lnC r).toArray):=by
 have hp:vo_ Tryz.prog 88=some [(0,32),(32,1),(33,1),(34,1)]:=id (by kernel_rfl)
 rw[hp,Vw_]
 have e0: (lnC ln0).toArray=(([]:List Value)++ ((ln0.id.l.map v8)++ ([vi ln0.share]++ ([vi ln0.place]++ ([vi ln0.spot]))))).toArray:=by congr 1<;>simp only[lnC,List.append_assoc,List.nil_append,List.append_nil]
 have q0:x8_ (([]:List Value)++ ((ln0.id.l.map v8)++ ([vi ln0.share]++ ([vi ln0.place]++ ([vi ln0.spot]))))).toArray 0 (r.id.l.map v8)=(([]:List Value)++ ((r.id.l.map v8)++ ([vi ln0.share]++ ([vi ln0.place]++ ([vi ln0.spot]))))).toArray:=jc_ _ _ _ _ (by simp) (by simp[ln0.id.h,r.id.h])
 have s0: (([]:List Value)++ ((ln0.id.l.map v8)++ ([vi ln0.share]++ ([vi ln0.place]++ ([vi ln0.spot]))))).toArray.size=35:=by simp[r.id.h,ln0.id.h]
 have z0: (Value.cells (Value.agg (a8 r.id.l))).toList=r.id.l.map v8:=by rw[zg_];rfl
 have y0: (Value.cells (Value.agg (a8 r.id.l))).size=32:=by rw[←Array.length_toList,z0];simp[r.id.h]
 have e1: (([]:List Value)++ ((r.id.l.map v8)++ ([vi ln0.share]++ ([vi ln0.place]++ ([vi ln0.spot]))))).toArray=(((r.id.l.map v8))++ (([vi ln0.share])++ ([vi ln0.place]++ ([vi ln0.spot])))).toArray:=by congr 1<;>simp only[lnC,List.append_assoc,List.nil_append,List.append_nil]
 have q1:x8_ (((r.id.l.map v8))++ (([vi ln0.share])++ ([vi ln0.place]++ ([vi ln0.spot])))).toArray 32 ([vi r.share])=(((r.id.l.map v8))++ (([vi r.share])++ ([vi ln0.place]++ ([vi ln0.spot])))).toArray:=jc_ _ _ _ _ (by simp[r.id.h]) (rfl)
 have s1: (((r.id.l.map v8))++ (([vi ln0.share])++ ([vi ln0.place]++ ([vi ln0.spot])))).toArray.size=35:=by simp[r.id.h,ln0.id.h]
 have z1: (Value.cells (vi r.share)).toList= [vi r.share]:=by rfl
 have y1: (Value.cells (vi r.share)).size=1:=by rw[←Array.length_toList,z1];simp
 have e2: (((r.id.l.map v8))++ (([vi r.share])++ ([vi ln0.place]++ ([vi ln0.spot])))).toArray=(((r.id.l.map v8)++ ([vi r.share]))++ (([vi ln0.place])++ ([vi ln0.spot]))).toArray:=by congr 1<;>simp only[lnC,List.append_assoc,List.nil_append,List.append_nil]
 have q2:x8_ (((r.id.l.map v8)++ ([vi r.share]))++ (([vi ln0.place])++ ([vi ln0.spot]))).toArray 33 ([vi r.place])=(((r.id.l.map v8)++ ([vi r.share]))++ (([vi r.place])++ ([vi ln0.spot]))).toArray:=jc_ _ _ _ _ (by simp[r.id.h]) (rfl)
 have s2: (((r.id.l.map v8)++ ([vi r.share]))++ (([vi ln0.place])++ ([vi ln0.spot]))).toArray.size=35:=by simp[r.id.h,ln0.id.h]
 have z2: (Value.cells (vi r.place)).toList= [vi r.place]:=by rfl
 have y2: (Value.cells (vi r.place)).size=1:=by rw[←Array.length_toList,z2];simp
 have e3: (((r.id.l.map v8)++ ([vi r.share]))++ (([vi r.place])++ ([vi ln0.spot]))).toArray=(((r.id.l.map v8)++ ([vi r.share])++ ([vi r.place]))++ (([vi ln0.spot])++ (([]:List Value)))).toArray:=by congr 1<;>simp only[lnC,List.append_assoc,List.nil_append,List.append_nil]
 have q3:x8_ (((r.id.l.map v8)++ ([vi r.share])++ ([vi r.place]))++ (([vi ln0.spot])++ (([]:List Value)))).toArray 34 ([vi r.spot])=(((r.id.l.map v8)++ ([vi r.share])++ ([vi r.place]))++ (([vi r.spot])++ (([]:List Value)))).toArray:=jc_ _ _ _ _ (by simp[r.id.h]) (rfl)
 have s3: (((r.id.l.map v8)++ ([vi r.share])++ ([vi r.place]))++ (([vi ln0.spot])++ (([]:List Value)))).toArray.size=35:=by simp[r.id.h,ln0.id.h]
 have z3: (Value.cells (vi r.spot)).toList= [vi r.spot]:=by rfl
 have y3: (Value.cells (vi r.spot)).size=1:=by rw[←Array.length_toList,z3];simp
 have e4: (((r.id.l.map v8)++ ([vi r.share])++ ([vi r.place]))++ (([vi r.spot])++ (([]:List Value)))).toArray=(lnC r).toArray:=by congr 1<;>simp only[lnC,List.append_assoc,List.nil_append,List.append_nil]
 simp only[ql_]
 rw[e0]
 unfold Sx.fillV
 simp only[List.getElem?_cons_zero,List.getElem?_cons_succ,z0,y0]
 rw[if_pos ⟨trivial,by rw[s0];decide⟩,q0]
 rw[e1]
 unfold Sx.fillV
 simp only[List.getElem?_cons_zero,List.getElem?_cons_succ,z1,y1]
 rw[if_pos ⟨trivial,by rw[s1];decide⟩,q1]
 rw[e2]
 unfold Sx.fillV
 simp only[List.getElem?_cons_zero,List.getElem?_cons_succ,z2,y2]
 rw[if_pos ⟨trivial,by rw[s2];decide⟩,q2]
 rw[e3]
 unfold Sx.fillV
 simp only[List.getElem?_cons_zero,List.getElem?_cons_succ,z3,y3]
 rw[if_pos ⟨trivial,by rw[s3];decide⟩,q3]
 rw[e4];rfl
set_option linter.defProp false
def wo_:=And.intro (@zf_) (@ze_)
theorem abF_ (s:List UInt8) (w:World) (hs:s.length<1099511627776):Rets Tryz.prog 138 #[vs s] w (fun v D=>v= .bool (jD_ s)∧D= []):=by
 refine Rets.enterV Tryz.func138 rfl (rs:= [.tmp 2]) Tryz.results138 Tryz.ntmps138 ?_
 refine kf ?_
 first|with_reducible refine ks [] @wo_ ?_|refine kp @wo_ ?_
 refine Cw.loopG (G:=Nat) [4,5,6,7,10,11,12,13,14,15,16,17,18,19,2,8,9,3] (fun g=> [(2, .bool false),(3,vi g)]) (fun g=> []) (fun g=>g≤s.length∧(s.take g).all (fun c=> !(decide (c<33) ||decide (126<c)))=true) (fun g=>s.length - g) 0 rfl rfl ?_ ?_
 ·exact⟨Nat.zero_le _,rfl⟩
 intro g j hg
 refine kv ?_
 obtain⟨hg,hal⟩:=hg
 by_cases hlt:g<s.length
 ·have d1:decide ((g:Int)< (s.length:Int))=true:=decide_eq_true (by omega)
  have hts:=StP.take_snoc (z:=(0:UInt8)) hlt
  have hbad: ∀c,c=s.getD g 0→(decide (c<33) ||decide (126<c))=true→jD_ s=false:=by
   intro c hc h
   unfold jD_
   rw[Bool.and_eq_false_iff]
   left
   rw[List.all_eq_false]
   refine⟨c, ?_,by rw[h];simp⟩
   rw[hc,List.getD_eq_getElem?_getD,List.getElem?_eq_getElem hlt]
   exact List.getElem_mem hlt
  generalize hcc:s.getD g 0=c at*
  cases h1:decide (c<33) with
  |true=>
   first|with_reducible refine ks [] (And.intro @wo_ (And.intro @d1 (And.intro @hcc (@h1)))) ?_|refine kp (And.intro @wo_ (And.intro @d1 (And.intro @hcc (@h1)))) ?_
   refine⟨_,(ke @wo_),trivial, ?_⟩
   rw[hbad c rfl (by rw[h1];rfl)];rfl
  |false=>
   cases h2:decide (126<c) with
   |true=>
    first|with_reducible refine ks [] (And.intro @wo_ (And.intro @d1 (And.intro @hcc (And.intro @h1 (@h2))))) ?_|refine kp (And.intro @wo_ (And.intro @d1 (And.intro @hcc (And.intro @h1 (@h2))))) ?_
    refine⟨_,(ke @wo_),trivial, ?_⟩
    rw[hbad c rfl (by rw[h1,h2];rfl)];rfl
   |false=>
    first|with_reducible refine ks [] (And.intro @wo_ (And.intro @d1 (And.intro @hcc (And.intro @h1 (@h2))))) ?_|refine kp (And.intro @wo_ (And.intro @d1 (And.intro @hcc (And.intro @h1 (@h2))))) ?_
    refine Again.mk (G:=Nat) (g+1) (by show s.length - (g+1)<s.length - g;omega) ⟨hlt, ?_⟩ rfl rfl
    rw[hts,List.all_append,hal,List.all_cons,h1,h2];rfl
 ·obtain rfl:g=s.length:=by omega
  have d1:decide ((s.length:Int)< (s.length:Int))=false:=decide_eq_false (by omega)
  rw[List.take_length] at hal
  by_cases he:s.length=0
  ·have e1:decide ((1:Int)≤ (s.length:Int))=false:=decide_eq_false (by omega)
   have en:jD_ s=false:=by rw[List.eq_nil_of_length_eq_zero he];rfl
   first|with_reducible refine ks [] (And.intro @wo_ (And.intro @d1 (@e1))) ?_|refine kp (And.intro @wo_ (And.intro @d1 (@e1))) ?_
   refine⟨_,(ke @wo_),trivial, ?_⟩
   rw[en];rfl
  ·have e1:decide ((1:Int)≤ (s.length:Int))=true:=decide_eq_true (by omega)
   have e2:decide ((s.length:Int)≤40)=decide (s.length≤40):=decide_eq_decide.2 (by omega)
   have he': (s== [])=false:=by
    cases s with
    |nil=>exact absurd rfl he
    |cons a b=>rfl
   have en:jD_ s=decide (s.length≤40):=by unfold jD_;rw[hal,he'];simp
   first|with_reducible refine ks [] (And.intro @wo_ (And.intro @d1 (And.intro @e1 (@e2)))) ?_|refine kp (And.intro @wo_ (And.intro @d1 (And.intro @e1 (@e2)))) ?_
   refine⟨_,(ke @wo_),trivial, ?_⟩
   rw[en];rfl
structure sd_SoG where
 g:Nat
 Z:List ShL
 v:Value
 D:zc_
theorem vl_ {w:World} {D:zc_} {b:Nat} (h:b∉keys D):zv_ w D b=w.heap[b]? :=by
 unfold zv_
 cases e:Sx.look D b with
 |none=>rfl
 |some o=>exact absurd (zr_ e) h
theorem v1_ {Z:List ShL} {g:Nat} (h:Z.length=g): ((Z.map shC).flatten).length=g*2:=by
 subst h
 induction Z with
 |nil=>rfl
 |cons x r ih=>rw[List.map_cons,List.flatten_cons,List.length_append,ih,zF_,List.length_cons];omega
theorem Q5_ {w w':World} {D:zc_} {E:TypeId} {v1 vt:Value} {Z:List ShL} {k:Nat} (hG:Gr D E 2 v1 Z.length (Z.map shC).flatten) (hw':Hp w D w') (k1:k≤Z.length)
  (st:jq_ (.sl (true,2)) v1 none (some (some (k:Int)))=some vt):AppX Tryz.prog w' 2 vt k ((Z.take k).map shC).flatten:=by
 obtain⟨v',e',h',-⟩:=(hG.slV (enc:=shC) (z:=sh0) hw' rfl rfl zF_).take k1 true
 rw[st] at e';cases e'
 have:=h'.appX (P:=Tryz.prog) zF_ vO_
 rwa [List.length_take,Nat.min_eq_left k1] at this
theorem Q3_ {w w':World} {D:zc_} {E:TypeId} {v1 vt:Value} {Z:List ShL} {k:Nat} (hG:Gr D E 2 v1 Z.length (Z.map shC).flatten) (hw':Hp w D w') (k1:k≤Z.length)
  (st:jq_ (.sl (true,2)) v1 (some (some (k:Int))) none=some vt):AppX Tryz.prog w' 2 vt (Z.length - k) ((Z.drop k).map shC).flatten:=by
 obtain⟨v',e',h',-⟩:=(hG.slV (enc:=shC) (z:=sh0) hw' rfl rfl zF_).dropE k1 true
 rw[st] at e';cases e'
 have:=h'.appX (P:=Tryz.prog) zF_ vO_
 rwa [List.length_drop] at this
set_option linter.defProp false
def ka_:=And.intro (@qJ_) (And.intro (@zf_) (@ze_))
theorem QP_ (v:Value) (l:List ShL) (w:World) (hv:ShSl w v l) (hl:l.length<1000000):
  Rets Tryz.prog 78 #[v] w (XS w [] (fun v' D=> ∃Z,shs_SortOf l Z∧Gr D 149 2 v' l.length (Z.map shC).flatten)):=by
 obtain⟨b,off,arr,E,fz,hr⟩:=hv.row
 have ln:=hv.len
 refine Rets.enterX Tryz.func78 rfl (rs:= [.tmp 2]) Tryz.results78 Tryz.ntmps78 (fun p hp=>by cases hp) (by simp[keys]) ?_
 refine kf ?_
 first|with_reducible refine ks [] (And.intro @ka_ @ln) ?_|refine kp (And.intro @ka_ @ln) ?_
 refine Cw.loopG (G:=sd_SoG) [7,8,9,10,13,14,5,15,16,17,18,19,20,21,22,23,24,25,26,27,28,29,30,31,32,6,33,34,35,36,37,38,39,40,41,42,43,44,45,46,47,48,49,50,3,11,12,4] (fun q=> [(3,q.v),(4,vi q.g)]) (fun q=>q.D) (fun q=>q.g≤l.length∧Ext w [] q.D∧shs_SortOf (l.take q.g) q.Z∧Gr q.D 149 2 q.v q.g (q.Z.map shC).flatten) (fun q=>l.length - q.g) ⟨0,[], .slice none 0 0,[]⟩ rfl rfl ?_ ?_
 ·exact⟨Nat.zero_le _,Ext.refl w [],⟨rfl,List.Pairwise.nil,St.refl _ _⟩,Gr.nl⟩
 ·intro q jq hq
  refine kv ?_
  obtain⟨g,Z,v1,D⟩:=q
  simp only at hq ⊢
  obtain⟨h1,hE,hZ,hG⟩:=hq
  have hZl:Z.length=g:=by rw[hZ.1,List.length_take];omega
  subst hZl
  by_cases hg:Z.length<l.length
  ·have h0:0<l.length:=by omega
   have hbl:=hr.lt h0
   have hbD:=hE.new0.not hbl
   have r2:zv_ w D b=some (.cells arr E fz):=by rw[vl_ hbD];exact hr.has h0
   have i2:=hr.idx true Z.length hg
   have m0: ∀n,zp_ (some (false,n)) (some (.cells arr E fz)) (off+Z.length*2)=some (vs (l.getD Z.length sh0).name):=fun n=>QT_ hr hg n
   have ln1:=hG.len
   generalize hx:l.getD Z.length sh0=x at m0
   first|with_reducible refine ks [] (And.intro @ka_ (And.intro @ln (@ln1))) ?_|refine kp (And.intro @ka_ (And.intro @ln (@ln1))) ?_
   refine Cw.loopG (G:=Nat) [15,16,17,18,19,20,21,22,23,24,25,26,27,28,29,30,31,32,5] (fun g=> [(5,vi g)]) (fun g=>D) (fun g=>g≤Z.length∧(Z.length≤g∨ltB x.name (Z.getD g sh0).name=true)) (fun g=>g) Z.length rfl rfl ?_ ?_
   ·exact⟨Nat.le_refl _, .inl (Nat.le_refl _)⟩
   ·intro k jk hk
    refine kv ?_
    obtain⟨k1,k2⟩:=hk
    refine Cw.world fun w1 hw1=> ?_
    have hS1:ShSl w1 v1 Z:=hG.slV hw1 rfl rfl zF_
    have done: (k=0∨ltB x.name (Z.getD (k - 1) sh0).name=false)→shs_SortOf (l.take (Z.length+1)) (Z.take k++x::Z.drop k):=fun h=>by
     obtain⟨s1,s2⟩:=jB_ (z:=sh0) hZ.2.1 k1 h k2
     refine⟨?_,s1, ?_⟩
     ·simp only[List.length_append,List.length_take,List.length_cons,List.length_drop];omega
     ·rw[take_snoc (z:=sh0) hg,hx]
      exact(hZ.2.2.app (St.refl _ [x])).trans s2
    obtain⟨c,coff,carr,cE,cfz,hr1⟩:=hS1.row
    obtain⟨vt,st,-,-⟩:=hS1.take k1 true
    obtain⟨vd,sd,-,-⟩:=hS1.dropE k1 true
    have m3:zp_ (some (true,2)) (some (.cells arr E fz)) (off+Z.length*2)=some (.agg (shC x).toArray):=by rw[←hx];exact al0_ hr hg
    by_cases hk:k=0
    ·have d1:decide ((0:Int)< (k:Int))=false:=decide_eq_false (by omega)
     first|with_reducible refine ks [] @ka_ ?_|refine kp @ka_ ?_
     refine Cw.regionS [b] [0,1,2,3,4,5,6,7,9,10,11,12,8,13,14,15] [] (by kernel_rfl) (by kernel_rfl) (by kernel_rfl) ?_
     simp only[zh_, ↓zd_, ↓zb_, ↓zl_, ↓zm_,za_]
     refine kq (And.intro @ka_ (And.intro @d1 (@st))) ?_
     refine Ow.appendG (e:=149) (k:=k) (new:=((Z.take k).map shC).flatten) (.slice none 0 0) rfl rfl rfl Tryz.underlying72 XG_ (by kernel_rfl) zrSd (by rw[qJ_,List.size_toArray,zF_]) Tryz.underlying72 (by intro k h;cases h) Gr.nl (fun w' hw'=>Q5_ hG hw' k1 st) (v1_ (by rw[List.length_take];omega)) (by omega) (fun v2 L2 hB2 _ hg2 hs2=> ?_)
     have hG2:=hG.keep (L':=L2) fun b o hb ho=>hg2.look b o (by simp[slB]) ho
     have hE2:=hE.grew hg2
     have r22:zv_ w L2 b=some (.cells arr E fz):=by rw[vl_ (hE2.new0.not hbl)];exact hr.has h0
     rw[Nat.zero_add,List.nil_append] at hB2
     refine ko (And.intro @ka_ (And.intro @i2 (And.intro @r22 (@m3)))) ?_
     refine Ow.buildSlice (e:=149) (shC x).toArray rfl rfl (q8_ Tryz.underlying72 XG_ zrSd (by decide) (zF_ x)) fun b6 hb6 hw6=> ?_
     refine ko @ka_ ?_
     refine Ow.appendG (e:=149) (k:=1) (new:=shC x) v2 rfl rfl rfl Tryz.underlying72 XG_ (by kernel_rfl) zrSd (by rw[qJ_,List.size_toArray,zF_]) Tryz.underlying72 (by intro k h;cases h) hB2.app (fun w' hw'=>AppX.one1 (hw'.has _ _ (List.mem_append_right _ List.mem_cons_self)) (zF_ x) (vO_ x)) (by show(shC x).length=1*2;rw[zF_]) (by omega) (fun v3 L3 hB3 _ hg3 hs3=> ?_)
     have hE3:=(hE2.app (o:= .cells (shC x).toArray 149 (0,0)) hw6).grew hg3
     have n2: ∀b,slB v1=some b→slB v2≠some b:=fun b hb e=>by
      rcases hs2 with h| ⟨c',h,ha⟩
      ·rw[h] at e;cases e
      ·rw[h] at e;cases e;exact Nat.lt_irrefl _ (zs_ ha (hG.key hb))
     have hG3:=(hG2.app (M:= [(b6, .cells (shC x).toArray 149 (0,0))])).keep (L':=L3) fun b o hb ho=>hg3.look b o (n2 b hb) ho
     have n3: ∀b,slB v1=some b→slB v3≠some b:=fun b hb e=>by
      rcases hs3 with h| ⟨c',h,ha⟩
      ·rw[h] at e;exact n2 b hb e
      ·rw[h] at e;cases e;exact Nat.lt_irrefl _ (zs_ ha (by rw[zR_];exact List.mem_append_left _ (hG2.key hb)))
     refine ko (And.intro @ka_ @sd) ?_
     refine Ow.appendG (e:=149) (k:=Z.length - k) (new:=((Z.drop k).map shC).flatten) v3 rfl rfl rfl Tryz.underlying72 XG_ (by kernel_rfl) zrSd (by rw[qJ_,List.size_toArray,zF_]) Tryz.underlying72 (by intro k h;cases h) hB3 (fun w' hw'=>Q3_ hG3 hw' k1 sd) (v1_ (by rw[List.length_drop])) (by omega) (fun v4 L4 hB4 _ hg4 hs4=> ?_)
     have hE4:=hE3.grew hg4
     refine ko @ka_ ?_
     refine Again.mk (sd_SoG.mk (Z.length+1) (Z.take k++x::Z.drop k) v4 L4) (by show l.length - (Z.length+1)<l.length - Z.length;omega) ⟨by show Z.length+1≤l.length;omega,hE4,done ?_, ?_⟩ rfl rfl
     ·exact .inl hk
     ·have:k+1+ (Z.length - k)=Z.length+1:=by omega
      rw[this] at hB4
      simpa only[List.map_append,List.map_cons,List.flatten_append,List.flatten_cons,List.append_assoc] using hB4
    ·have d1:decide ((0:Int)< (k:Int))=true:=decide_eq_true (by omega)
     have hZ0:0<Z.length:=by omega
     have i1:qI_ (.sl (true,2)) v1 (some ((k:Int) - 1))=some (vp c (coff+ (k - 1)*2)):=by
      rw[show(k:Int) - 1=((k - 1:Nat):Int) by omega];exact hr1.idx true (k - 1) (by omega)
     have m1: ∀n,zp_ (some (false,n)) (some (.cells carr cE cfz)) (coff+ (k - 1)*2)=some (vs (Z.getD (k - 1) sh0).name):=fun n=>QT_ hr1 (show k - 1<Z.length by omega) n
     have rc:zv_ w D c=some (.cells carr cE cfz):=by
      rcases hS1 with⟨b',off',c',arr',E',fz',hr',hc',⟨-,rfl,-⟩ | ⟨rfl,hb',-⟩⟩
      ·exact absurd hZ0 (by simp)
      ·have:c=b':=by
        have e1:=hr1.idx true 0 hZ0
        rw[jC_ _ _ _ _ _ _ ⟨by omega,by omega⟩] at e1
        have:=Option.some.inj e1
        simp[vp] at this
        exact this.1.symm
       subst this
       exact hG.read rfl hw1 (hr1.has hZ0)
     first|with_reducible refine ks [] @ka_ ?_|refine kp @ka_ ?_
     refine Cw.regionS [c,b] [0,1,2,3,4,5,6,7,9,10,11,12,8,13,14,15] [] (by kernel_rfl) (by kernel_rfl) (by kernel_rfl) ?_
     simp only[zh_, ↓zd_, ↓zb_, ↓zl_, ↓zm_,za_]
     cases hl3:ltB x.name (Z.getD (k - 1) sh0).name
     ·refine kq (And.intro @ka_ (And.intro @d1 (And.intro @i1 (And.intro @i2 (And.intro @r2 (And.intro @rc (And.intro @m0 (And.intro @m1 (And.intro @vh_ (And.intro @hl3 (@st))))))))))) ?_
      refine Ow.appendG (e:=149) (k:=k) (new:=((Z.take k).map shC).flatten) (.slice none 0 0) rfl rfl rfl Tryz.underlying72 XG_ (by kernel_rfl) zrSd (by rw[qJ_,List.size_toArray,zF_]) Tryz.underlying72 (by intro k h;cases h) Gr.nl (fun w' hw'=>Q5_ hG hw' k1 st) (v1_ (by rw[List.length_take];omega)) (by omega) (fun v2 L2 hB2 _ hg2 hs2=> ?_)
      have hG2:=hG.keep (L':=L2) fun b o hb ho=>hg2.look b o (by simp[slB]) ho
      have hE2:=hE.grew hg2
      have r22:zv_ w L2 b=some (.cells arr E fz):=by rw[vl_ (hE2.new0.not hbl)];exact hr.has h0
      rw[Nat.zero_add,List.nil_append] at hB2
      refine ko (And.intro @ka_ (And.intro @i2 (And.intro @r22 (@m3)))) ?_
      refine Ow.buildSlice (e:=149) (shC x).toArray rfl rfl (q8_ Tryz.underlying72 XG_ zrSd (by decide) (zF_ x)) fun b6 hb6 hw6=> ?_
      refine ko @ka_ ?_
      refine Ow.appendG (e:=149) (k:=1) (new:=shC x) v2 rfl rfl rfl Tryz.underlying72 XG_ (by kernel_rfl) zrSd (by rw[qJ_,List.size_toArray,zF_]) Tryz.underlying72 (by intro k h;cases h) hB2.app (fun w' hw'=>AppX.one1 (hw'.has _ _ (List.mem_append_right _ List.mem_cons_self)) (zF_ x) (vO_ x)) (by show(shC x).length=1*2;rw[zF_]) (by omega) (fun v3 L3 hB3 _ hg3 hs3=> ?_)
      have hE3:=(hE2.app (o:= .cells (shC x).toArray 149 (0,0)) hw6).grew hg3
      have n2: ∀b,slB v1=some b→slB v2≠some b:=fun b hb e=>by
       rcases hs2 with h| ⟨c',h,ha⟩
       ·rw[h] at e;cases e
       ·rw[h] at e;cases e;exact Nat.lt_irrefl _ (zs_ ha (hG.key hb))
      have hG3:=(hG2.app (M:= [(b6, .cells (shC x).toArray 149 (0,0))])).keep (L':=L3) fun b o hb ho=>hg3.look b o (n2 b hb) ho
      have n3: ∀b,slB v1=some b→slB v3≠some b:=fun b hb e=>by
       rcases hs3 with h| ⟨c',h,ha⟩
       ·rw[h] at e;exact n2 b hb e
       ·rw[h] at e;cases e;exact Nat.lt_irrefl _ (zs_ ha (by rw[zR_];exact List.mem_append_left _ (hG2.key hb)))
      refine ko (And.intro @ka_ @sd) ?_
      refine Ow.appendG (e:=149) (k:=Z.length - k) (new:=((Z.drop k).map shC).flatten) v3 rfl rfl rfl Tryz.underlying72 XG_ (by kernel_rfl) zrSd (by rw[qJ_,List.size_toArray,zF_]) Tryz.underlying72 (by intro k h;cases h) hB3 (fun w' hw'=>Q3_ hG3 hw' k1 sd) (v1_ (by rw[List.length_drop])) (by omega) (fun v4 L4 hB4 _ hg4 hs4=> ?_)
      have hE4:=hE3.grew hg4
      refine ko @ka_ ?_
      refine Again.mk (sd_SoG.mk (Z.length+1) (Z.take k++x::Z.drop k) v4 L4) (by show l.length - (Z.length+1)<l.length - Z.length;omega) ⟨by show Z.length+1≤l.length;omega,hE4,done ?_, ?_⟩ rfl rfl
      ·exact .inr hl3
      ·have:k+1+ (Z.length - k)=Z.length+1:=by omega
       rw[this] at hB4
       simpa only[List.map_append,List.map_cons,List.flatten_append,List.flatten_cons,List.append_assoc] using hB4
     ·refine kq (And.intro @ka_ (And.intro @d1 (And.intro @i1 (And.intro @i2 (And.intro @r2 (And.intro @rc (And.intro @m0 (And.intro @m1 (And.intro @vh_ (@hl3)))))))))) ?_
      exact Again.mk (k - 1) (by omega) ⟨by omega, .inr hl3⟩ rfl (by rw[show(k:Int) - 1=((k - 1:Nat):Int) by omega];rfl)
  ·have e:Z.length=l.length:=by omega
   first|with_reducible refine ks [] (And.intro @ka_ @ln) ?_|refine kp (And.intro @ka_ @ln) ?_
   refine⟨_,(ke @ka_), ?_⟩
   exact⟨hE,Z,by rw[e,List.take_length] at hZ;exact hZ,by rw[e] at hG;exact hG⟩
end Go.Proofs
end
section
open Go Go.Proofs Go.Sx Go.StP
namespace Go.Proofs
set_option maxRecDepth 10000
set_option maxHeartbeats 1000000
set_option linter.unusedSimpArgs false
structure CvS where
 k:Nat
 v:Value
 D:zc_
set_option linter.defProp false
def Jr_:=And.intro (@zf_) (@ze_)
theorem JW_ (v:Value) (l:List ShL) (w:World) (hv:ShSl w v l) (hl:l.length<1000000):
  Rets Tryz.prog 34 #[v] w (XS w [] (fun v' D=>Gr D 149 2 v' l.length (l.map shC).flatten)):=by
 obtain⟨rb,off,arr,E,fz,hr⟩:=hv.row
 have ln:=hv.len
 refine Rets.enterX Tryz.func34 rfl (rs:= [.tmp 2]) Tryz.results34 Tryz.ntmps34 (fun p hp=>by cases hp) (by simp[keys]) ?_
 refine kf ?_
 first|with_reducible refine ks [] (And.intro @Jr_ @ln) ?_|refine kp (And.intro @Jr_ @ln) ?_
 refine Cw.loopG (G:=CvS) [5,6,7,8,11,12,13,14,15,16,17,18,19,20,21,22,23,24,3,9,10,4] (fun q=> [(3,q.v),(4,vi q.k)]) (fun q=>q.D) (fun q=>q.k≤l.length∧Ext w [] q.D∧Gr q.D 149 2 q.v q.k ((l.take q.k).map shC).flatten) (fun q=>l.length - q.k) ⟨0, .slice none 0 0,[]⟩ rfl rfl ?_ ?_
 ·exact⟨Nat.zero_le _,Ext.refl w [],Gr.nl⟩
 intro q jq hq
 refine kv ?_
 obtain⟨k,v1,D⟩:=q
 simp only at hq ⊢
 obtain⟨hk,hE,hGr⟩:=hq
 by_cases hlt:k<l.length
 ·have d1:decide ((k:Int)< (l.length:Int))=true:=decide_eq_true (by omega)
  have hb:=hr.has (by omega)
  have hrl:=hr.lt (by omega)
  have rd:zv_ w D rb=some (.cells arr E fz):=by rw[z8_ (hE.new0.not hrl)];exact hb
  have ix:=hr.idx true k hlt
  have ld0:=fun n=>QT_ hr hlt n
  have ld1:=fun n=>abo_ hr hlt n
  simp only[Nat.add_zero] at ld0
  have hts:=StP.take_snoc (z:=sh0) hlt
  generalize l.getD k sh0=r at*
  first|with_reducible refine ks [] (And.intro @Jr_ (And.intro @ln (@d1))) ?_|refine kp (And.intro @Jr_ (And.intro @ln (@d1))) ?_
  refine Cw.regionO [0,1,2,3,4,6,7,8,9,5,10,11,12,13,14] [12,13] rfl (by kernel_rfl) (by kernel_rfl) ?_
  simp only[zh_, ↓zd_, ↓zb_, ↓zl_, ↓zm_,za_]
  refine kq (And.intro @Jr_ (And.intro @ix (And.intro @rd (And.intro @ld0 (@ld1))))) ?_
  refine Ow.build (.agg (shC r).toArray) rfl (aiX_ r) ?_
  refine kq @Jr_ ?_
  refine Ow.buildSlice (e:=149) (shC r).toArray rfl rfl (q8_ Tryz.underlying72 XG_ zrSd (by decide) (zF_ _)) fun b6 hb6 hw6=> ?_
  refine ko @Jr_ ?_
  refine Ow.appendG (e:=149) (k:=1) (new:=shC r) v1 rfl rfl rfl Tryz.underlying72 XG_ (by kernel_rfl) zrSd (by rw[qJ_,List.size_toArray,zF_]) Tryz.underlying72 (by intro k h;cases h) hGr.app (fun w' hw'=>AppX.one1 (hw'.has _ _ (List.mem_append_right _ List.mem_cons_self)) (zF_ _) (vO_ _)) (by show(shC _).length=1*2;rw[zF_]) (by omega) (fun v3 L3 hB3 _ hg3 hs3=> ?_)
  have hE3:=(hE.app (o:= .cells (shC r).toArray 149 (0,0)) hw6).grew hg3
  refine ko @Jr_ ?_
  refine Again.mk ⟨k+1,v3,L3⟩ (by show l.length - (k+1)<l.length - k;omega) ⟨hlt,hE3, ?_⟩ rfl rfl
  show Gr L3 149 2 v3 (k+1) ((l.take (k+1)).map shC).flatten
  rw[hts]
  simpa only[List.map_append,List.map_cons,List.map_nil,List.flatten_append,List.flatten_cons,List.flatten_nil,List.append_nil] using hB3
 ·obtain rfl:k=l.length:=by omega
  have d1:decide ((l.length:Int)< (l.length:Int))=false:=decide_eq_false (by omega)
  rw[List.take_length] at hGr
  first|with_reducible refine ks [] (And.intro @Jr_ (And.intro @ln (@d1))) ?_|refine kp (And.intro @Jr_ (And.intro @ln (@d1))) ?_
  refine⟨_,(ke @Jr_), ?_⟩
  exact⟨hE,hGr⟩
end Go.Proofs
end
section
open Go Go.Proofs Go.Sx Go.StP
namespace Go.Proofs
set_option maxRecDepth 10000
set_option maxHeartbeats 1000000
set_option linter.unusedSimpArgs false
theorem Vv_ {n:Int} (h:decide (n<0)=true):numM n=false:=by
 have:=of_decide_eq_true h
 unfold numM;rw[decide_eq_false (by omega)];rfl
theorem Vn_ {n:Int} (h:decide (1099511627775<n)=true):numM n=false:=by
 have:=of_decide_eq_true h
 unfold numM;rw[decide_eq_false (show¬n≤1099511627775 by omega),Bool.and_false]
theorem vK_ {n:Int} (h1:decide (n<0)=false) (h2:decide (1099511627775<n)=false):numM n=true:=by
 have:=of_decide_eq_false h1
 have:=of_decide_eq_false h2
 unfold numM;rw[decide_eq_true (show 0≤n by omega),decide_eq_true (show n≤1099511627775 by omega)];rfl
theorem abi_ {names:List (List UInt8)} {lines:List LnL} (h:names.all jD_=false):zC_ names lines=false:=by
 unfold zC_;rw[h,Bool.and_false,Bool.and_false]
theorem ad2_ {names:List (List UInt8)} {lines:List LnL} (h:vs_ (vZ_ names) names.length=false):zC_ names lines=false:=by
 unfold zC_;rw[h];simp
theorem abw_ {names:List (List UInt8)} {lines:List LnL} (h:vs_ (kv_ lines) lines.length=false):zC_ names lines=false:=by
 unfold zC_;rw[h];simp
theorem acb_ {names:List (List UInt8)} {lines:List LnL} (h:lines.all (qg_ names.length)=false):zC_ names lines=false:=by
 unfold zC_;rw[h];simp
theorem ae6_ {c:Nat→Int} {k n:Nat} (h:k≤n) (hk:vs_ c k=false):vs_ c n=false:=by
 cases e:vs_ c n with
 |false=>rfl
 |true=>rw[vw_ h e] at hk;cases hk
structure Rd12G where
 k:Nat
 DG:zc_
set_option linter.defProp false
def zt_:=And.intro (And.intro (And.intro (@zf_) (@ze_)) (And.intro (@z3_) (@xX_))) (And.intro (And.intro (@jK_) (@j7_)) (And.intro (@xz_) (And.intro (@km_) (@js_))))
theorem vz_ (v0 v1:Value) (names:List (List UInt8)) (lines:List LnL) (w:World) (h0:Zu_ w v0 names) (h1:LnSl w v1 lines) (hs:aaV_ names):Rets Tryz.prog 79 #[v0,v1] w (fun v D=>v= .bool (zC_ names lines)∧D= []):=by
 obtain⟨nb,noff,narr,nE,nfz,hn⟩:=h0.row
 obtain⟨rb,off,arr,E,fz,hr⟩:=h1.row
 have ln0':=h0.len
 have ln1':=h1.len
 refine Rets.enterV Tryz.func79 rfl (rs:= [.tmp 4]) Tryz.results79 Tryz.ntmps79 ?_
 refine kf ?_
 by_cases hn4:40<names.length
 ·have d1:decide ((40:Int)< (names.length:Int))=true:=decide_eq_true (by omega)
  have e:zC_ names lines=false:=by unfold zC_;rw[decide_eq_true hn4];rfl
  first|with_reducible refine ks [] (And.intro @zt_ (And.intro @ln0' (@d1))) ?_|refine kp (And.intro @zt_ (And.intro @ln0' (@d1))) ?_
  refine⟨_,(ke @zt_),trivial, ?_⟩
  rw[e];rfl
 have d1:decide ((40:Int)< (names.length:Int))=false:=decide_eq_false (by omega)
 by_cases hl8:8000<lines.length
 ·have d2:decide ((8000:Int)< (lines.length:Int))=true:=decide_eq_true (by omega)
  have e:zC_ names lines=false:=by unfold zC_;rw[decide_eq_true hl8,decide_eq_false hn4];rfl
  first|with_reducible refine ks [] (And.intro @zt_ (And.intro @ln0' (And.intro @d1 (And.intro @ln1' (@d2))))) ?_|refine kp (And.intro @zt_ (And.intro @ln0' (And.intro @d1 (And.intro @ln1' (@d2))))) ?_
  refine⟨_,(ke @zt_),trivial, ?_⟩
  rw[e];rfl
 have d2:decide ((8000:Int)< (lines.length:Int))=false:=decide_eq_false (by omega)
 first|with_reducible refine ks [] (And.intro @zt_ (And.intro @ln0' (And.intro @d1 (And.intro @ln1' (@d2))))) ?_|refine kp (And.intro @zt_ (And.intro @ln0' (And.intro @d1 (And.intro @ln1' (@d2))))) ?_
 refine Cw.loopG (G:=Nat) [16,17,18,19,22,23,24,25,26,27,28,29,30,31,32,33,34,35,36,37,38,39,40,41,42,43,4,20,21,5] (fun k=> [(4, .bool false),(5,vi k)]) (fun k=> []) (fun k=>k≤names.length∧vs_ (vZ_ names) k=true∧(names.take k).all jD_=true) (fun k=>names.length - k) 0 rfl rfl ?_ ?_
 ·exact⟨Nat.zero_le _,rfl,rfl⟩
 intro k jk hk
 refine kv ?_
 obtain⟨hk,hris,hal⟩:=hk
 by_cases hlt:k<names.length
 ·have d3:decide ((k:Int)< (names.length:Int))=true:=decide_eq_true (by omega)
  have hb:=hn.has (by omega)
  have ix:=hn.idx false k hlt
  have ld:=fun n=>jV_ hn hlt n
  have hts:=StP.take_snoc (z:=([]:List UInt8)) hlt
  have hm:names.getD k []∈names:=by rw[List.getD_eq_getElem?_getD,List.getElem?_eq_getElem hlt];exact List.getElem_mem hlt
  have hsl:=hs _ hm
  have hst:vs_ (vZ_ names) (k+1)=(decide (k=0) ||decide (vZ_ names k<0)):=by
   show(vs_ (vZ_ names) k&&_)=_
   rw[hris,Bool.true_and]
  have hcl:decide (vZ_ names k<0)=ltB (names.getD (k - 1) []) (names.getD k []):=by
   show decide (cmpS _ _<0)=_
   cases h:ltB (names.getD (k - 1) []) (names.getD k [])
   ·exact decide_eq_false fun h'=>by rw[cmpS_lt.1 h'] at h;cases h
   ·exact decide_eq_true (cmpS_lt.2 h)
  rw[hcl] at hst
  first|with_reducible refine ks [] (And.intro @zt_ (And.intro @ln0' (@d3))) ?_|refine kp (And.intro @zt_ (And.intro @ln0' (@d3))) ?_
  refine Cw.regionS [nb] [0,1,2,3,4,5,6,7,8,9,10,11,12,14,15,16,17,13,18,19,20,21] [] (by kernel_rfl) (by kernel_rfl) (by kernel_rfl) ?_
  simp only[zh_, ↓zd_, ↓zb_, ↓zl_, ↓zm_,za_]
  refine kq (And.intro @zt_ (And.intro @hb (And.intro @ix (@ld)))) ?_
  refine Ow.soft rfl rfl rfl ?_
  refine Ow.callFV rfl Tryz.call138 (fun w' hw'=>abF_ (names.getD k []) w' hsl) ?_
  with_reducible refine Ow.nil ?_
  refine⟨by intro b hb;simp only[List.mem_cons,List.not_mem_nil,or_false] at hb;(try subst hb);rfl, ?_⟩
  cases hnm:jD_ (names.getD k []) with
  |false=>
   have e:zC_ names lines=false:=abi_ (List.all_eq_false.2 ⟨_,hm,by rw[hnm];simp⟩)
   refine kq @zt_ ?_
   try with_reducible refine Ow.nil ?_
   first|with_reducible refine ks [] @zt_ ?_|refine kp @zt_ ?_
   refine⟨_,(ke @zt_),trivial, ?_⟩
   rw[e];rfl
  |true=>
   have hal2: (names.take (k+1)).all jD_=true:=by rw[hts,List.all_append,hal,List.all_cons,hnm];rfl
   by_cases hk0:k=0
   ·have d5:decide ((0:Int)< (k:Int))=false:=decide_eq_false (by omega)
    refine kq (And.intro @zt_ @d5) ?_
    try with_reducible refine Ow.nil ?_
    first|with_reducible refine ks [] @zt_ ?_|refine kp @zt_ ?_
    exact Again.mk (G:=Nat) (k+1) (by show names.length - (k+1)<names.length - k;omega) ⟨hlt,by rw[hst,decide_eq_true hk0];rfl,hal2⟩ rfl rfl
   ·have d5:decide ((0:Int)< (k:Int))=true:=decide_eq_true (by omega)
    have hki: (k:Int) - 1=((k - 1:Nat):Int):=by omega
    have ix':=hn.idx false (k - 1) (by omega)
    have ld':=fun n=>jV_ hn (show k - 1<names.length by omega) n
    rw[decide_eq_false hk0,Bool.false_or] at hst
    cases hl3:ltB (names.getD (k - 1) []) (names.getD k []) with
    |true=>
     refine kq (And.intro @zt_ (And.intro @d5 (And.intro @hki (And.intro @hb (And.intro @ix (And.intro @ld (And.intro @ix' (And.intro @ld' (And.intro @ahv_ (@hl3)))))))))) ?_
     try with_reducible refine Ow.nil ?_
     first|with_reducible refine ks [] @zt_ ?_|refine kp @zt_ ?_
     exact Again.mk (G:=Nat) (k+1) (by show names.length - (k+1)<names.length - k;omega) ⟨hlt,by rw[hst,hl3],hal2⟩ rfl rfl
    |false=>
     have e:zC_ names lines=false:=ad2_ (ae6_ hlt (by rw[hst,hl3]))
     refine kq (And.intro @zt_ (And.intro @d5 (And.intro @hki (And.intro @hb (And.intro @ix (And.intro @ld (And.intro @ix' (And.intro @ld' (And.intro @ahv_ (@hl3)))))))))) ?_
     try with_reducible refine Ow.nil ?_
     first|with_reducible refine ks [] @zt_ ?_|refine kp @zt_ ?_
     refine⟨_,(ke @zt_),trivial, ?_⟩
     rw[e];rfl
 obtain rfl:k=names.length:=by omega
 rw[List.take_length] at hal
 have d3:decide ((names.length:Int)< (names.length:Int))=false:=decide_eq_false (by omega)
 have hrisN:=hris
 have halN:=hal
 clear hris hal hk
 first|with_reducible refine ks [] (And.intro @zt_ (And.intro @ln0' (@d3))) ?_|refine kp (And.intro @zt_ (And.intro @ln0' (@d3))) ?_
 refine Cw.loopG (G:=Rd12G) [44,45,46,47,50,51,52,53,7,54,55,56,57,58,59,60,61,62,63,64,65,66,67,68,69,70,71,72,73,74,75,76,77,78,79,80,81,82,83,84,85,86,87,88,89,90,91,92,93,94,95,96,97,98,99,4,48,49,6] (fun g=> [(4, .bool false),(6,vi g.k)]) (fun g=>g.DG) (fun g=>g.k≤lines.length∧vs_ (kv_ lines) g.k=true∧(lines.take g.k).all (qg_ names.length)=true∧New w.heap.size g.DG) (fun g=>lines.length - g.k) ⟨0,[]⟩ rfl rfl ?_ ?_
 ·exact⟨Nat.zero_le _,rfl,rfl,trivial⟩
 intro g j hg
 refine kv ?_
 obtain⟨k,DG⟩:=g
 simp only at hg ⊢
 obtain⟨hk,hris,hal,hN⟩:=hg
 by_cases hlt:k<lines.length
 ·have d4:decide ((k:Int)< (lines.length:Int))=true:=decide_eq_true (by omega)
  have hb:=hr.has (by omega)
  have hrl:=hr.lt (by omega)
  have ix:=hr.idx true k hlt
  have ld:=hr.load zq_ (by omega) hlt
  have rd: ∀X,New w.heap.size X→zv_ w X rb=some (.cells arr E fz):=fun X hX=>by rw[z8_ (hX.not hrl)];exact hb
  have rd1:=rd _ hN
  have hts:=StP.take_snoc (z:=Go.Proofs.ln0) hlt
  have hm:lines.getD k Go.Proofs.ln0∈lines:=by rw[List.getD_eq_getElem?_getD,List.getElem?_eq_getElem hlt];exact List.getElem_mem hlt
  have hbad:qg_ names.length (lines.getD k Go.Proofs.ln0)=false→zC_ names lines=false:=fun h=>acb_ (List.all_eq_false.2 ⟨_,hm,by rw[h];simp⟩)
  have hst:vs_ (kv_ lines) (k+1)=(decide (k=0) ||decide (kv_ lines k<0)):=by
   show(vs_ (kv_ lines) k&&_)=_
   rw[hris,Bool.true_and]
  have hcl:decide (kv_ lines k<0)=ltB (lines.getD (k - 1) Go.Proofs.ln0).id.l (lines.getD k Go.Proofs.ln0).id.l:=by
   show decide (wQ_ _ _<0)=_
   cases h:ltB (lines.getD (k - 1) Go.Proofs.ln0).id.l (lines.getD k Go.Proofs.ln0).id.l
   ·exact decide_eq_false fun h'=>by rw[cmpI_lt.1 h'] at h;cases h
   ·exact decide_eq_true (cmpI_lt.2 h)
  rw[hcl] at hst
  generalize lines.getD k Go.Proofs.ln0=r at*
  first|with_reducible refine ks [] (And.intro @zt_ (And.intro @ln1' (And.intro @d4 (And.intro @ix (And.intro @rd1 (@ld)))))) ?_|refine kp (And.intro @zt_ (And.intro @ln1' (And.intro @d4 (And.intro @ix (And.intro @rd1 (@ld)))))) ?_
  refine Ow.alloc rfl rfl Vw_ fun b7 hb7 hw7=> ?_
  simp only[zg_,List.nil_append,List.cons_append]
  refine Ow.permL (M:=(b7, .cells (lnC Go.Proofs.ln0).toArray 88 (0,0))::DG) (by classical exact List.perm_iff_count.2 fun a=>by simp only[List.count_append,List.count_cons,List.count_nil]<;>omega) ?_
  refine ko @zt_ ?_
  have hN7:New w.heap.size ((b7,Obj.cells (lnC r).toArray 88 (0,0))::DG):=⟨hw7,hN⟩
  have hnb:b7≠rb:=by omega
  by_cases hk0:k=0
  ·have d5:decide ((0:Int)< (k:Int))=false:=decide_eq_false (by omega)
   have hris2:vs_ (kv_ lines) (k+1)=true:=by rw[hst,decide_eq_true hk0];rfl
   first|with_reducible refine ks [] @zt_ ?_|refine kp @zt_ ?_
   refine Cw.regionS [b7] [0,1,2,3,4,5,6,7,9,8,10,11,12,13,14,15,16,17,18,19,20,22,23,21,24,25,26,27,28,29,30,31,32,33,34,35,36,37,38,39,40,41,42,43,44,45] [] (by kernel_rfl) (by kernel_rfl) (by kernel_rfl) ?_
   simp only[zh_, ↓zd_, ↓zb_, ↓zl_, ↓zm_,za_]
   cases p1:decide (r.share<0) with
   |true=>
    refine kq (And.intro @zt_ (And.intro @d5 (@p1))) ?_
    try with_reducible refine Ow.nil ?_
    first|with_reducible refine ks [] @zt_ ?_|refine kp @zt_ ?_
    refine⟨_,(ke @zt_),hN7, ?_⟩
    rw[hbad (by unfold qg_;rw[p1];rfl)];rfl
   |false=>
    cases p2:decide ((names.length:Int)≤r.share) with
    |true=>
     refine kq (And.intro @zt_ (And.intro @d5 (And.intro @p1 (And.intro @ln0' (@p2))))) ?_
     try with_reducible refine Ow.nil ?_
     first|with_reducible refine ks [] @zt_ ?_|refine kp @zt_ ?_
     refine⟨_,(ke @zt_),hN7, ?_⟩
     rw[hbad (by unfold qg_;rw[p1,p2];rfl)];rfl
    |false=>
     cases p3:decide (r.place<0) with
     |true=>
      refine kq (And.intro @zt_ (And.intro @d5 (And.intro @p1 (And.intro @ln0' (And.intro @p2 (@p3)))))) ?_
      try with_reducible refine Ow.nil ?_
      first|with_reducible refine ks [] @zt_ ?_|refine kp @zt_ ?_
      refine⟨_,(ke @zt_),hN7, ?_⟩
      rw[hbad (by unfold qg_;rw[p1,p2,Vv_ p3];rfl)];rfl
     |false=>
      cases p4:decide (1099511627775<r.place) with
      |true=>
       refine kq (And.intro @zt_ (And.intro @d5 (And.intro @p1 (And.intro @ln0' (And.intro @p2 (And.intro @p3 (@p4))))))) ?_
       try with_reducible refine Ow.nil ?_
       first|with_reducible refine ks [] @zt_ ?_|refine kp @zt_ ?_
       refine⟨_,(ke @zt_),hN7, ?_⟩
       rw[hbad (by unfold qg_;rw[p1,p2,Vn_ p4];rfl)];rfl
      |false=>
       cases p5:decide (r.spot<0) with
       |true=>
        refine kq (And.intro @zt_ (And.intro @d5 (And.intro @p1 (And.intro @ln0' (And.intro @p2 (And.intro @p3 (And.intro @p4 (@p5)))))))) ?_
        try with_reducible refine Ow.nil ?_
        first|with_reducible refine ks [] @zt_ ?_|refine kp @zt_ ?_
        refine⟨_,(ke @zt_),hN7, ?_⟩
        rw[hbad (by unfold qg_;rw[p1,p2,vK_ p3 p4,Vv_ p5];rfl)];rfl
       |false=>
        cases p6:decide (1099511627775<r.spot) with
        |true=>
         refine kq (And.intro @zt_ (And.intro @d5 (And.intro @p1 (And.intro @ln0' (And.intro @p2 (And.intro @p3 (And.intro @p4 (And.intro @p5 (@p6))))))))) ?_
         try with_reducible refine Ow.nil ?_
         first|with_reducible refine ks [] @zt_ ?_|refine kp @zt_ ?_
         refine⟨_,(ke @zt_),hN7, ?_⟩
         rw[hbad (by unfold qg_;rw[p1,p2,vK_ p3 p4,Vn_ p6];rfl)];rfl
        |false=>
         refine kq (And.intro @zt_ (And.intro @d5 (And.intro @p1 (And.intro @ln0' (And.intro @p2 (And.intro @p3 (And.intro @p4 (And.intro @p5 (@p6))))))))) ?_
         try with_reducible refine Ow.nil ?_
         first|with_reducible refine ks [] @zt_ ?_|refine kp @zt_ ?_
         refine Again.mk ⟨k+1,(b7, .cells (lnC r).toArray 88 (0,0))::DG⟩ (by show lines.length - (k+1)<lines.length - k;omega) ⟨hlt,hris2, ?_,hN7⟩ rfl rfl
         show(lines.take (k+1)).all _=true
         rw[hts,List.all_append,hal,List.all_cons]
         unfold qg_;rw[p1,p2,vK_ p3 p4,vK_ p5 p6];rfl
  ·have d5:decide ((0:Int)< (k:Int))=true:=decide_eq_true (by omega)
   have hki: (k:Int) - 1=((k - 1:Nat):Int):=by omega
   have ix':=hr.idx true (k - 1) (by omega)
   have ld':=KI_ hr (show k - 1<lines.length by omega)
   rw[Nat.add_zero] at ld'
   have rd7:=rd _ hN7
   rw[decide_eq_false hk0,Bool.false_or] at hst
   first|with_reducible refine ks [] @zt_ ?_|refine kp @zt_ ?_
   refine Cw.regionS [b7,rb] [0,1,2,3,4,5,6,7,9,8,10,11,12,13,14,15,16,17,18,19,20,22,23,21,24,25,26,27,28,29,30,31,32,33,34,35,36,37,38,39,40,41,42,43,44,45] [] (by kernel_rfl) (by kernel_rfl) (by kernel_rfl) ?_
   simp only[zh_, ↓zd_, ↓zb_, ↓zl_, ↓zm_,za_]
   refine kq (And.intro @zt_ (And.intro @d5 (And.intro @hki (And.intro @ix' (And.intro @rd7 (@ld')))))) ?_
   refine Ow.soft rfl rfl rfl ?_
   refine Ow.callFV rfl Tryz.call139 (fun w' hw'=>Z2_ (lines.getD (k - 1) Go.Proofs.ln0).id r.id w') ?_
   with_reducible refine Ow.nil ?_
   refine⟨by intro b hb;simp only[List.mem_cons,List.not_mem_nil,or_false] at hb;(try subst hb);rfl, ?_⟩
   cases hl3:ltB (lines.getD (k - 1) Go.Proofs.ln0).id.l r.id.l with
   |true=>
    have hris2:vs_ (kv_ lines) (k+1)=true:=by rw[hst,hl3]
    cases p1:decide (r.share<0) with
    |true=>
     refine kq (And.intro @zt_ (And.intro @hris2 (@p1))) ?_
     try with_reducible refine Ow.nil ?_
     first|with_reducible refine ks [] @zt_ ?_|refine kp @zt_ ?_
     refine⟨_,(ke @zt_),hN7, ?_⟩
     rw[hbad (by unfold qg_;rw[p1];rfl)];rfl
    |false=>
     cases p2:decide ((names.length:Int)≤r.share) with
     |true=>
      refine kq (And.intro @zt_ (And.intro @hris2 (And.intro @p1 (And.intro @ln0' (@p2))))) ?_
      try with_reducible refine Ow.nil ?_
      first|with_reducible refine ks [] @zt_ ?_|refine kp @zt_ ?_
      refine⟨_,(ke @zt_),hN7, ?_⟩
      rw[hbad (by unfold qg_;rw[p1,p2];rfl)];rfl
     |false=>
      cases p3:decide (r.place<0) with
      |true=>
       refine kq (And.intro @zt_ (And.intro @hris2 (And.intro @p1 (And.intro @ln0' (And.intro @p2 (@p3)))))) ?_
       try with_reducible refine Ow.nil ?_
       first|with_reducible refine ks [] @zt_ ?_|refine kp @zt_ ?_
       refine⟨_,(ke @zt_),hN7, ?_⟩
       rw[hbad (by unfold qg_;rw[p1,p2,Vv_ p3];rfl)];rfl
      |false=>
       cases p4:decide (1099511627775<r.place) with
       |true=>
        refine kq (And.intro @zt_ (And.intro @hris2 (And.intro @p1 (And.intro @ln0' (And.intro @p2 (And.intro @p3 (@p4))))))) ?_
        try with_reducible refine Ow.nil ?_
        first|with_reducible refine ks [] @zt_ ?_|refine kp @zt_ ?_
        refine⟨_,(ke @zt_),hN7, ?_⟩
        rw[hbad (by unfold qg_;rw[p1,p2,Vn_ p4];rfl)];rfl
       |false=>
        cases p5:decide (r.spot<0) with
        |true=>
         refine kq (And.intro @zt_ (And.intro @hris2 (And.intro @p1 (And.intro @ln0' (And.intro @p2 (And.intro @p3 (And.intro @p4 (@p5)))))))) ?_
         try with_reducible refine Ow.nil ?_
         first|with_reducible refine ks [] @zt_ ?_|refine kp @zt_ ?_
         refine⟨_,(ke @zt_),hN7, ?_⟩
         rw[hbad (by unfold qg_;rw[p1,p2,vK_ p3 p4,Vv_ p5];rfl)];rfl
        |false=>
         cases p6:decide (1099511627775<r.spot) with
         |true=>
          refine kq (And.intro @zt_ (And.intro @hris2 (And.intro @p1 (And.intro @ln0' (And.intro @p2 (And.intro @p3 (And.intro @p4 (And.intro @p5 (@p6))))))))) ?_
          try with_reducible refine Ow.nil ?_
          first|with_reducible refine ks [] @zt_ ?_|refine kp @zt_ ?_
          refine⟨_,(ke @zt_),hN7, ?_⟩
          rw[hbad (by unfold qg_;rw[p1,p2,vK_ p3 p4,Vn_ p6];rfl)];rfl
         |false=>
          refine kq (And.intro @zt_ (And.intro @hris2 (And.intro @p1 (And.intro @ln0' (And.intro @p2 (And.intro @p3 (And.intro @p4 (And.intro @p5 (@p6))))))))) ?_
          try with_reducible refine Ow.nil ?_
          first|with_reducible refine ks [] @zt_ ?_|refine kp @zt_ ?_
          refine Again.mk ⟨k+1,(b7, .cells (lnC r).toArray 88 (0,0))::DG⟩ (by show lines.length - (k+1)<lines.length - k;omega) ⟨hlt,hris2, ?_,hN7⟩ rfl rfl
          show(lines.take (k+1)).all _=true
          rw[hts,List.all_append,hal,List.all_cons]
          unfold qg_;rw[p1,p2,vK_ p3 p4,vK_ p5 p6];rfl
   |false=>
    have e:zC_ names lines=false:=abw_ (ae6_ hlt (by rw[hst,hl3]))
    refine kq @zt_ ?_
    try with_reducible refine Ow.nil ?_
    first|with_reducible refine ks [] @zt_ ?_|refine kp @zt_ ?_
    refine⟨_,(ke @zt_),hN7, ?_⟩
    rw[e];rfl
 ·obtain rfl:k=lines.length:=by omega
  have d4:decide ((lines.length:Int)< (lines.length:Int))=false:=decide_eq_false (by omega)
  rw[List.take_length] at hal
  have e:zC_ names lines=true:=by unfold zC_;rw[hal,halN,hrisN,hris,decide_eq_false hn4,decide_eq_false hl8];rfl
  first|with_reducible refine ks [] (And.intro @zt_ (And.intro @ln1' (@d4))) ?_|refine kp (And.intro @zt_ (And.intro @ln1' (@d4))) ?_
  refine⟨_,(ke @zt_),hN, ?_⟩
  rw[e];rfl
end Go.Proofs
end
section
open Go Go.Proofs Go.Sx Go.StP
namespace Go.Proofs
set_option maxRecDepth 10000
set_option maxHeartbeats 1000000
set_option linter.unusedSimpArgs false
structure BmG where
 t:List UInt8
 k:Nat
set_option linter.defProp false
def jU_:=And.intro (@zf_) (@ze_)
theorem Qn_ (v0 v1 v2:Value) (names sums:List (List UInt8)) (lines:List LnL) (w:World) (h0:Zu_ w v0 names) (h1:Zu_ w v1 sums) (h2:LnSl w v2 lines) (hsl:sums.length=names.length) (hnl:names.length≤40) (hll:lines.length≤8000) (hns:Most 1000 names) (hss:Most 1000 sums):
  Rets Tryz.prog 35 #[v0,v1,v2] w (fun v D=>v=vs (z5_ (xZ_ names sums lines))∧D= []):=by
 obtain⟨nb,noff,narr,nE,nfz,hn⟩:=h0.row
 obtain⟨sb,soff,sarr,sE,sfz,hs⟩:=h1.row
 obtain⟨rb,off,arr,E,fz,hr⟩:=h2.row
 have ln0':=h0.len
 have ln1':=h1.len
 have ln2':=h2.len
 have hc0:=zj_ (names.length:Int)
 have hc2:=zj_ (lines.length:Int)
 obtain⟨P0,hP0⟩: ∃P,P=magM++qd_ (zw_ (names.length:Int)):=⟨_,rfl⟩
 have hP0l:P0.length≤10:=by rw[hP0,List.length_append,show magM.length=4 from rfl];omega
 refine Rets.enterV Tryz.func35 rfl (rs:= [.tmp 6]) Tryz.results35 Tryz.ntmps35 ?_
 refine kf ?_
 first|with_reducible refine ks [] (And.intro @jU_ @ln0') ?_|refine kp (And.intro @jU_ @ln0') ?_
 refine Ow.callFV rfl Tryz.call82 (fun w' hw'=>qt_ _ (names.length:Int) w' (Nat.le_refl _)) ?_
 refine ko @jU_ ?_
 refine Cw.loopG (G:=BmG) [14,15,16,17,20,21,22,23,24,25,26,27,28,29,30,31,7,18,19,8] (fun g=> [(7,vs g.t),(8,vi g.k)]) (fun g=> []) (fun g=>g.k≤names.length∧g.t=P0++kV_ names sums g.k) (fun g=>names.length - g.k) ⟨83::77::88::49::qd_ (zw_ (names.length:Int)),0⟩ rfl rfl ?_ ?_
 ·refine⟨Nat.zero_le _, ?_⟩
  rw[hP0];simp[magM,kV_]
 intro g j hg
 refine kv ?_
 obtain⟨t,k⟩:=g
 simp only at hg ⊢
 obtain⟨hk,ht⟩:=hg
 have hnk:=w4_ hns hss k
 have htl:t.length≤10+k*2006:=by rw[ht,List.length_append];omega
 by_cases hlt:k<names.length
 ·have d1:decide ((k:Int)< (names.length:Int))=true:=decide_eq_true (by omega)
  have hnb:=hn.has (by omega)
  have hsb:=hs.has (by omega)
  have ixn:=hn.idx false k hlt
  have ixs:=hs.idx false k (by omega)
  have ldn:=fun n=>jV_ hn hlt n
  have lds:=fun n=>jV_ hs (show k<sums.length by omega) n
  have hm1:=hns.at k
  have hm2:=hss.at k
  have htx:=ZG_ (names.getD k [])
  have hst:kV_ names sums (k+1)=kV_ names sums k++ (jQ_ (names.getD k [])++sums.getD k []):=rfl
  generalize names.getD k []=s1 at*
  generalize sums.getD k []=s2 at*
  first|with_reducible refine ks [] (And.intro @jU_ (And.intro @ln0' (@d1))) ?_|refine kp (And.intro @jU_ (And.intro @ln0' (@d1))) ?_
  refine Cw.regionS [nb,sb] [0,1,2,3,7,8,9,4,10,5,6,11,12] [] (by kernel_rfl) (by kernel_rfl) (by kernel_rfl) ?_
  simp only[zh_, ↓zd_, ↓zb_, ↓zl_, ↓zm_,za_]
  refine kq (And.intro @jU_ (And.intro @hnb (And.intro @hsb (And.intro @ixn (And.intro @ixs (And.intro @ldn (@lds))))))) ?_
  refine Ow.soft rfl rfl rfl ?_
  refine Ow.callFV rfl Tryz.call83 (fun w' hw'=>ad0_ s1 w' (by omega)) ?_
  with_reducible refine Ow.nil ?_
  refine⟨by intro b hb;simp only[List.mem_cons,List.not_mem_nil,or_false] at hb;(try subst hb);rfl, ?_⟩
  refine kq (And.intro @jU_ (And.intro @hnb (And.intro @hsb (And.intro @ixn (And.intro @ixs (And.intro @ldn (@lds))))))) ?_
  try with_reducible refine Ow.nil ?_
  first|with_reducible refine ks [] @jU_ ?_|refine kp @jU_ ?_
  exact Again.mk ⟨t++jQ_ s1++s2,k+1⟩ (by show names.length - (k+1)<names.length - k;omega) ⟨hlt,by show t++jQ_ s1++s2=_;rw[hst,ht];simp only[List.append_assoc]⟩ rfl rfl
 obtain rfl:k=names.length:=by omega
 have d1:decide ((names.length:Int)< (names.length:Int))=false:=decide_eq_false (by omega)
 obtain⟨P1,hP1⟩: ∃P,P=t++qd_ (zw_ (lines.length:Int)):=⟨_,rfl⟩
 have hP1l:P1.length≤100000:=by rw[hP1,List.length_append];omega
 have hall:xZ_ names sums lines=P1++qM_ lines:=by rw[hP1,ht,hP0];unfold xZ_;simp only[List.append_assoc]
 clear htl hnk
 first|with_reducible refine ks [] (And.intro @jU_ (And.intro @ln0' (And.intro @d1 (@ln2')))) ?_|refine kp (And.intro @jU_ (And.intro @ln0' (And.intro @d1 (@ln2')))) ?_
 refine Ow.callFV rfl Tryz.call82 (fun w' hw'=>qt_ _ (lines.length:Int) w' (Nat.le_refl _)) ?_
 have htl:t.length≤99994:=by rw[hP1,List.length_append] at hP1l;rw[ht,List.length_append];have:=w4_ hns hss names.length;omega
 refine ko @jU_ ?_
 rw[←hP1]
 refine Cw.loopG (G:=BmG) [37,38,39,40,43,44,45,46,47,48,49,50,51,52,53,54,55,56,57,58,59,60,61,62,63,64,65,66,67,68,69,70,71,7,41,42,9] (fun q=> [(7,vs q.t),(9,vi q.k)]) (fun q=> []) (fun q=>q.k≤lines.length∧q.t=P1++qM_ (lines.take q.k)) (fun q=>lines.length - q.k) ⟨P1,0⟩ rfl rfl ?_ ?_
 ·exact⟨Nat.zero_le _,by simp[qM_]⟩
 intro q jq hq
 refine kv ?_
 obtain⟨u,k⟩:=q
 simp only at hq ⊢
 obtain⟨hk,hu⟩:=hq
 have hul:u.length≤100000+k*50:=by
  rw[hu,List.length_append]
  have:=wg_ lines k hk
  omega
 by_cases hkl:k<lines.length
 ·have d2:decide ((k:Int)< (lines.length:Int))=true:=decide_eq_true (by omega)
  have hb:=hr.has (by omega)
  have ix:=hr.idx true k hkl
  have ld0:=KI_ hr hkl
  rw[Nat.add_zero] at ld0
  have ld1:=aj0_ hr hkl
  have ld2:=alg_ hr hkl
  have ld3:=ajV_ hr hkl
  have hsn:=wO_ lines hkl
  generalize lines.getD k Go.Proofs.ln0=r at*
  have hil:=r.id.h
  have a1:=zj_ r.share
  have a2:=zj_ r.place
  have a3:=zj_ r.spot
  first|with_reducible refine ks [] (And.intro @jU_ (And.intro @ln2' (@d2))) ?_|refine kp (And.intro @jU_ (And.intro @ln2' (@d2))) ?_
  refine Cw.regionS [rb] [0,1,2,3,4,8,9,10,11,15,16,17,18,22,23,24,25,5,12,19,26,6,7,13,14,20,21,27,28,29] [] (by kernel_rfl) (by kernel_rfl) (by kernel_rfl) ?_
  simp only[zh_, ↓zd_, ↓zb_, ↓zl_, ↓zm_,za_]
  refine kq (And.intro @jU_ (And.intro @hb (And.intro @ix (And.intro @ld0 (And.intro @ld1 (And.intro @ld2 (@ld3))))))) ?_
  refine Ow.soft rfl rfl rfl ?_
  refine Ow.callFV rfl Tryz.call84 (fun w' hw'=>acT_ r.id w') ?_
  with_reducible refine Ow.nil ?_
  refine⟨by intro b hb;simp only[List.mem_cons,List.not_mem_nil,or_false] at hb;(try subst hb);rfl, ?_⟩
  refine kq @jU_ ?_
  refine Ow.soft rfl rfl rfl ?_
  refine Ow.callFV rfl Tryz.call82 (fun w' hw'=>qt_ _ r.share w' (Nat.le_refl _)) ?_
  with_reducible refine Ow.nil ?_
  refine⟨by intro b hb;simp only[List.mem_cons,List.not_mem_nil,or_false] at hb;(try subst hb);rfl, ?_⟩
  refine kq @jU_ ?_
  refine Ow.soft rfl rfl rfl ?_
  refine Ow.callFV rfl Tryz.call82 (fun w' hw'=>qt_ _ r.place w' (Nat.le_refl _)) ?_
  with_reducible refine Ow.nil ?_
  refine⟨by intro b hb;simp only[List.mem_cons,List.not_mem_nil,or_false] at hb;(try subst hb);rfl, ?_⟩
  refine kq @jU_ ?_
  refine Ow.soft rfl rfl rfl ?_
  refine Ow.callFV rfl Tryz.call82 (fun w' hw'=>qt_ _ r.spot w' (Nat.le_refl _)) ?_
  with_reducible refine Ow.nil ?_
  refine⟨by intro b hb;simp only[List.mem_cons,List.not_mem_nil,or_false] at hb;(try subst hb);rfl, ?_⟩
  refine kq @jU_ ?_
  try with_reducible refine Ow.nil ?_
  first|with_reducible refine ks [] @jU_ ?_|refine kp @jU_ ?_
  exact Again.mk ⟨u++r.id.l++qd_ (zw_ r.share)++qd_ (zw_ r.place)++qd_ (zw_ r.spot),k+1⟩ (by show lines.length - (k+1)<lines.length - k;omega) ⟨by show k+1≤lines.length;omega,by show _=P1++qM_ (lines.take (k+1));rw[hsn,hu];unfold ZJ_;simp only[List.append_assoc]⟩ rfl rfl
 ·obtain rfl:k=lines.length:=by omega
  have d2:decide ((lines.length:Int)< (lines.length:Int))=false:=decide_eq_false (by omega)
  rw[List.take_length,←hall] at hu
  first|with_reducible refine ks [] (And.intro @jU_ (And.intro @ln2' (@d2))) ?_|refine kp (And.intro @jU_ (And.intro @ln2' (@d2))) ?_
  rw[hu] at*
  refine Ow.callFV rfl Tryz.call85 (fun w' hw'=>vS_ (xZ_ names sums lines) w' (by omega)) ?_
  refine ko @jU_ ?_
  first|with_reducible refine ks [] @jU_ ?_|refine kp @jU_ ?_
  refine⟨_,(ke @jU_),trivial, ?_⟩
  rfl
end Go.Proofs
end
section
open Go Go.Proofs Go.Sx Go.StP Go.Flo
namespace Go.Proofs
set_option maxRecDepth 10000
set_option maxHeartbeats 1000000
set_option linter.unusedSimpArgs false
theorem hasG_iff {x:IdL} {m:MpL}:Vz_ x m=true↔ ∃p,p∈m∧p.1=x:=by
 unfold Vz_
 rw[List.any_eq_true]
 constructor
 ·rintro⟨p,hp,h⟩;exact⟨p,hp,(eq_of_beq h).symm⟩
 ·rintro⟨p,hp,rfl⟩;exact⟨p,hp,beq_self_eq_true _⟩
theorem acM_ {k:IdL} {v:LnL}: ∀ {m:MpL},Vz_ k m=false→updG k v m=m++ [(k,v)]
 | [],_=>rfl
 |p::r,h=>by
  unfold Vz_ at h
  rw[List.any_cons,Bool.or_eq_false_iff] at h
  have h2:updG k v r=r++ [(k,v)]:=acM_ h.2
  unfold updG
  rw[if_neg (by rw[h.1];simp),h2];rfl
end Go.Proofs
end
section
open Go Go.Proofs Go.Sx Go.StP
namespace Go.Proofs
set_option maxRecDepth 10000
set_option maxHeartbeats 1000000
set_option linter.unusedSimpArgs false
def PutAt (l:List LnL) (x:LnL) (Z:List LnL):Prop:= ∃k,k≤l.length∧(∀i,i<k→ltB (l.getD i Go.Proofs.ln0).id.l x.id.l=true)∧(k=l.length∨ltB (l.getD k Go.Proofs.ln0).id.l x.id.l=false)∧
 ((k<l.length∧(l.getD k Go.Proofs.ln0).id.l=x.id.l∧Z=l)∨((k=l.length∨(l.getD k Go.Proofs.ln0).id.l≠x.id.l)∧Z=l.take k++x::l.drop k))
theorem PutAt.len {l Z:List LnL} {x:LnL} (h:PutAt l x Z):Z.length≤l.length+1:=by
 obtain⟨k,hk,-,-,⟨-,-,rfl⟩ | ⟨-,rfl⟩⟩:=h
 ·omega
 ·rw[List.length_append,List.length_take,List.length_cons,List.length_drop];omega
theorem ajs_ {m:MpL} {Z Z':List LnL} {k:Nat} {r:RwL} (hk:m.map (fun p=>p.2.id)=m.map Prod.fst∧(m.map Prod.fst).Nodup) (hZ:wm_ (m.map Prod.snd) Z) (h:PutAt Z ⟨r.id,(k:Int),r.place,r.spot⟩ Z'):wm_ ((vp_ k m r).map Prod.snd) Z':=by
 obtain⟨hp,hs⟩:=hZ
 have hkey: ∀p,p∈m→p.2.id=p.1:=by
  intro p hp
  obtain⟨i,hi,rfl⟩:=List.getElem_of_mem hp
  have h1:=congrArg (fun l=>l[i]?) hk.1
  simp only[List.getElem?_map,List.getElem?_eq_getElem hi,Option.map_some,Option.some.injEq] at h1
  exact h1
 obtain⟨j,hj,h1,h2,h3⟩:=h
 simp only at h1 h2 h3
 rcases h3 with⟨hjl,he,rfl⟩ | ⟨hne,rfl⟩
 ·have hm:Z'.getD j Go.Proofs.ln0∈Z':=by rw[Qm_ hjl];exact List.getElem_mem hjl
  obtain⟨p,hpm,hpe⟩:=List.mem_map.1 (hp.mem_iff.1 hm)
  have hh:Vz_ r.id m=true:=hasG_iff.2 ⟨p,hpm,by rw[←hkey p hpm,hpe];exact ajL_ he⟩
  unfold vp_
  rw[if_pos hh]
  exact⟨hp,hs⟩
 ·have hh:Vz_ r.id m=false:=by
   cases e:Vz_ r.id m with
   |false=>rfl
   |true=>
    exfalso
    obtain⟨p,hpm,hpe⟩:=hasG_iff.1 e
    have hq:p.2∈Z:=hp.mem_iff.2 (List.mem_map_of_mem hpm)
    have hqi:p.2.id=r.id:=(hkey p hpm).trans hpe
    generalize p.2=q at*
    obtain⟨i,hi,rfl⟩:=List.getElem_of_mem hq
    rw[←Qm_ hi] at hqi
    rcases Nat.lt_trichotomy i j with hlt|e2|hlt
    ·have:=h1 i hlt
     rw[hqi,jA_] at this;cases this
    ·subst e2
     rcases hne with e3|e3
     ·omega
     ·exact e3 (congrArg IdL.l hqi)
    ·have hjl:j<Z.length:=by omega
     have h4:=(List.pairwise_iff_getElem.1 hs) j i hjl hi hlt
     rw[←Qm_ hi,←Qm_ hjl,hqi] at h4
     rcases h2 with h2|h2
     ·omega
     ·rcases hne with e3|e3
      ·omega
      ·have:=x2_ h2 e3
       rw[this] at h4;cases h4
  have hg:vp_ k m r=m++ [(r.id,⟨r.id,(k:Int),r.place,r.spot⟩)]:=by
   unfold vp_
   rw[if_neg (by rw[hh];simp),acM_ hh]
  rw[hg,List.map_append]
  refine⟨?_, ?_⟩
  ·refine List.perm_middle.trans ?_
   rw[List.take_append_drop]
   refine(List.Perm.cons _ hp).trans ?_
   exact(List.perm_append_singleton _ _).symm
  ·refine(jB_ (key:=fun x:LnL=>x.id.l) (z:=Go.Proofs.ln0) (show StP.Sorted (fun x:LnL=>x.id.l) Z from hs) hj ?_ ?_).1
   ·by_cases h0:j=0
    ·exact .inl h0
    ·exact .inr (Zh_ (h1 (j - 1) (by omega)))
   ·rcases Nat.lt_or_ge j Z.length with hjl|hjl
    ·right
     rcases hne with e3|e3
     ·omega
     ·rcases h2 with h2|h2
      ·omega
      ·exact x2_ h2 e3
    ·exact .inl hjl
theorem ahH_ (Z:List LnL): ((Z.map lnC).flatten).length=Z.length*35:=by
 induction Z with
 |nil=>rfl
 |cons x r ih=>rw[List.map_cons,List.flatten_cons,List.length_append,ih,zq_,List.length_cons];omega
set_option linter.defProp false
def qN_:=And.intro (And.intro (And.intro (@zf_) (@ze_)) (And.intro (@z3_) (@xX_))) (And.intro (And.intro (@jK_) (@j7_)) (And.intro (@xz_) (@km_)))
theorem aem_ (v:Value) (l:List LnL) (x:LnL) (w:World) (hv:LnSl w v l) (hl:l.length<1000000):
  Rets Tryz.prog 81 #[v, .agg (lnC x).toArray] w (XS w [] (fun v' D=> ∃Z,PutAt l x Z∧((Z=l∧v'=v)∨GrI D 88 35 v' Z.length (Z.map lnC).flatten))):=by
 obtain⟨rb,off,arr,E,fz,hr⟩:=hv.row
 have ln:=hv.len
 refine Rets.enterX Tryz.func81 rfl (rs:= [.tmp 4]) Tryz.results81 Tryz.ntmps81 (fun p hp=>by cases hp) (by simp[keys]) ?_
 refine kf ?_
 first|with_reducible refine ks [] @qN_ ?_|refine kp @qN_ ?_
 refine Ow.box rfl rfl fun b3 hb3 hw3=> ?_
 simp only[jt_,jm_,jn_,zg_,List.nil_append,List.cons_append]
 refine Ow.go rfl ?_
 simp(disch:=(first|assumption|omega| (simp only[kd_,kc_,UInt64.reduceToNat];try omega))) only[↓Sx.S0,Sx.S1,Tryz.fx,qN_,Nat.reduceAdd,Nat.reducePow,Int.reducePow,Nat.reduceBEq, ↓reduceIte,UInt8.reduceToNat,UInt16.reduceToNat,UInt32.reduceToNat,UInt64.reduceToNat,Int.reduceToNat]
 have hN3:New w.heap.size [(b3,Obj.cells (lnC x).toArray 88 (0,0))]:=⟨hw3,trivial⟩
 have hE3:Ext w [] [(b3,Obj.cells (lnC x).toArray 88 (0,0))]:=Ext.of_new hN3
 first|with_reducible refine ks [] @qN_ ?_|refine kp @qN_ ?_
 refine Cw.loopG (G:=Nat) [7,8,9,10,11,12,13,14,15,16,17,18,19,20,21,22,5] (fun g=> [(5,vi g)]) (fun g=> [(b3, .cells (lnC x).toArray 88 (0,0))]) (fun g=>g≤l.length∧ ∀i,i<g→ltB (l.getD i Go.Proofs.ln0).id.l x.id.l=true) (fun g=>l.length - g) 0 rfl rfl ?_ ?_
 ·exact⟨Nat.zero_le _,fun i hi=>absurd hi (Nat.not_lt_zero _)⟩
 intro k jk hk
 refine kv ?_
 obtain⟨hk,hlow⟩:=hk
 obtain⟨vt,st,hvt,-⟩:=hv.take hk true
 obtain⟨vd,sd,hvd,-⟩:=hv.dropE hk true
 by_cases hlt:k<l.length
 ·have d1:decide ((k:Int)< (l.length:Int))=true:=decide_eq_true (by omega)
  have hrl:=hr.lt (by omega)
  have hn3:b3≠rb:=by omega
  have hb:=hr.has (by omega)
  have ix:=hr.idx true k hlt
  have ld0:=KI_ hr hlt
  rw[Nat.add_zero] at ld0
  first|with_reducible refine ks [] @qN_ ?_|refine kp @qN_ ?_
  refine Cw.regionS [b3,rb] [0,1,2,3,4,5,6,7,8,10,9,11,12,13] [] (by kernel_rfl) (by kernel_rfl) (by kernel_rfl) ?_
  simp only[zh_, ↓zd_, ↓zb_, ↓zl_, ↓zm_,za_]
  refine kq (And.intro @qN_ (And.intro @ln (And.intro @d1 (And.intro @hb (And.intro @ix (@ld0)))))) ?_
  refine Ow.soft rfl rfl rfl ?_
  refine Ow.callFV rfl Tryz.call139 (fun w' hw'=>Z2_ (l.getD k Go.Proofs.ln0).id x.id w') ?_
  with_reducible refine Ow.nil ?_
  refine⟨by intro b hb;simp only[List.mem_cons,List.not_mem_nil,or_false] at hb;(try subst hb);rfl, ?_⟩
  cases hl3:ltB (l.getD k Go.Proofs.ln0).id.l x.id.l with
  |true=>
   refine kq @qN_ ?_
   try with_reducible refine Ow.nil ?_
   first|with_reducible refine ks [] @qN_ ?_|refine kp @qN_ ?_
   refine Again.mk (G:=Nat) (k+1) (by show l.length - (k+1)<l.length - k;omega) ⟨hlt,fun i hi=> ?_⟩ rfl rfl
   rcases Nat.lt_succ_iff_lt_or_eq.1 hi with h|rfl
   ·exact hlow i h
   ·exact hl3
  |false=>
   have hup:k=l.length∨ltB (l.getD k Go.Proofs.ln0).id.l x.id.l=false:= .inr hl3
   refine kq @qN_ ?_
   try with_reducible refine Ow.nil ?_
   first|with_reducible refine ks [] @qN_ ?_|refine kp @qN_ ?_
   refine Cw.regionS [b3,rb] [0,1,2,3,4,5,6,7,8,10,9,11,12,13] [] (by kernel_rfl) (by kernel_rfl) (by kernel_rfl) ?_
   simp only[zh_, ↓zd_, ↓zb_, ↓zl_, ↓zm_,za_]
   refine kq (And.intro @qN_ (And.intro @ln (And.intro @d1 (And.intro @hb (And.intro @ix (And.intro @ld0 (@aaU_))))))) ?_
   try with_reducible refine Ow.nil ?_
   cases he: (l.getD k Go.Proofs.ln0).id.l==x.id.l with
   |true=>
    first|with_reducible refine ks [] @qN_ ?_|refine kp @qN_ ?_
    refine⟨_,(ke @qN_), ?_⟩
    exact⟨hE3,l,⟨k,hk,hlow,hup, .inl ⟨hlt,by simpa using he,rfl⟩⟩, .inl ⟨rfl,rfl⟩⟩
   |false=>
    first|with_reducible refine ks [] @qN_ ?_|refine kp @qN_ ?_
    first|with_reducible refine ks [] (And.intro @qN_ @st) ?_|refine kp (And.intro @qN_ @st) ?_
    refine Ow.appendG (e:=88) (k:=k) (new:=((l.take k).map lnC).flatten) (.slice none 0 0) rfl rfl rfl Tryz.underlying69 Xo_ (by kernel_rfl) Vw_ (by rw[z3_,List.size_toArray,zq_]) Tryz.underlying69 (by intro k h;cases h) Gr.nl (fun w' hw'=>by have:=(hvt.oldN hw' hN3).appX (P:=Tryz.prog) zq_ xn_;rwa [List.length_take,Nat.min_eq_left hk] at this) (by rw[ahH_,List.length_take,Nat.min_eq_left hk]) (by omega) (fun v2 L2 hB2 _ hg2 hs2=> ?_)
    have hE2:=hE3.grew hg2
    have r3:zv_ w L2 b3=some (.cells (lnC x).toArray 88 (0,0)):=by unfold zv_;rw[hg2.look b3 (.cells (lnC x).toArray 88 (0,0)) (by simp[slB]) (by simp[Sx.look])]
    rw[Nat.zero_add,List.nil_append] at hB2
    refine ko (And.intro @qN_ @r3) ?_
    refine Ow.buildSlice (e:=88) (lnC x).toArray rfl rfl (q8_ Tryz.underlying69 Xo_ Vw_ (by decide) (zq_ x)) fun b6 hb6 hw6=> ?_
    refine ko @qN_ ?_
    refine Ow.appendG (e:=88) (k:=1) (new:=lnC x) v2 rfl rfl rfl Tryz.underlying69 Xo_ (by kernel_rfl) Vw_ (by rw[z3_,List.size_toArray,zq_]) Tryz.underlying69 (by intro k h;cases h) hB2.app (fun w' hw'=>AppX.one1 (hw'.has _ _ (List.mem_append_right _ List.mem_cons_self)) (zq_ x) (xn_ x)) (by show(lnC x).length=1*35;rw[zq_]) (by omega) (fun v3 L3 hB3 _ hg3 hs3=> ?_)
    have hE4:=(hE2.app (o:= .cells (lnC x).toArray 88 (0,0)) hw6).grew hg3
    refine ko (And.intro @qN_ @sd) ?_
    refine Ow.appendG (e:=88) (k:=l.length - k) (new:=((l.drop k).map lnC).flatten) v3 rfl rfl rfl Tryz.underlying69 Xo_ (by kernel_rfl) Vw_ (by rw[z3_,List.size_toArray,zq_]) Tryz.underlying69 (by intro k h;cases h) hB3 (fun w' hw'=>by have:=(hvd.oldN hw' hE4.new0).appX (P:=Tryz.prog) zq_ xn_;rwa [List.length_drop] at this) (by rw[ahH_,List.length_drop]) (by omega) (fun v4 L4 hB4 _ hg4 hs4=> ?_)
    have hE5:=hE4.grew hg4
    refine ko @qN_ ?_
    refine⟨_,(ke @qN_), ?_⟩
    refine⟨hE5,l.take k++x::l.drop k,⟨k,hk,hlow,hup, .inr ⟨(.inr (by simpa using he)),rfl⟩⟩, .inr ?_⟩
    have e1:k+1+ (l.length - k)=(l.take k++x::l.drop k).length:=by rw[List.length_append,List.length_take,List.length_cons,List.length_drop];omega
    rw[e1] at hB4
    refine Gr.i ?_ fun p hp=>hp
    show Gr L4 88 35 v4 _ _
    simpa only[List.map_append,List.map_cons,List.flatten_append,List.flatten_cons,List.append_assoc] using hB4
 ·obtain rfl:k=l.length:=by omega
  have hup:l.length=l.length∨ltB (l.getD l.length Go.Proofs.ln0).id.l x.id.l=false:= .inl rfl
  have d1:decide ((l.length:Int)< (l.length:Int))=false:=decide_eq_false (by omega)
  first|with_reducible refine ks [] @qN_ ?_|refine kp @qN_ ?_
  refine Cw.regionS [b3] [0,1,2,3,4,5,6,7,8,10,9,11,12,13] [] (by kernel_rfl) (by kernel_rfl) (by kernel_rfl) ?_
  simp only[zh_, ↓zd_, ↓zb_, ↓zl_, ↓zm_,za_]
  refine kq (And.intro @qN_ (And.intro @ln (@d1))) ?_
  try with_reducible refine Ow.nil ?_
  first|with_reducible refine ks [] @qN_ ?_|refine kp @qN_ ?_
  refine Cw.regionS [b3] [0,1,2,3,4,5,6,7,8,10,9,11,12,13] [] (by kernel_rfl) (by kernel_rfl) (by kernel_rfl) ?_
  simp only[zh_, ↓zd_, ↓zb_, ↓zl_, ↓zm_,za_]
  refine kq (And.intro @qN_ (And.intro @ln (@d1))) ?_
  try with_reducible refine Ow.nil ?_
  first|with_reducible refine ks [] @qN_ ?_|refine kp @qN_ ?_
  first|with_reducible refine ks [] (And.intro @qN_ @st) ?_|refine kp (And.intro @qN_ @st) ?_
  refine Ow.appendG (e:=88) (k:=l.length) (new:=((l.take l.length).map lnC).flatten) (.slice none 0 0) rfl rfl rfl Tryz.underlying69 Xo_ (by kernel_rfl) Vw_ (by rw[z3_,List.size_toArray,zq_]) Tryz.underlying69 (by intro k h;cases h) Gr.nl (fun w' hw'=>by have:=(hvt.oldN hw' hN3).appX (P:=Tryz.prog) zq_ xn_;rwa [List.length_take,Nat.min_eq_left hk] at this) (by rw[ahH_,List.length_take,Nat.min_eq_left hk]) (by omega) (fun v2 L2 hB2 _ hg2 hs2=> ?_)
  have hE2:=hE3.grew hg2
  have r3:zv_ w L2 b3=some (.cells (lnC x).toArray 88 (0,0)):=by unfold zv_;rw[hg2.look b3 (.cells (lnC x).toArray 88 (0,0)) (by simp[slB]) (by simp[Sx.look])]
  rw[Nat.zero_add,List.nil_append] at hB2
  refine ko (And.intro @qN_ @r3) ?_
  refine Ow.buildSlice (e:=88) (lnC x).toArray rfl rfl (q8_ Tryz.underlying69 Xo_ Vw_ (by decide) (zq_ x)) fun b6 hb6 hw6=> ?_
  refine ko @qN_ ?_
  refine Ow.appendG (e:=88) (k:=1) (new:=lnC x) v2 rfl rfl rfl Tryz.underlying69 Xo_ (by kernel_rfl) Vw_ (by rw[z3_,List.size_toArray,zq_]) Tryz.underlying69 (by intro k h;cases h) hB2.app (fun w' hw'=>AppX.one1 (hw'.has _ _ (List.mem_append_right _ List.mem_cons_self)) (zq_ x) (xn_ x)) (by show(lnC x).length=1*35;rw[zq_]) (by omega) (fun v3 L3 hB3 _ hg3 hs3=> ?_)
  have hE4:=(hE2.app (o:= .cells (lnC x).toArray 88 (0,0)) hw6).grew hg3
  refine ko (And.intro @qN_ @sd) ?_
  refine Ow.appendG (e:=88) (k:=l.length - l.length) (new:=((l.drop l.length).map lnC).flatten) v3 rfl rfl rfl Tryz.underlying69 Xo_ (by kernel_rfl) Vw_ (by rw[z3_,List.size_toArray,zq_]) Tryz.underlying69 (by intro k h;cases h) hB3 (fun w' hw'=>by have:=(hvd.oldN hw' hE4.new0).appX (P:=Tryz.prog) zq_ xn_;rwa [List.length_drop] at this) (by rw[ahH_,List.length_drop]) (by omega) (fun v4 L4 hB4 _ hg4 hs4=> ?_)
  have hE5:=hE4.grew hg4
  refine ko @qN_ ?_
  refine⟨_,(ke @qN_), ?_⟩
  refine⟨hE5,l.take l.length++x::l.drop l.length,⟨l.length,hk,hlow,hup, .inr ⟨(.inl rfl),rfl⟩⟩, .inr ?_⟩
  have e1:l.length+1+ (l.length - l.length)=(l.take l.length++x::l.drop l.length).length:=by rw[List.length_append,List.length_take,List.length_cons,List.length_drop];omega
  rw[e1] at hB4
  refine Gr.i ?_ fun p hp=>hp
  show Gr L4 88 35 v4 _ _
  simpa only[List.map_append,List.map_cons,List.flatten_append,List.flatten_cons,List.append_assoc] using hB4
end Go.Proofs
end
section
open Go Go.Proofs Go.Sx Go.StP
namespace Go.Proofs
set_option maxRecDepth 10000
set_option maxHeartbeats 1000000
set_option linter.unusedSimpArgs false
structure CvG where
 k:Nat
 v:Value
 D:zc_
set_option linter.defProp false
def apN_:=And.intro (@zf_) (@ze_)
end Go.Proofs
end
section
open Go Go.Proofs Go.Sx Go.StP Go.Flo
namespace Go.Proofs
set_option maxRecDepth 10000
set_option maxHeartbeats 1000000
set_option linter.unusedSimpArgs false
def OfRS (b:List UInt8) (v:Value) (D:zc_):Prop:=match akI_ b with
 |none=>v= .tuple #[.slice none 0 0, .bool false]
 |some q=> ∃x Z,rws_SortOf (alD_ q.2.1 q.2.2.1) Z∧v= .tuple #[x, .bool true]∧GrI D 155 34 x Z.length (Z.map rwC).flatten
structure OrfG where
 k:Nat
 v:Value
 D:zc_
set_option linter.defProp false
def apU_:=And.intro (And.intro (@zf_) (@ze_)) (And.intro (@Sx.tup2_0) (@Sx.tup2_1))
end Go.Proofs
end
section
open Go Go.Proofs Go.Sx Go.StP Go.Flo
namespace Go.Proofs
set_option maxRecDepth 10000
set_option maxHeartbeats 1000000
set_option linter.unusedSimpArgs false
theorem agV_ (s:List UInt8):ql_ (vo_ Tryz.prog 166) (zZ_ Tryz.prog 166) [(0,vs s),(1,vi 8)]=some (.agg #[vs s,vi 8,vi 0]):=by
 rw[show vo_ Tryz.prog 166=some [(0,1),(1,1),(2,1)] from id (by kernel_rfl),zrRR];rfl
theorem Q6_ (b:Nat) (s:List UInt8) (a:Nat) (e:Int) (w:World) (ha:a≤s.length) (hs:s.length<1099511627776) (ho:w.heap[b]? =some (rrO s a e)):
  Rets Tryz.prog 97 #[vp b 0] w (fun v D=> ∃o,D= [(b,o)]∧v= .agg (a8 (idR s a e).1)∧o=rrO s (idR s a e).2.1 (idR s a e).2.2):=aep_ b s a e w ha hs ho
theorem Qk_ (b:Nat) (s:List UInt8) (a:Nat) (e:Int) (w:World) (ho:w.heap[b]? =some (rrO s a e)):
  Rets Tryz.prog 98 #[vp b 0] w (fun v D=>v=vi (vU_ s a e)∧D= []):=VR_ b s a e w ho
def age_ (b:List UInt8) (v:Value) (D:zc_):Prop:=match kt_ b with
 |some q=> ∃x,v= .tuple #[vs q.1,x, .bool true]∧GrI D 155 34 x q.2.length (q.2.map rwC).flatten
 |none=>v= .tuple #[vs [], .slice none 0 0, .bool false]
theorem ajf_ (b:List UInt8) {s rs:List UInt8} {ok:Bool} {rl:List RwL} {ra:Nat} {re:Int} (hu:zi_ b=(s,ok)) (hr: (rs,rl,ra,re)=xJ_ s fun _=>200):kt_ b=if ok=true∧8≤s.length∧vU_ s ra re=0∧qF_ rs rl=true∧z5_ (vu_ rs rl)=b then some (rs,rl) else none:=by
 by_cases h:aeh_ b
 ·have h':=h
  rw[agw_ h]
  unfold aeh_ at h'
  rw[hu,←hr] at h'
  rw[if_pos h',hu,←hr]
 ·rw[aih_ h]
  unfold aeh_ at h
  rw[hu,←hr] at h
  rw[if_neg h]
structure ODiG where
 k:Nat
 q:Nat×Int
structure ODrG where
 l:List RwL
 q:Nat×Int
 v:Value
 D1:zc_
 DG:zc_
theorem alY_ {s:List UInt8} (h:8≤s.length):qw_ s 0 0 8=(s.take 8,8,0):=by
 unfold qw_
 rw[if_neg (by decide),if_neg (by decide),if_neg (by omega)]
 rfl
set_option linter.defProp false
def qa_:=And.intro (And.intro (And.intro (@zf_) (And.intro (@ze_) (@qB_))) (And.intro (@xk_) (And.intro (@xF_) (@ke_)))) (And.intro (And.intro (@kh_) (And.intro (@q1_) (@ahA_))) (And.intro (And.intro (@Wd_) (@VP_)) (And.intro (@Sx.tup2_0) (@Sx.tup2_1))))
theorem VX_ (b:List UInt8) (w:World) (hb:b.length<1000000):
  Rets Tryz.prog 80 #[vs b] w (XS w [] (age_ b)):=by
 have brz:ql_ (vo_ Tryz.prog 155) (zZ_ Tryz.prog 155) []=some (.agg (rwC rw0).toArray):=by
  rw[show vo_ Tryz.prog 155=some [(0,32),(32,1),(33,1)] from id (by kernel_rfl),zrRx];simp[ql_,Sx.fillV]
 refine Rets.enterX Tryz.func80 rfl (rs:= [.tmp 2, .tmp 3, .tmp 4]) Tryz.results80 Tryz.ntmps80 (fun p hp=>by cases hp) (by simp[keys]) ?_
 refine kf ?_
 first|with_reducible refine ks [] @qa_ ?_|refine kp @qa_ ?_
 refine Ow.callFV rfl Tryz.call93 (fun w' hw'=>wA_ b w' (by omega)) ?_
 have hun: (zi_ b).1.length≤b.length:=kZ_ b
 unfold age_
 obtain⟨r,hr⟩: ∃r,r=xJ_ (zi_ b).1 fun _=>200:=⟨_,rfl⟩
 obtain⟨rs,rl,ra,re⟩:=r
 obtain⟨u,hu⟩: ∃u,u=zi_ b:=⟨_,rfl⟩
 obtain⟨s,ok⟩:=u
 rw[←hu] at hun hr
 simp only at hun hr
 rw[ajf_ b hu.symm hr]
 rw[←hu]
 cases ok with
 |false=>
  rw[if_neg (by simp)]
  refine ko @qa_ ?_
  first|with_reducible refine ks [] @qa_ ?_|refine kp @qa_ ?_
  refine⟨_,(ke @qa_), ?_⟩
  exact⟨Ext.refl _ _,rfl⟩
 |true=>
  by_cases h8:s.length<8
  ·have d1:decide ((s.length:Int)<8)=true:=decide_eq_true (by omega)
   rw[if_neg (fun h=>by omega)]
   refine ko (And.intro @qa_ @d1) ?_
   first|with_reducible refine ks [] @qa_ ?_|refine kp @qa_ ?_
   refine⟨_,(ke @qa_), ?_⟩
   exact⟨Ext.refl _ _,rfl⟩
  have d1:decide ((s.length:Int)<8)=false:=decide_eq_false (by omega)
  have d48:decide ((0:Int)≤4∧(4:Int)≤8∧(8:Int)≤ (s.length:Int))=true:=decide_eq_true (by omega)
  unfold xJ_ at hr
  rw[alY_ (by omega)] at hr
  simp only at hr
  refine ko (And.intro @qa_ @d1) ?_
  refine Ow.build (.agg #[vs s,vi 8,vi 0]) rfl (agV_ s) ?_
  refine ko @qa_ ?_
  refine Ow.box rfl rfl fun br hbr hwr=> ?_
  simp only[jt_,jm_,jn_,zg_,List.nil_append]
  refine Ow.permL (M:= [(br,rrO s 8 0)]) (List.Perm.refl _) ?_
  refine ko @qa_ ?_
  refine Ow.callM rfl rfl Tryz.call94 (by simp[keys]) (fun w' hw'=>z0_ br s 8 0 200 w' (by omega) (by omega) (hw'.has _ _ List.mem_cons_self)) ?_
  have r2:=qx_ (s:=s) (a:=8) (e:=0) (most:=200) (by omega)
  have m2:=j1_ (s:=s) (a:=8) (e:=0) (most:=200) (by omega)
  generalize zx_ s 8 0 200=p at*
  obtain⟨n0,a2,e2⟩:=p
  simp only at r2 m2 hr ⊢
  obtain⟨n,rfl⟩: ∃n:Nat,n0=(n:Int):=⟨n0.toNat,by omega⟩
  rw[Int.toNat_natCast] at hr
  refine kn ?_
  refine ko @qa_ ?_
  refine Cw.loopG (G:=ODiG) [30,31,34,35,32,33,9] (fun g=> [(9,vi g.k)]) (fun g=> [(br,rrO s g.q.1 g.q.2)]) (fun g=>g.k≤16∧g.q.1≤s.length∧k3_ s 200 16 (a2,e2)=k3_ s 200 (16 - g.k) g.q) (fun g=>16 - g.k) ⟨0,(a2,e2)⟩ rfl rfl ?_ ?_
  ·exact⟨Nat.zero_le _,r2.2,rfl⟩
  intro g j hg
  refine kv ?_
  obtain⟨k,q⟩:=g
  simp only at hg ⊢
  obtain⟨hk,hq,hf⟩:=hg
  by_cases hlt:k<16
  ·have d2:decide ((k:Int)<16)=true:=decide_eq_true (by omega)
   have hf2:k3_ s 200 (16 - k) q=k3_ s 200 (16 - (k+1)) (zx_ s q.1 q.2 200).2:=by
    rw[show 16 - k=(16 - (k+1))+1 by omega];rfl
   first|with_reducible refine ks [] (And.intro @qa_ @d2) ?_|refine kp (And.intro @qa_ @d2) ?_
   refine Ow.callM rfl rfl Tryz.call94 (by simp[keys]) (fun w' hw'=>z0_ br s q.1 q.2 200 w' hq (by omega) (hw'.has _ _ List.mem_cons_self)) ?_
   refine kn ?_
   refine ko @qa_ ?_
   exact Again.mk ⟨k+1,(zx_ s q.1 q.2 200).2⟩ (by show 16 - (k+1)<16 - k;omega) ⟨hlt,(qx_ hq).2,hf.trans hf2⟩ rfl rfl
  obtain rfl:k=16:=by omega
  have d2:decide (((16:Nat):Int)<16)=false:=rfl
  have hf3:k3_ s 200 16 (a2,e2)=q:=hf
  rw[hf3] at hr
  clear hf hf3 r2
  first|with_reducible refine ks [] (And.intro @qa_ @d2) ?_|refine kp (And.intro @qa_ @d2) ?_
  refine Cw.permL (M:=(br,rrO s q.1 q.2):: ([]++ [])) (List.Perm.refl _) ?_
  obtain⟨q0,hq0⟩: ∃q0,q0=q:=⟨q,rfl⟩
  rw[←hq0] at hr
  refine Cw.loopG (G:=ODrG) [36,37,38,41,12,42,43,44,45,46,47,48,49,50,51,52,53,54,10,39,40,11] (fun g=> [(10,g.v),(11,vi g.l.length)]) (fun g=>(br,rrO s g.q.1 g.q.2):: (g.D1++g.DG)) (fun g=>g.l.length≤n∧g.q.1≤s.length∧New w.heap.size g.D1∧New w.heap.size g.DG∧Gr g.D1 155 34 g.v g.l.length (g.l.map rwC).flatten∧xi_ s n q0=(g.l++ (xi_ s (n - g.l.length) g.q).1,(xi_ s (n - g.l.length) g.q).2)) (fun g=>n - g.l.length) ⟨[],q, .slice none 0 0,[],[]⟩ rfl rfl ?_ ?_
  ·exact⟨Nat.zero_le _,hq,trivial,trivial,Gr.nl,by rw[hq0];rfl⟩
  intro g j hg
  refine kv ?_
  obtain⟨l,qq,v,D1,DG⟩:=g
  simp only at hg ⊢
  obtain⟨hln,hqq,hN1,hNG,hG1,hrr⟩:=hg
  by_cases hlt:l.length<n
  ·have d3:decide ((l.length:Int)< (n:Int))=true:=decide_eq_true (by omega)
   obtain⟨a,e⟩:=qq
   have hpr:xi_ s n q0=(l++ [(wx_ s a e).1]++ (xi_ s (n - (l++ [(wx_ s a e).1]).length) (wx_ s a e).2).1,(xi_ s (n - (l++ [(wx_ s a e).1]).length) (wx_ s a e).2).2):=by
    rw[hrr,show n - l.length=(n - (l++ [(wx_ s a e).1]).length)+1 by simp;omega]
    generalize n - (l++ [(wx_ s a e).1]).length=m
    show(l++ ((wx_ s a e).1:: (xi_ s m (wx_ s a e).2).1),(xi_ s m (wx_ s a e).2).2)=_
    rw[List.append_assoc];rfl
   have hrow:wx_ s a e=(⟨vv_ (idR s a e).1,(zx_ s (idR s a e).2.1 (idR s a e).2.2 1099511627775).1,(wF_ s (zx_ s (idR s a e).2.1 (idR s a e).2.2 1099511627775).2).1⟩,(wF_ s (zx_ s (idR s a e).2.1 (idR s a e).2.2 1099511627775).2).2):=rfl
   first|with_reducible refine ks [] (And.intro @qa_ @d3) ?_|refine kp (And.intro @qa_ @d3) ?_
   refine Ow.build (.agg (rwC rw0).toArray) rfl brz ?_
   refine ko @qa_ ?_
   refine Ow.alloc rfl rfl zrRx fun b10 hb10 hw10=> ?_
   simp only[zg_,List.nil_append,List.cons_append]
   have h10:br<b10:=zs_ hb10 (by simp[keys])
   refine Ow.permL (M:=(b10, .cells (rwC rw0).toArray 155 (0,0)):: (br,rrO s a e):: (D1++DG)) (by classical exact List.perm_iff_count.2 fun a=>by simp only[List.count_append,List.count_cons,List.count_nil]<;>omega) ?_
   refine ko @qa_ ?_
   first|with_reducible refine ks [] @qa_ ?_|refine kp @qa_ ?_
   refine Ow.callM rfl rfl Tryz.call97 (by simp[keys]) (fun w' hw'=>Q6_ br s a e w' hqq (by omega) (hw'.has _ _ (List.mem_cons_of_mem _ List.mem_cons_self))) ?_
   obtain⟨i,hi⟩: ∃i,i=vv_ (idR s a e).1:=⟨_,rfl⟩
   have hil: (idR s a e).1=i.l:=by rw[hi];exact(QA_ (Vr_ s a e)).symm
   have hle1:=KC_ (e:=e) hqq
   rw[←hi] at hrow
   generalize idR s a e=p at*
   obtain⟨p1,a3,e3⟩:=p
   simp only at hil hrow hle1 ⊢
   subst hil
   clear hi
   refine kn ?_
   refine ko @qa_ ?_
   first|with_reducible refine ks [] @qa_ ?_|refine kp @qa_ ?_
   refine Ow.callM rfl rfl Tryz.call94 (by simp[keys]) (fun w' hw'=>z0_ br s a3 e3 1099511627775 w' hle1 (by omega) (hw'.has _ _ (List.mem_cons_of_mem _ List.mem_cons_self))) ?_
   have hle2:=(qx_ (e:=e3) (most:=1099511627775) hle1).2
   generalize zx_ s a3 e3 1099511627775=p at*
   obtain⟨x1,a4,e4⟩:=p
   simp only at hrow hle2 ⊢
   refine kn ?_
   refine ko @qa_ ?_
   first|with_reducible refine ks [] @qa_ ?_|refine kp @qa_ ?_
   refine Ow.callM rfl rfl Tryz.call94 (by simp[keys]) (fun w' hw'=>z0_ br s a4 e4 1099511627775 w' hle2 (by omega) (hw'.has _ _ (List.mem_cons_of_mem _ List.mem_cons_self))) ?_
   have hle3:=(qx_ (e:=e4) (most:=1099511627775) hle2).2
   have hrow2:wx_ s a e=(⟨i,x1,(zx_ s a4 e4 1099511627775).1⟩,(zx_ s a4 e4 1099511627775).2):=hrow
   clear hrow
   generalize zx_ s a4 e4 1099511627775=p at*
   obtain⟨x2,a5,e5⟩:=p
   simp only at hrow2 hle3 ⊢
   rw[hrow2] at hpr
   simp only at hpr
   refine kn ?_
   refine ko @qa_ ?_
   first|with_reducible refine ks [] @qa_ ?_|refine kp @qa_ ?_
   generalize (RwL.mk i x1 x2)=r at*
   refine Ow.buildSlice (e:=155) (rwC r).toArray rfl rfl (q8_ Tryz.underlying151 al3_ zrRx (by decide) (zT_ _)) fun ba hba hwa=> ?_
   refine ko @qa_ ?_
   refine Ow.permL (M:=D1++ ((b10, .cells (rwC r).toArray 155 (0,0)):: (br,rrO s a5 e5):: (DG++ [(ba, .cells (rwC r).toArray 155 (0,0))]))) (by classical exact List.perm_iff_count.2 fun a=>by simp only[List.count_append,List.count_cons,List.count_nil]<;>omega) ?_
   refine Ow.appendXG (e:=155) (k:=1) (new:=rwC r) (X:=D1) v rfl rfl rfl rfl Tryz.underlying151 al3_ (by kernel_rfl) zrRx (by rw[qB_,List.size_toArray,zT_]) Tryz.underlying151 (by intro k h;cases h) hG1 (fun w' hw'=>AppX.one1 (hw'.has ba (.cells (rwC r).toArray 155 (0,0)) (by simp)) (zT_ _) (JJ_ _)) (by omega) (fun B4 v4 D4 hA4 hB4 hG4 hk41 hk42 hlk4=> ?_)
   have hN4:New w.heap.size D4:=New.of_le fun q hq=>by
    rcases hk42 q hq with h|h
    ·exact hN1.le q h
    ·omega
   refine Ow.permL (M:=(br,rrO s a5 e5):: (D4++ ((b10, .cells (rwC r).toArray 155 (0,0)):: (DG++ [(ba, .cells (rwC r).toArray 155 (0,0))])))) (by classical exact List.perm_iff_count.2 fun a=>by simp only[List.count_append,List.count_cons,List.count_nil]<;>omega) ?_
   refine ko @qa_ ?_
   have hl1: (l++ [r]).length=l.length+1:=by simp
   refine Again.mk ⟨l++ [r],(a5,e5),v4,D4,(b10, .cells (rwC r).toArray 155 (0,0)):: (DG++ [(ba, .cells (rwC r).toArray 155 (0,0))])⟩ (by show n - (l++ [r]).length<n - l.length;omega) ⟨by show(l++ [r]).length≤n;omega,hle3,hN4,⟨hw10,hNG.app ⟨hwa,trivial⟩⟩,by simpa using hG4,hpr⟩ rfl (by simp only[hl1];rfl)
  ·obtain rfl:n=l.length:=by omega
   have d3:decide ((l.length:Int)< (l.length:Int))=false:=decide_eq_false (by omega)
   rw[Nat.sub_self] at hrr
   rw[hrr] at hr
   simp only[xi_,List.append_nil,Prod.mk.injEq] at hr
   obtain⟨hrs,hrl,hq5⟩:=hr
   have hqa:ra=qq.1:=congrArg Prod.fst hq5
   have hqe:re=qq.2:=congrArg Prod.snd hq5
   rw[hrs,hrl,hqa,hqe]
   clear hrs hrl hqa hqe hq5 hrr
   have hNr:New w.heap.size ((br,rrO s qq.1 qq.2):: (D1++DG)):=⟨hwr,hN1.app hNG⟩
   have hss: (s.drop 4).take 4=(s.take 8).drop 4:=by rw[List.drop_take]
   have hsl: ((s.take 8).drop 4).length<1000000:=by rw[List.length_drop,List.length_take];omega
   first|with_reducible refine ks [] (And.intro @qa_ @d3) ?_|refine kp (And.intro @qa_ @d3) ?_
   refine Ow.callFV rfl Tryz.call98 (fun w' hw'=>Qk_ br s qq.1 qq.2 w' (hw'.has _ _ List.mem_cons_self)) ?_
   by_cases he:vU_ s qq.1 qq.2=0
   ·have e1': (vU_ s qq.1 qq.2 !=0)=false:=by rw[he];rfl
    refine ko (And.intro @qa_ (And.intro @e1' (@hss))) ?_
    refine Ow.callFV rfl Tryz.call140 (fun w' hw'=>abI_ ((s.take 8).drop 4) v l w' ((Gr.i hG1 (fun c hc=>by simp[hc])).slV hw' rfl rfl zT_)) ?_
    cases hri:qF_ ((s.take 8).drop 4) l with
    |false=>
     rw[if_neg (by simp)]
     refine ko @qa_ ?_
     first|with_reducible refine ks [] @qa_ ?_|refine kp @qa_ ?_
     refine⟨_,(ke @qa_), ?_⟩
     exact⟨Ext.of_new hNr,rfl⟩
    |true=>
     refine ko (And.intro @qa_ @hss) ?_
     refine Ow.callFV rfl Tryz.call141 (fun w' hw'=>acC_ ((s.take 8).drop 4) v l w' ((Gr.i hG1 (fun c hc=>by simp[hc])).slV hw' rfl rfl zT_) (by omega) hsl) ?_
     by_cases hbb:z5_ (vu_ ((s.take 8).drop 4) l)=b
     ·have d5: (z5_ (vu_ ((s.take 8).drop 4) l) !=b)=false:=bne_eq_false_iff_eq.2 hbb
      rw[if_pos ⟨rfl,by omega,he,rfl,hbb⟩]
      refine ko (And.intro @qa_ @d5) ?_
      first|with_reducible refine ks [] (And.intro @qa_ @hss) ?_|refine kp (And.intro @qa_ @hss) ?_
      refine⟨_,(ke @qa_), ?_⟩
      exact⟨Ext.of_new hNr,v,rfl,Gr.i hG1 (fun c hc=>by simp[hc])⟩
     ·have d5: (z5_ (vu_ ((s.take 8).drop 4) l) !=b)=true:=bne_iff_ne.2 hbb
      rw[if_neg (fun h=>hbb h.2.2.2.2)]
      refine ko (And.intro @qa_ @d5) ?_
      first|with_reducible refine ks [] @qa_ ?_|refine kp @qa_ ?_
      refine⟨_,(ke @qa_), ?_⟩
      exact⟨Ext.of_new hNr,rfl⟩
   ·have e1': (vU_ s qq.1 qq.2 !=0)=true:=bne_iff_ne.2 he
    rw[if_neg (fun h=>he h.2.2.1)]
    refine ko (And.intro @qa_ @e1') ?_
    first|with_reducible refine ks [] @qa_ ?_|refine kp @qa_ ?_
    refine⟨_,(ke @qa_), ?_⟩
    exact⟨Ext.of_new hNr,rfl⟩
end Go.Proofs
end
section
open Go Go.Proofs Go.Sx Go.StP Go.Flo
namespace Go.Proofs
set_option maxRecDepth 10000
set_option maxHeartbeats 1000000
set_option linter.unusedSimpArgs false
def apP_:Value:= .slice none 0 0
def OfZ (Z:List ShL) (v:Value) (D:zc_):Prop:= ∃L,(zC_ (Z.map ShL.name) []=true→ ∀q,jN_ Z Z.length=some q→wm_ ((qD_ q q.length).map Prod.snd) L)∧
 ((∃q x0 x1 x2,jN_ Z Z.length=some q∧zC_ (Z.map ShL.name) []=true∧zC_ (Z.map ShL.name) L=true∧v= .tuple #[x0,x1,x2,vi 0]∧GrI D 9 1 x0 Z.length ((Z.map ShL.name).map kU_).flatten∧GrI D 9 1 x1 Z.length ((q.map Prod.fst).map kU_).flatten∧GrI D 88 35 x2 L.length (L.map lnC).flatten)∨
  (∃n:Int,vr_ Z L=([],n)∧n≠0∧v= .tuple #[.slice none 0 0, .slice none 0 0, .slice none 0 0,vi n]))
theorem OfZ.mono {Z:List ShL} {v:Value} {D D':zc_} (h:OfZ Z v D) (hD: ∀p,p∈D→p∈D'):OfZ Z v D':=by
 obtain⟨L,h1,h2⟩:=h
 refine⟨L,h1, ?_⟩
 rcases h2 with⟨q,x0,x1,x2,a,b,c,d,e,f,g⟩ |h
 ·exact .inl ⟨q,x0,x1,x2,a,b,c,d,e.mono hD,f.mono hD,g.mono hD⟩
 ·exact .inr h
def OfMS (l:List ShL) (v:Value) (D:zc_):Prop:=
 if 40<l.length then v= .tuple #[.slice none 0 0, .slice none 0 0, .slice none 0 0,vi 4] else∃Z,shs_SortOf l Z∧OfZ Z v D
theorem amT_ (a b c:Value): #[a,b,c][0]? =some a:=rfl
theorem ams_ (a b c:Value): #[a,b,c][1]? =some b:=rfl
theorem al2_ (a b c:Value): #[a,b,c][2]? =some c:=rfl
structure O1G where
 k:Nat
 v:Value
 D1:zc_
 DG:zc_
structure O2G where
 q:List (List UInt8×List RwL)
 L:List LnL
 v8:Value
 vl:Value
 D2:zc_
 DG:zc_
structure O3G where
 j:Nat
 L:List LnL
 vl:Value
 DG:zc_
theorem agd_ (k:Nat) (m:MpL) (l:List RwL) {j:Nat} (h:j<l.length):jR_ k m (l.take (j+1))=vp_ k (jR_ k m (l.take j)) (l.getD j rw0):=X3_ k m l h
theorem VQ_ (q:List (List UInt8×List RwL)) (p:List UInt8×List RwL): ∀n,n≤q.length→qD_ (q++ [p]) n=qD_ q n
 |0,_=>rfl
 |n+1,h=>by
  show jR_ n (qD_ (q++ [p]) n) ((q++ [p]).getD n ([],[])).2=jR_ n (qD_ q n) (q.getD n ([],[])).2
  rw[VQ_ q p n (by omega),qQ_ _ _ (by omega)]
theorem aee_ (q:List (List UInt8×List RwL)) (p:List UInt8×List RwL):qD_ (q++ [p]) (q.length+1)=jR_ q.length (qD_ q q.length) p.2:=by
 show jR_ q.length (qD_ (q++ [p]) q.length) ((q++ [p]).getD q.length ([],[])).2=_
 rw[VQ_ q p _ (Nat.le_refl _),JY_ _ _ rfl]
set_option linter.defProp false
def qj_:=And.intro (And.intro (And.intro (@zf_) (And.intro (@ze_) (@qJ_))) (And.intro (And.intro (@wE_) (@K7_)) (And.intro (@ac6_) (@Sx.tup2_0)))) (And.intro (And.intro (And.intro (@Sx.tup2_1) (@amT_)) (And.intro (@ams_) (@al2_))) (And.intro (And.intro (@qB_) (@xF_)) (And.intro (@ke_) (@kh_))))
theorem Wv_ (v:Value) (l:List ShL) (w:World) (hv:ShSl w v l) (hl:l.length<1000000) (hs: ∀s,s∈l→s.name.length<1099511627776∧s.bytes.length<1000000):Rets Tryz.prog 33 #[v] w (XS w [] (OfMS l)):=by
 have ln:=hv.len
 refine Rets.enterX Tryz.func33 rfl (rs:= [.tmp 2, .tmp 3, .tmp 4, .tmp 5]) Tryz.results33 Tryz.ntmps33 (fun p hp=>by cases hp) (by simp[keys]) ?_
 refine kf ?_
 by_cases h4:40<l.length
 ·have d1:decide ((40:Int)< (l.length:Int))=true:=decide_eq_true (by omega)
  first|with_reducible refine ks [] (And.intro @qj_ (And.intro @ln (@d1))) ?_|refine kp (And.intro @qj_ (And.intro @ln (@d1))) ?_
  refine⟨_,(ke @qj_), ?_⟩
  exact⟨Ext.refl _ _,by unfold OfMS;rw[if_pos h4];rfl⟩
 have d1:decide ((40:Int)< (l.length:Int))=false:=decide_eq_false (by omega)
 first|with_reducible refine ks [1000004] (And.intro @qj_ (And.intro @ln (@d1))) ?_|refine kp (And.intro @qj_ (And.intro @ln (@d1))) ?_
 refine Ow.callC rfl rfl Tryz.call78 (fun w' hw'=>QP_ v l w' (hv.oldN hw' trivial) hl) (fun B1 v1 D1 hA1 hB1 hN1 hS1=> ?_)
 obtain⟨Z,hZ,hG⟩:=hS1
 have hD1:New w.heap.size D1:=hN1.mono hB1
 have hZl:Z.length=l.length:=hZ.1
 rw[List.nil_append]
 refine ko @qj_ ?_
 refine Cw.rebaseX (S1:=OfZ Z) (by rfl) (fun w1 hw1=> ?_) (fun v' D' hD' hv'=> ?_)
 ·have hZ1:ShSl w1 v1 Z:=hG.slV hw1 hZl rfl zF_
  have hmem: ∀x,x∈Z→x∈l:=fun x hx=>(StP.St.mem hZ.2.2 x).1 hx
  have hZs: ∀s,s∈Z→s.name.length<1099511627776∧s.bytes.length<1000000:=fun s hsm=>hs s (hmem s hsm)
  have hZ40:Z.length≤40:=by omega
  clear hw1 hG hv ln hs hmem hD1 hN1 d1
  have lnz:=hZ1.len
  obtain⟨rb,off,arr,E,fz,hzr⟩:=hZ1.row
  first|with_reducible refine ks [] @qj_ ?_|refine kp @qj_ ?_
  refine Cw.loopG (G:=O1G) [21,22,23,24,27,28,29,30,31,32,33,34,7,25,26,9] (fun g=> [(7,g.v),(9,vi g.k)]) (fun g=>g.D1++g.DG) (fun g=>g.k≤Z.length∧New w1.heap.size g.D1∧New w1.heap.size g.DG∧Gr g.D1 9 1 g.v g.k (((Z.take g.k).map ShL.name).map kU_).flatten) (fun g=>Z.length - g.k) ⟨0, .slice none 0 0,[],[]⟩ rfl rfl ?_ ?_
  ·exact⟨Nat.zero_le _,trivial,trivial,Gr.nl⟩
  intro g j hg
  refine kv ?_
  obtain⟨k,v0,D1,DG⟩:=g
  simp only at hg ⊢
  obtain⟨hk,hN1,hNG,hG1⟩:=hg
  by_cases hlt:k<Z.length
  ·have d2:decide ((k:Int)< (Z.length:Int))=true:=decide_eq_true (by omega)
   have ixz:=hzr.idx true k hlt
   have ldz: ∀n,zp_ (some (false,n)) (some (.cells arr E fz)) (off+k*2)=some (vs (Z.getD k sh0).name):=fun n=>QT_ hzr hlt n
   have hzb:=hzr.lt (by omega)
   have rdz:zv_ w1 (D1++DG) rb=some (.cells arr E fz):=by rw[z8_ ((hN1.app hNG).not hzb)];exact hzr.has (by omega)
   have hts: (Z.take (k+1)).map ShL.name=(Z.take k).map ShL.name++ [(Z.getD k sh0).name]:=by
    rw[StP.take_snoc (z:=sh0) hlt,List.map_append];rfl
   generalize Z.getD k sh0=r at*
   first|with_reducible refine ks [] (And.intro @qj_ (And.intro @lnz (And.intro @d2 (And.intro @ixz (And.intro @rdz (@ldz)))))) ?_|refine kp (And.intro @qj_ (And.intro @lnz (And.intro @d2 (And.intro @ixz (And.intro @rdz (@ldz)))))) ?_
   refine Ow.buildSlice (e:=9) #[vs r.name] rfl rfl (by kernel_rfl) fun ba hba hwa=> ?_
   refine Ow.permL (M:=D1++ (DG++ [(ba, .cells #[vs r.name] 9 (0,0))])) (by classical exact List.perm_iff_count.2 fun a=>by simp only[List.count_append,List.count_cons,List.count_nil]<;>omega) ?_
   refine Ow.appendXG (e:=9) (k:=1) (new:=kU_ r.name) (X:=D1) v0 rfl rfl rfl rfl Tryz.underlying68 (id (by kernel_rfl):zP_ Tryz.prog 9=some (false,1)) (by kernel_rfl) (id (by kernel_rfl):zZ_ Tryz.prog 9=some (vs [])) rfl Tryz.underlying68 (by intro k h;cases h) hG1 (fun w' hw'=>AppX.one1 (hw'.has ba (.cells #[vs r.name] 9 (0,0)) (by simp)) rfl rfl) (by omega) (fun B4 v4 D4 hA4 hB4 hG4 hk41 hk42 hlk4=> ?_)
   have hN4:New w1.heap.size D4:=New.of_le fun q hq=>by
    rcases hk42 q hq with h|h
    ·exact hN1.le q h
    ·omega
   refine ko @qj_ ?_
   refine Again.mk ⟨k+1,v4,D4,DG++ [(ba, .cells #[vs r.name] 9 (0,0))]⟩ (by show Z.length - (k+1)<Z.length - k;omega) ⟨hlt,hN4,hNG.app ⟨hwa,trivial⟩, ?_⟩ rfl rfl
   show Gr D4 9 1 v4 (k+1) (((Z.take (k+1)).map ShL.name).map kU_).flatten
   rw[hts]
   simpa only[List.map_append,List.map_cons,List.map_nil,List.flatten_append,List.flatten_cons,List.flatten_nil,List.append_nil] using hG4
  obtain rfl:k=Z.length:=by omega
  have d2:decide ((Z.length:Int)< (Z.length:Int))=false:=decide_eq_false (by omega)
  rw[List.take_length] at hG1
  have hN:New w1.heap.size (D1++DG):=hN1.app hNG
  have hshort:aaV_ (Z.map ShL.name):=by
   intro s hs'
   obtain⟨x,hx,rfl⟩:=List.mem_map.1 hs'
   exact(hZs x hx).1
  have hGn:GrI (D1++DG) 9 1 v0 Z.length ((Z.map ShL.name).map kU_).flatten:=Gr.i hG1 fun p hp=>List.mem_append_left _ hp
  generalize D1++DG=DN at*
  clear hG1 hNG hN1
  first|with_reducible refine ks [] (And.intro @qj_ (And.intro @lnz (@d2))) ?_|refine kp (And.intro @qj_ (And.intro @lnz (@d2))) ?_
  refine Ow.callFV rfl Tryz.call79 (fun w' hw'=>vz_ v0 (.slice none 0 0) (Z.map ShL.name) [] w' (hGn.slV hw' (by rw[List.length_map]) rfl qy_) (SlV.nil w') hshort) ?_
  cases hrt:zC_ (Z.map ShL.name) [] with
  |false=>
   refine ko @qj_ ?_
   first|with_reducible refine ks [] @qj_ ?_|refine kp @qj_ ?_
   refine⟨_,(ke @qj_), ?_⟩
   refine⟨Ext.of_new hN,[],(fun h=>by rw[hrt] at h;cases h), .inr ⟨1, ?_,by decide,rfl⟩⟩
   unfold vr_
   rw[if_neg (by omega),if_pos hrt]
  |true=>
   refine ko @qj_ ?_
   first|with_reducible refine ks [] @qj_ ?_|refine kp @qj_ ?_
   refine Cw.loopG (G:=O2G) [38,39,40,41,45,46,47,48,49,50,44,51,52,53,12,13,14,54,55,2,3,4,5,56,57,58,59,8,15,60,61,62,63,66,67,68,69,70,71,72,73,74,75,76,77,78,79,80,81,82,83,84,10,64,65,42,43,11] (fun g=> [(2, .slice none 0 0),(3, .slice none 0 0),(4, .slice none 0 0),(5,vi 0),(8,g.v8),(10,g.vl),(11,vi g.q.length)]) (fun g=>g.D2++g.DG) (fun g=>g.q.length≤Z.length∧jN_ Z g.q.length=some g.q∧New w1.heap.size g.D2∧New w1.heap.size g.DG∧Gr g.D2 9 1 g.v8 g.q.length ((g.q.map Prod.fst).map kU_).flatten∧GrI g.DG 9 1 v0 Z.length ((Z.map ShL.name).map kU_).flatten∧GrI g.DG 88 35 g.vl g.L.length (g.L.map lnC).flatten∧wm_ ((qD_ g.q g.q.length).map Prod.snd) g.L) (fun g=>Z.length - g.q.length) ⟨[],[], .slice none 0 0, .slice none 0 0,[],DN⟩ rfl rfl ?_ ?_
   ·exact⟨Nat.zero_le _,rfl,trivial,hN,Gr.nl,hGn,(Gr.nl (L:= [])).i fun q hq=>(by cases hq),List.Perm.nil,List.Pairwise.nil⟩
   intro g j hg
   refine kv ?_
   clear hGn hN
   obtain⟨q,L,v8,vl,D2,DG⟩:=g
   simp only at hg ⊢
   obtain⟨hq,hop,hN2,hNG,hG2,hGn,hGl,hSL⟩:=hg
   have hN:=hN2.app hNG
   have hq200:=Zc_ hop
   have hLl:L.length≤q.length*10000:=by
    have h1:=hSL.1.length_eq
    have h2:=vP_ q (fun p hp=>by have:=(hq200 p hp).1;omega) q.length (Nat.le_refl _)
    rw[List.length_map] at h1;omega
   by_cases hlt:q.length<Z.length
   ·have d3:decide ((q.length:Int)< (Z.length:Int))=true:=decide_eq_true (by omega)
    have ixz:=hzr.idx true q.length hlt
    have ldz: ∀n,zp_ (some (false,n)) (some (.cells arr E fz)) (off+q.length*2+1)=some (vs (Z.getD q.length sh0).bytes):=fun n=>abo_ hzr hlt n
    have hzb:=hzr.lt (by omega)
    have rdz:zv_ w1 (D2++DG) rb=some (.cells arr E fz):=by rw[z8_ (hN.not hzb)];exact hzr.has (by omega)
    have hsb:=hZs (Z.getD q.length sh0) (by rw[List.getD_eq_getElem?_getD,List.getElem?_eq_getElem hlt];exact List.getElem_mem _)
    have hos:jN_ Z (q.length+1)=match some q,kt_ (Z.getD q.length sh0).bytes with|some q,some p=>some (q++ [p]) |_,_=>none:=by rw[←hop];rfl
    generalize Z.getD q.length sh0=r at*
    first|with_reducible refine ks [] (And.intro @qj_ (And.intro @lnz (And.intro @d3 (And.intro @ixz (And.intro @rdz (@ldz)))))) ?_|refine kp (And.intro @qj_ (And.intro @lnz (And.intro @d3 (And.intro @ixz (And.intro @rdz (@ldz)))))) ?_
    refine Ow.callC rfl rfl Tryz.call80 (fun w' hw'=>VX_ r.bytes w' hsb.2) (fun B1 vq Dq hAq hBq hNq hSq=> ?_)
    have hNq':=hNq.mono hBq
    unfold age_ at hSq
    cases hoi:kt_ r.bytes with
    |none=>
     rw[hoi] at hSq hos
     subst hSq
     have hfin:jN_ Z Z.length=none:=ZH_ hos (by omega)
     refine ko @qj_ ?_
     first|with_reducible refine ks [] @qj_ ?_|refine kp @qj_ ?_
     refine⟨_,(ke @qj_), ?_⟩
     refine⟨Ext.of_new (hN.app hNq'),[],(fun h q1 hq1=>by rw[hfin] at hq1;cases hq1), .inr ⟨2, ?_,by decide,rfl⟩⟩
     unfold vr_
     rw[if_neg (by omega),if_neg (by rw[hrt];simp),hfin]
    |some p=>
     rw[hoi] at hSq hos
     obtain⟨psm,prw⟩:=p
     obtain⟨x,rfl,hR⟩:=hSq
     simp only at hR
     have h200:=aah_ hoi
     refine ko @qj_ ?_
     first|with_reducible refine ks [] @qj_ ?_|refine kp @qj_ ?_
     refine Ow.buildSlice (e:=9) #[vs psm] rfl rfl (by kernel_rfl) fun ba hba hwa=> ?_
     refine Ow.permL (M:=D2++ (DG++ (Dq++ [(ba, .cells #[vs psm] 9 (0,0))]))) (by classical exact List.perm_iff_count.2 fun a=>by simp only[List.count_append,List.count_cons,List.count_nil]<;>omega) ?_
     refine Ow.appendXG (e:=9) (k:=1) (new:=kU_ psm) (X:=D2) v8 rfl rfl rfl rfl Tryz.underlying68 (id (by kernel_rfl):zP_ Tryz.prog 9=some (false,1)) (by kernel_rfl) (id (by kernel_rfl):zZ_ Tryz.prog 9=some (vs [])) rfl Tryz.underlying68 (by intro k h;cases h) hG2 (fun w' hw'=>AppX.one1 (hw'.has ba (.cells #[vs psm] 9 (0,0)) (by simp)) rfl rfl) (by omega) (fun B5 v5 D5 hA5 hB5 hG5 hk51 hk52 hlk5=> ?_)
     have hN5:New w1.heap.size D5:=New.of_le fun q hq=>by
      rcases hk52 q hq with h|h
      ·exact hN2.le q h
      ·omega
     refine ko @qj_ ?_
     first|with_reducible refine ks [] @qj_ ?_|refine kp @qj_ ?_
     have hNG1:New w1.heap.size (DG++ (Dq++ [(ba, .cells #[vs psm] 9 (0,0))])):=hNG.app (hNq'.app ⟨hwa,trivial⟩)
     have hGn1:=hGn.mono (D':=DG++ (Dq++ [(ba, .cells #[vs psm] 9 (0,0))])) fun p hp=>List.mem_append_left _ hp
     have hGl1:=hGl.mono (D':=DG++ (Dq++ [(ba, .cells #[vs psm] 9 (0,0))])) fun p hp=>List.mem_append_left _ hp
     have hR1:=hR.mono (D':=DG++ (Dq++ [(ba, .cells #[vs psm] 9 (0,0))])) fun p hp=>List.mem_append_right _ (List.mem_append_left _ hp)
     generalize DG++ (Dq++ [(ba, .cells #[vs psm] 9 (0,0))])=DH at*
     clear hGn hGl hR hNG
     refine Cw.loopG (G:=O3G) [60,61,62,63,66,67,68,69,70,71,72,73,74,75,76,77,78,79,80,81,82,83,84,10,64,65,15] (fun p=> [(10,p.vl),(15,vi p.j)]) (fun p=>D5++p.DG) (fun p=>p.j≤prw.length∧New w1.heap.size p.DG∧GrI p.DG 9 1 v0 Z.length ((Z.map ShL.name).map kU_).flatten∧GrI p.DG 155 34 x prw.length (prw.map rwC).flatten∧GrI p.DG 88 35 p.vl p.L.length (p.L.map lnC).flatten∧wm_ ((jR_ q.length (qD_ q q.length) (prw.take p.j)).map Prod.snd) p.L) (fun p=>prw.length - p.j) ⟨0,L,vl,DH⟩ rfl rfl ?_ ?_
     ·exact⟨Nat.zero_le _,hNG1,hGn1,hR1,hGl1,hSL⟩
     intro p jp hp
     refine kv ?_
     clear hGn1 hGl1 hR1 hNG1 hSL
     obtain⟨j,L2,vl2,DI⟩:=p
     simp only at hp ⊢
     obtain⟨hj,hNI,hGn,hR,hGl,hSL⟩:=hp
     have hN:=hN5.app hNI
     have lnx:=aaG_ hR
     have hL2:L2.length≤500000:=by
      have h1:=hSL.1.length_eq
      have h2:=Jz_ q.length (prw.take j) (qD_ q q.length)
      have h3:=vP_ q (fun p hp=>by have:=(hq200 p hp).1;omega) q.length (Nat.le_refl _)
      rw[List.length_map] at h1
      rw[List.length_take] at h2
      omega
     by_cases hjl:j<prw.length
     ·have d4:decide ((j:Int)< (prw.length:Int))=true:=decide_eq_true (by omega)
      refine Cw.world fun w2 hw2=> ?_
      obtain⟨xb,xoff,xarr,xE,xfz,hxr,hlk⟩:=(hR.mono (D':=D5++DI) fun p hp=>List.mem_append_right _ hp).rowL (z:=rw0) rfl hw2 zT_
      have rdx:zv_ w1 (D5++DI) xb=some (.cells xarr xE xfz):=by unfold zv_;rw[hlk (by omega)]
      have ixx:=hxr.idx true j hjl
      have ld0:=abe_ hxr hjl
      rw[Nat.add_zero] at ld0
      have ld1:=agQ_ hxr hjl
      have ld2:=ahk_ hxr hjl
      have hsn:=agd_ q.length (qD_ q q.length) prw hjl
      clear hxr hlk hw2
      generalize prw.getD j rw0=r at*
      first|with_reducible refine ks [] (And.intro @qj_ (And.intro @lnx (@d4))) ?_|refine kp (And.intro @qj_ (And.intro @lnx (@d4))) ?_
      refine Cw.regionO [0,1,2,3,4,6,7,8,9,10,12,13,14,15,5,11,16,17,18,19] [18] rfl (by kernel_rfl) (by kernel_rfl) ?_
      simp only[zh_, ↓zd_, ↓zb_, ↓zl_, ↓zm_,za_]
      refine kq (And.intro @qj_ (And.intro @ixx (And.intro @rdx (And.intro @ld0 (And.intro @ld1 (@ld2)))))) ?_
      refine Ow.build (.agg (lnC ⟨r.id,(q.length:Int),r.place,r.spot⟩).toArray) rfl (ajm_ ⟨r.id,(q.length:Int),r.place,r.spot⟩) ?_
      refine kq @qj_ ?_
      refine Ow.callC rfl rfl Tryz.call81 (fun w' hw'=>aem_ vl2 L2 ⟨r.id,(q.length:Int),r.place,r.spot⟩ w' ((hGl.mono (D':=D5++DI) fun p hp=>List.mem_append_right _ hp).slV hw' rfl rfl zq_) (by omega)) (fun B6 v6 D6 hA6 hB6 hN6 hS6=> ?_)
      obtain⟨Z6,hP6,hV6⟩:=hS6
      have hN6':=hN6.mono hB6
      have hS7:=ajs_ (Z1_ q.length (prw.take j) _ (ZM_ q q.length)) hSL hP6
      rw[←hsn] at hS7
      have hG7:GrI (DI++D6) 88 35 v6 Z6.length (Z6.map lnC).flatten:=by
       rcases hV6 with⟨rfl,rfl⟩ |h
       ·exact hGl.mono fun p hp=>List.mem_append_left _ hp
       ·exact h.mono fun p hp=>List.mem_append_right _ hp
      refine kq @qj_ ?_
      try with_reducible refine Ow.nil ?_
      first|with_reducible refine ks [] @qj_ ?_|refine kp @qj_ ?_
      exact Again.mk ⟨j+1,Z6,v6,DI++D6⟩ (by show prw.length - (j+1)<prw.length - j;omega) ⟨hjl,hNI.app hN6',hGn.mono fun p hp=>List.mem_append_left _ hp,hR.mono fun p hp=>List.mem_append_left _ hp,hG7,hS7⟩ (List.append_assoc _ _ _) rfl
     ·obtain rfl:j=prw.length:=by omega
      have d4:decide ((prw.length:Int)< (prw.length:Int))=false:=decide_eq_false (by omega)
      rw[List.take_length] at hSL
      first|with_reducible refine ks [] (And.intro @qj_ (And.intro @lnx (@d4))) ?_|refine kp (And.intro @qj_ (And.intro @lnx (@d4))) ?_
      have hlt2: (q++ [(psm,prw)]).length=q.length+1:=by simp
      have hqs:jN_ Z (q++ [(psm,prw)]).length=some (q++ [(psm,prw)]):=by rw[List.length_append];exact hos
      refine Again.mk ⟨q++ [(psm,prw)],L2,v5,vl2,D5,DI⟩ (by show Z.length - (q++ [(psm,prw)]).length<Z.length - q.length;omega) ⟨by show(q++ [(psm,prw)]).length≤Z.length;omega,hqs,hN5,hNI, ?_,hGn,hGl, ?_⟩ rfl (by simp only[hlt2];rfl)
      ·show Gr D5 9 1 v5 (q++ [(psm,prw)]).length (((q++ [(psm,prw)]).map Prod.fst).map kU_).flatten
       rw[hlt2]
       simpa only[List.map_append,List.map_cons,List.map_nil,List.flatten_append,List.flatten_cons,List.flatten_nil,List.append_nil] using hG5
      ·show wm_ ((qD_ (q++ [(psm,prw)]) (q++ [(psm,prw)]).length).map Prod.snd) L2
       rw[hlt2,aee_];exact hSL
   ·have hql:q.length=Z.length:=by omega
    have d3:decide ((q.length:Int)< (Z.length:Int))=false:=decide_eq_false (by omega)
    rw[hql] at hop
    have hfin:zC_ (Z.map ShL.name) []=true→ ∀q',jN_ Z Z.length=some q'→wm_ ((qD_ q' q'.length).map Prod.snd) L:=fun _ q' hq'=>by
     rw[hop] at hq';cases hq';exact hSL
    first|with_reducible refine ks [] (And.intro @qj_ (And.intro @lnz (@d3))) ?_|refine kp (And.intro @qj_ (And.intro @lnz (@d3))) ?_
    refine Ow.callFV rfl Tryz.call79 (fun w' hw'=>vz_ v0 vl (Z.map ShL.name) L w' ((hGn.mono (D':=D2++DG) fun p hp=>List.mem_append_right _ hp).slV hw' (by rw[List.length_map]) rfl qy_) ((hGl.mono (D':=D2++DG) fun p hp=>List.mem_append_right _ hp).slV hw' rfl rfl zq_) hshort) ?_
    cases hr2:zC_ (Z.map ShL.name) L with
    |false=>
     refine ko @qj_ ?_
     first|with_reducible refine ks [] @qj_ ?_|refine kp @qj_ ?_
     refine⟨_,(ke @qj_), ?_⟩
     refine⟨Ext.of_new hN,L,hfin, .inr ⟨4, ?_,by decide,rfl⟩⟩
     unfold vr_
     rw[if_neg (by omega),if_neg (by rw[hrt];simp),hop]
     simp only
     rw[if_pos hr2]
    |true=>
     refine ko @qj_ ?_
     first|with_reducible refine ks [] @qj_ ?_|refine kp @qj_ ?_
     refine⟨_,(ke @qj_), ?_⟩
     rw[hql] at hG2
     exact⟨Ext.of_new hN,L,hfin, .inl ⟨q,_,_,_,hop,hrt,hr2,rfl,hGn.mono fun p hp=>List.mem_append_right _ hp,Gr.i hG2 fun p hp=>List.mem_append_left _ hp,hGl.mono fun p hp=>List.mem_append_right _ hp⟩⟩
 ·show XS w [] (OfMS l) v' (D1++D')
  refine⟨Ext.of_new (hD1.app hD'), ?_⟩
  unfold OfMS
  rw[if_neg h4]
  exact⟨Z,hZ,hv'.mono fun p hp=>List.mem_append_right _ hp⟩
end Go.Proofs
end
section
open Go Go.Proofs Go.Sx Go.StP Go.Flo
namespace Go.Proofs
set_option maxRecDepth 10000
set_option maxHeartbeats 1000000
set_option linter.unusedSimpArgs false
theorem aiL_ {l:List ShL} {s:ShL} (h:s∈l):s.bytes.length+s.name.length≤Wa_ l:=by
 unfold Wa_
 induction l with
 |nil=>cases h
 |cons a r ih=>
  rw[List.map_cons,List.sum_cons]
  rcases List.mem_cons.1 h with rfl|h
  ·omega
  ·have:=ih h;omega
theorem aeD_ {Z:List ShL} {L L':List LnL} (h:zC_ (Z.map ShL.name) []=true→ ∀q,jN_ Z Z.length=some q→wm_ ((qD_ q q.length).map Prod.snd) L)
  (h':zC_ (Z.map ShL.name) []=true→ ∀q,jN_ Z Z.length=some q→wm_ ((qD_ q q.length).map Prod.snd) L'):vr_ Z L=vr_ Z L':=by
 unfold vr_
 by_cases h1:40<Z.length
 ·rw[if_pos h1,if_pos h1]
 ·rw[if_neg h1,if_neg h1]
  cases h2:zC_ (Z.map ShL.name) [] with
  |false=>rw[if_pos rfl,if_pos rfl]
  |true=>
   rw[if_neg (by simp),if_neg (by simp)]
   cases hq:jN_ Z Z.length with
   |none=>simp only
   |some q=>rw[aiG_ (h h2 q hq) (h' h2 q hq)]
theorem amB_ (a b c d:Value): #[a,b,c,d][0]? =some a:=rfl
theorem amJ_ (a b c d:Value): #[a,b,c,d][1]? =some b:=rfl
theorem alH_ (a b c d:Value): #[a,b,c,d][2]? =some c:=rfl
theorem amy_ (a b c d:Value): #[a,b,c,d][3]? =some d:=rfl
set_option linter.defProp false
def qG_:=And.intro (And.intro (And.intro (@zf_) (@ze_)) (And.intro (@Sx.tup2_0) (@Sx.tup2_1))) (And.intro (And.intro (@amB_) (@amJ_)) (And.intro (@alH_) (@amy_)))
theorem QS_ (v:Value) (l:List ShL) (w:World) (hC:GlobC w) (hv:ShSl w v l) (hb:BndS l):Rets Tryz.prog 7 #[v] w (fun v D=>v= .bool true∧D= []):=by
 have ln:=hv.len
 refine Rets.enterV Tryz.func7 rfl (rs:= [.tmp 2]) Tryz.results7 Tryz.ntmps7 ?_
 refine kf ?_
 first|with_reducible refine ks [] @qG_ ?_|refine kp @qG_ ?_
 refine Ow.callFV rfl Tryz.call30 (fun w' hw'=>qL_ w' (hC.newP hw' trivial)) ?_
 refine ko @qG_ ?_
 first|with_reducible refine ks [] @qG_ ?_|refine kp @qG_ ?_
 refine Ow.callFV rfl Tryz.call31 (fun w' hw'=>WA_ v l w' (hv.oldN hw' trivial) hb) ?_
 cases hgr:grtS l with
 |true=>
  refine ko @qG_ ?_
  first|with_reducible refine ks [] @qG_ ?_|refine kp @qG_ ?_
  refine Ow.callFV rfl Tryz.call30 (fun w' hw'=>qL_ w' (hC.newP hw' trivial)) ?_
  refine ko @qG_ ?_
  first|with_reducible refine ks [] @qG_ ?_|refine kp @qG_ ?_
  refine⟨_,(ke @qG_),trivial, ?_⟩
  rfl
 |false=>
  have hg45:l.length≤45∧Wa_ l≤20000:=by
   unfold grtS at hgr
   rw[Bool.or_eq_false_iff,decide_eq_false_iff_not,decide_eq_false_iff_not] at hgr
   omega
  have hs: ∀s,s∈l→s.name.length<1099511627776∧s.bytes.length<1000000:=fun s hs=>by
   have:=aiL_ hs
   omega
  refine ko @qG_ ?_
  first|with_reducible refine ks [] @qG_ ?_|refine kp @qG_ ?_
  refine Ow.callC rfl rfl Tryz.call32 (fun w' hw'=>Rets.toX (Kg_ v l w' (hC.newP hw' trivial) (hv.oldN hw' trivial) (by omega) hb)) (fun B1 va Da hAa hBa hNa' hSa=> ?_)
  obtain⟨rfl,hSa⟩:=hSa
  rw[List.append_nil]
  unfold Qo_ at hSa
  have z1: (([]:List UInt8)== [])=true:=rfl
  have z0: ((0:Int)==0)=true:=rfl
  by_cases h4:40<l.length
  ·rw[if_pos h4] at hSa
   subst hSa
   refine ko @qG_ ?_
   first|with_reducible refine ks [] @qG_ ?_|refine kp @qG_ ?_
   refine Ow.callC rfl rfl Tryz.call34 (fun w' hw'=>JW_ v l w' (hv.oldN hw' trivial) (by omega)) (fun B2 v2 D2 hA2 hB2 hN2 hS2=> ?_)
   have hD2:New w.heap.size D2:=hN2.mono hB2
   rw[List.nil_append]
   refine ko @qG_ ?_
   refine Ow.callC rfl rfl Tryz.call33 (fun w' hw'=>Wv_ v2 l w' (hS2.slV hw' rfl rfl zF_) (by omega) hs) (fun B3 v3 D3 hA3 hB3 hN3 hS3=> ?_)
   have hD3:=hD2.app (hN3.mono hB3)
   unfold OfMS at hS3
   rw[if_pos h4] at hS3
   subst hS3
   have e4: ((4:Int) !=0)=true:=rfl
   have e5: ((4:Int)==4)=true:=rfl
   refine ko @qG_ ?_
   first|with_reducible refine ks [] (And.intro @qG_ @e4) ?_|refine kp (And.intro @qG_ @e4) ?_
   refine Ow.callFV rfl Tryz.call30 (fun w' hw'=>qL_ w' (hC.newP hw' hD3)) ?_
   refine ko (And.intro @qG_ (And.intro @z1 (@e5))) ?_
   first|with_reducible refine ks [] @qG_ ?_|refine kp @qG_ ?_
   refine⟨_,(ke @qG_),hD3, ?_⟩
   rfl
  ·rw[if_neg h4] at hSa
   obtain⟨Z,L,hZ,hL,rfl⟩:=hSa
   refine ko @qG_ ?_
   first|with_reducible refine ks [] @qG_ ?_|refine kp @qG_ ?_
   refine Ow.callC rfl rfl Tryz.call34 (fun w' hw'=>JW_ v l w' (hv.oldN hw' trivial) (by omega)) (fun B2 v2 D2 hA2 hB2 hN2 hS2=> ?_)
   have hD2:New w.heap.size D2:=hN2.mono hB2
   rw[List.nil_append]
   refine ko @qG_ ?_
   refine Ow.callC rfl rfl Tryz.call33 (fun w' hw'=>Wv_ v2 l w' (hS2.slV hw' rfl rfl zF_) (by omega) hs) (fun B3 v3 D3 hA3 hB3 hN3 hS3=> ?_)
   have hD3:=hD2.app (hN3.mono hB3)
   unfold OfMS at hS3
   rw[if_neg h4] at hS3
   obtain⟨Z',hZ',L',hL',hS3⟩:=hS3
   obtain rfl:=hZ.eq hZ'
   rw[aeD_ hL hL']
   rcases hS3 with⟨q,x0,x1,x2,hq,hr1,hr2,rfl,hg0,hg1,hg2⟩ | ⟨n,hmk,hn,rfl⟩
   ·have hmk:vr_ Z L'=(z5_ (xZ_ (Z.map ShL.name) (q.map Prod.fst) L'),0):=by
     have hzl:Z.length=l.length:=hZ.1
     unfold vr_
     rw[if_neg (by omega),if_neg (by rw[hr1];simp),hq]
     simp only
     rw[if_neg (by rw[hr2];simp)]
    obtain⟨a1,a2,a3,a4⟩:=Zx_ hr2
    rw[hmk]
    have e4: ((0:Int) !=0)=false:=rfl
    have hql:=Wc_ hq
    have hq4:=Zc_ hq
    have e6: (z5_ (xZ_ (Z.map ShL.name) (q.map Prod.fst) L')==z5_ (xZ_ (Z.map ShL.name) (q.map Prod.fst) L'))=true:=beq_self_eq_true _
    have hzl:Z.length=(Z.map ShL.name).length:=(List.length_map _).symm
    have hzq:Z.length=(q.map Prod.fst).length:=by rw[List.length_map,hql]
    have hm4:Most 1000 (q.map Prod.fst):=fun u hu=>by
     obtain⟨p,hp,rfl⟩:=List.mem_map.1 hu
     have:=(hq4 p hp).2;omega
    refine ko @qG_ ?_
    first|with_reducible refine ks [] (And.intro @qG_ @e4) ?_|refine kp (And.intro @qG_ @e4) ?_
    refine Ow.callFV rfl Tryz.call30 (fun w' hw'=>qL_ w' (hC.newP hw' hD3)) ?_
    refine ko (And.intro @qG_ @z0) ?_
    refine Ow.callFV rfl Tryz.call35 (fun w' hw'=>Qn_ x0 x1 x2 (Z.map ShL.name) (q.map Prod.fst) L' w' ((hg0.mono (fun p hp=>List.mem_append_right _ hp)).slV hw' hzl.symm rfl qy_) ((hg1.mono (fun p hp=>List.mem_append_right _ hp)).slV hw' hzq.symm rfl qy_) ((hg2.mono (fun p hp=>List.mem_append_right _ hp)).slV hw' rfl rfl zq_) (by rw[←hzq,hzl]) a1 a2 (a4.mono (by omega)) hm4) ?_
    refine ko (And.intro @qG_ @e6) ?_
    first|with_reducible refine ks [] @qG_ ?_|refine kp @qG_ ?_
    refine⟨_,(ke @qG_),hD3, ?_⟩
    rfl
   ·rw[hmk]
    have e4: (n !=0)=true:=bne_iff_ne.2 hn
    have e5: (n==n)=true:=beq_self_eq_true _
    refine ko @qG_ ?_
    first|with_reducible refine ks [] (And.intro @qG_ @e4) ?_|refine kp (And.intro @qG_ @e4) ?_
    refine Ow.callFV rfl Tryz.call30 (fun w' hw'=>qL_ w' (hC.newP hw' hD3)) ?_
    refine ko (And.intro @qG_ (And.intro @z1 (@e5))) ?_
    first|with_reducible refine ks [] @qG_ ?_|refine kp @qG_ ?_
    refine⟨_,(ke @qG_),hD3, ?_⟩
    rfl
end Go.Proofs
end
section
open Go Go.Proofs Go.Sx Go.StP Go.Flo
namespace Go.Proofs
set_option maxRecDepth 10000
set_option maxHeartbeats 1000000
set_option linter.unusedSimpArgs false
theorem alL_ {s:List UInt8} (h:4≤s.length):qw_ s 0 0 4=(s.take 4,4,0):=by
 unfold qw_
 rw[if_neg (by decide),if_neg (by decide),if_neg (by omega)]
 rfl
theorem aeY_ (names sums:List (List UInt8)) (lines:List LnL):4≤ (xZ_ names sums lines).length:=by
 unfold xZ_
 simp only[List.length_append,show magM.length=4 from rfl]
 omega
theorem J4_ {b s:List UInt8} {ok:Bool} (hu:zi_ b=(s,ok)) (h:ok=false∨s.length<4):Jj_ b=none:=by
 obtain⟨r,hr⟩: ∃r,vd_ s (qw_ s 0 0 4).2=r:=⟨_,rfl⟩
 obtain⟨rn,rs,rl,rq⟩:=r
 refine(QM_ (by rw[hu]) hr).2 ?_
 rintro⟨-,-,e⟩
 have h2:=kl_ (xZ_ rn rs rl)
 rw[e,hu] at h2
 have h4:=aeY_ rn rs rl
 rcases h with h|h
 ·subst h;cases congrArg Prod.snd h2
 ·have:s=xZ_ rn rs rl:=congrArg Prod.fst h2
  rw[←this] at h4;omega
def acP_ (b:List UInt8) (v:Value) (D:zc_):Prop:=match Jj_ b with
 |some q=> ∃x0 x1 x2,v= .tuple #[x0,x1,x2, .bool true]∧GrI D 9 1 x0 q.1.length (q.1.map kU_).flatten∧GrI D 9 1 x1 q.2.1.length (q.2.1.map kU_).flatten∧GrI D 88 35 x2 q.2.2.length (q.2.2.map lnC).flatten
 |none=>v= .tuple #[.slice none 0 0, .slice none 0 0, .slice none 0 0, .bool false]
structure OdG where
 l:List (List UInt8)
 u:List (List UInt8)
 q:Ps
 v0:Value
 v1:Value
 D1:zc_
 D2:zc_
 DG:zc_
structure OdL where
 l:List LnL
 q:Ps
 v:Value
 D3:zc_
 DG:zc_
set_option linter.defProp false
def zQ_:=And.intro (And.intro (And.intro (@zf_) (And.intro (@ze_) (@z3_))) (And.intro (And.intro (@xX_) (@jK_)) (And.intro (@j7_) (@xz_)))) (And.intro (And.intro (And.intro (@km_) (@js_)) (And.intro (@agC_) (@WQ_))) (And.intro (And.intro (@WH_) (@aae_)) (And.intro (@Sx.tup2_0) (@Sx.tup2_1))))
theorem Qh_ (b:List UInt8) (w:World) (hb:b.length<1000000):Rets Tryz.prog 37 #[vs b] w (XS w [] (acP_ b)):=by
 have brz:ql_ (vo_ Tryz.prog 88) (zZ_ Tryz.prog 88) []=some (.agg (lnC Go.Proofs.ln0).toArray):=by
  rw[show vo_ Tryz.prog 88=some [(0,32),(32,1),(33,1),(34,1)] from id (by kernel_rfl),Vw_];simp[ql_,Sx.fillV]
 refine Rets.enterX Tryz.func37 rfl (rs:= [.tmp 2, .tmp 3, .tmp 4, .tmp 5]) Tryz.results37 Tryz.ntmps37 (fun p hp=>by cases hp) (by simp[keys]) ?_
 refine kf ?_
 first|with_reducible refine ks [] @zQ_ ?_|refine kp @zQ_ ?_
 refine Ow.callFV rfl Tryz.call93 (fun w' hw'=>wA_ b w' (by omega)) ?_
 have hun: (zi_ b).1.length≤b.length:=kZ_ b
 unfold acP_
 obtain⟨u,hu⟩: ∃u,u=zi_ b:=⟨_,rfl⟩
 obtain⟨s,ok⟩:=u
 rw[←hu] at hun
 simp only at hun
 rw[←hu]
 cases ok with
 |false=>
  rw[J4_ hu.symm (.inl rfl)]
  refine ko @zQ_ ?_
  first|with_reducible refine ks [] @zQ_ ?_|refine kp @zQ_ ?_
  refine⟨_,(ke @zQ_), ?_⟩
  exact⟨Ext.refl _ _,rfl⟩
 |true=>
  by_cases h4:s.length<4
  ·have d1:decide ((s.length:Int)<4)=true:=decide_eq_true (by omega)
   rw[J4_ hu.symm (.inr h4)]
   refine ko (And.intro @zQ_ @d1) ?_
   first|with_reducible refine ks [] @zQ_ ?_|refine kp @zQ_ ?_
   refine⟨_,(ke @zQ_), ?_⟩
   exact⟨Ext.refl _ _,rfl⟩
  have d1:decide ((s.length:Int)<4)=false:=decide_eq_false (by omega)
  obtain⟨r,hr⟩: ∃r,vd_ s (qw_ s 0 0 4).2=r:=⟨_,rfl⟩
  obtain⟨rn,rs,rl,rq⟩:=r
  obtain⟨hyes,hno⟩:=QM_ (show(zi_ b).1=s from by rw[←hu]) hr
  rw[alL_ (by omega)] at hr
  unfold vd_ at hr
  refine ko (And.intro @zQ_ @d1) ?_
  refine Ow.build (.agg #[vs s,vi 4,vi 0]) rfl (agR_ s) ?_
  refine ko @zQ_ ?_
  refine Ow.box rfl rfl fun br hbr hwr=> ?_
  simp only[jt_,jm_,jn_,zg_,List.nil_append]
  refine Ow.permL (M:= [(br,rrO s 4 0)]) (List.Perm.refl _) ?_
  refine ko @zQ_ ?_
  refine Ow.callM rfl rfl Tryz.call94 (by simp[keys]) (fun w' hw'=>z0_ br s 4 0 40 w' (by omega) (by omega) (hw'.has _ _ List.mem_cons_self)) ?_
  have r2:=qx_ (s:=s) (a:=4) (e:=0) (most:=40) (by omega)
  have m2:=j1_ (s:=s) (a:=4) (e:=0) (most:=40) (by omega)
  have hnm:Qd_ s (4,0)=kX_ s (zx_ s 4 0 40).1.toNat (zx_ s 4 0 40).2:=rfl
  simp only at hr
  generalize zx_ s 4 0 40=p at*
  obtain⟨n0,a2,e2⟩:=p
  simp only at r2 m2 hnm ⊢
  obtain⟨n,rfl⟩: ∃n:Nat,n0=(n:Int):=⟨n0.toNat,by omega⟩
  rw[Int.toNat_natCast] at hnm
  refine kn ?_
  refine ko @zQ_ ?_
  refine Cw.permL (M:=(br,rrO s a2 e2):: ([]++ ([]++ []))) (List.Perm.refl _) ?_
  refine Cw.loopG (G:=OdG) [33,34,35,38,39,40,41,42,9,43,44,45,46,47,10,36,37,12] (fun g=> [(9,g.v0),(10,g.v1),(12,vi g.l.length)]) (fun g=>(br,rrO s g.q.1 g.q.2):: (g.D1++ (g.D2++g.DG))) (fun g=>g.l.length≤n∧g.u.length=g.l.length∧g.q.1≤s.length∧New w.heap.size g.D1∧New w.heap.size g.D2∧New w.heap.size g.DG∧Gr g.D1 9 1 g.v0 g.l.length (g.l.map kU_).flatten∧Gr g.D2 9 1 g.v1 g.u.length (g.u.map kU_).flatten∧kX_ s n (a2,e2)=(g.l++ (kX_ s (n - g.l.length) g.q).1,g.u++ (kX_ s (n - g.l.length) g.q).2.1,(kX_ s (n - g.l.length) g.q).2.2)) (fun g=>n - g.l.length) ⟨[],[],(a2,e2), .slice none 0 0, .slice none 0 0,[],[],[]⟩ rfl rfl ?_ ?_
  ·exact⟨Nat.zero_le _,rfl,r2.2,trivial,trivial,trivial,Gr.nl,Gr.nl,rfl⟩
  intro g j hg
  refine kv ?_
  obtain⟨l,u,⟨a,e⟩,v0,v1,D1,D2,DG⟩:=g
  simp only at hg ⊢
  obtain⟨hln,hul,hal,hN1,hN2,hNG,hG1,hG2,hrr⟩:=hg
  by_cases hlt:l.length<n
  ·have d2:decide ((l.length:Int)< (n:Int))=true:=decide_eq_true (by omega)
   have hpr:kX_ s n (a2,e2)=(l++ [(nmR s (a,e)).1]++ (kX_ s (n - (l++ [(nmR s (a,e)).1]).length) (nmR s (a,e)).2.2).1,u++ [(nmR s (a,e)).2.1]++ (kX_ s (n - (l++ [(nmR s (a,e)).1]).length) (nmR s (a,e)).2.2).2.1,(kX_ s (n - (l++ [(nmR s (a,e)).1]).length) (nmR s (a,e)).2.2).2.2):=by
    rw[hrr,show n - l.length=(n - (l++ [(nmR s (a,e)).1]).length)+1 by simp;omega]
    generalize n - (l++ [(nmR s (a,e)).1]).length=m
    show(l++ ((nmR s (a,e)).1:: (kX_ s m (nmR s (a,e)).2.2).1),u++ ((nmR s (a,e)).2.1:: (kX_ s m (nmR s (a,e)).2.2).2.1),(kX_ s m (nmR s (a,e)).2.2).2.2)=_
    rw[List.append_assoc,List.append_assoc];rfl
   have hrow:nmR s (a,e)=((zY_ s a e 40).1,(qw_ s (zY_ s a e 40).2.1 (zY_ s a e 40).2.2 4).1,(qw_ s (zY_ s a e 40).2.1 (zY_ s a e 40).2.2 4).2):=rfl
   first|with_reducible refine ks [] (And.intro @zQ_ @d2) ?_|refine kp (And.intro @zQ_ @d2) ?_
   refine Ow.callM rfl rfl Tryz.call95 (by simp[keys]) (fun w' hw'=>Ky_ br s a e 40 w' hal (by omega) (hw'.has _ _ List.mem_cons_self)) ?_
   have t1:=(QB_ (s:=s) (a:=a) (e:=e) (most:=40) hal).2
   generalize zY_ s a e 40=p at*
   obtain⟨x,a3,e3⟩:=p
   simp only at hrow t1 ⊢
   refine kn ?_
   refine ko @zQ_ ?_
   refine Ow.buildSlice (e:=9) #[vs x] rfl rfl (by kernel_rfl) fun ba hba hwa=> ?_
   refine ko @zQ_ ?_
   refine Ow.permL (M:=D1++ ((br,rrO s a3 e3):: (D2++ (DG++ [(ba, .cells #[vs x] 9 (0,0))])))) (by classical exact List.perm_iff_count.2 fun a=>by simp only[List.count_append,List.count_cons,List.count_nil]<;>omega) ?_
   refine Ow.appendXG (e:=9) (k:=1) (new:=kU_ x) (X:=D1) v0 rfl rfl rfl rfl Tryz.underlying68 (id (by kernel_rfl):zP_ Tryz.prog 9=some (false,1)) (by kernel_rfl) (id (by kernel_rfl):zZ_ Tryz.prog 9=some (vs [])) rfl Tryz.underlying68 (by intro k h;cases h) hG1 (fun w' hw'=>AppX.one1 (hw'.has ba (.cells #[vs x] 9 (0,0)) (by simp)) rfl rfl) (by omega) (fun B4 v4 D4 hA4 hB4 hG4 hk41 hk42 hlk4=> ?_)
   have hN4:New w.heap.size D4:=New.of_le fun q hq=>by
    rcases hk42 q hq with h|h
    ·exact hN1.le q h
    ·omega
   refine Ow.permL (M:=(br,rrO s a3 e3):: (D4++ (D2++ (DG++ [(ba, .cells #[vs x] 9 (0,0))])))) (by classical exact List.perm_iff_count.2 fun a=>by simp only[List.count_append,List.count_cons,List.count_nil]<;>omega) ?_
   refine ko @zQ_ ?_
   refine Ow.callM rfl rfl Tryz.call96 (by simp[keys]) (fun w' hw'=>W0_ br s a3 e3 4 w' t1 (by omega) (hw'.has _ _ List.mem_cons_self)) ?_
   have t2:=(vL_ (s:=s) (a:=a3) (e:=e3) (n:=4) t1).2
   generalize qw_ s a3 e3 4=p at*
   obtain⟨y,a4,e4⟩:=p
   simp only at hrow t2 ⊢
   rw[hrow] at hpr
   simp only at hpr
   refine kn ?_
   refine ko @zQ_ ?_
   refine Ow.buildSlice (e:=9) #[vs y] rfl rfl (by kernel_rfl) fun bc hbc hwc=> ?_
   refine ko @zQ_ ?_
   refine Ow.permL (M:=D2++ ((br,rrO s a4 e4):: (D4++ (DG++ [(ba, .cells #[vs x] 9 (0,0)),(bc, .cells #[vs y] 9 (0,0))])))) (by classical exact List.perm_iff_count.2 fun a=>by simp only[List.count_append,List.count_cons,List.count_nil]<;>omega) ?_
   refine Ow.appendXG (e:=9) (k:=1) (new:=kU_ y) (X:=D2) v1 rfl rfl rfl rfl Tryz.underlying68 (id (by kernel_rfl):zP_ Tryz.prog 9=some (false,1)) (by kernel_rfl) (id (by kernel_rfl):zZ_ Tryz.prog 9=some (vs [])) rfl Tryz.underlying68 (by intro k h;cases h) hG2 (fun w' hw'=>AppX.one1 (hw'.has bc (.cells #[vs y] 9 (0,0)) (by simp)) rfl rfl) (by omega) (fun B5 v5 D5 hA5 hB5 hG5 hk51 hk52 hlk5=> ?_)
   have hN5:New w.heap.size D5:=New.of_le fun q hq=>by
    rcases hk52 q hq with h|h
    ·exact hN2.le q h
    ·omega
   refine Ow.permL (M:=(br,rrO s a4 e4):: (D4++ (D5++ (DG++ [(ba, .cells #[vs x] 9 (0,0)),(bc, .cells #[vs y] 9 (0,0))])))) (by classical exact List.perm_iff_count.2 fun a=>by simp only[List.count_append,List.count_cons,List.count_nil]<;>omega) ?_
   refine ko @zQ_ ?_
   have hl1: (l++ [x]).length=l.length+1:=by simp
   refine Again.mk ⟨l++ [x],u++ [y],(a4,e4),v4,v5,D4,D5,DG++ [(ba, .cells #[vs x] 9 (0,0)),(bc, .cells #[vs y] 9 (0,0))]⟩ (by show n - (l++ [x]).length<n - l.length;omega) ⟨by show(l++ [x]).length≤n;omega,by show(u++ [y]).length=(l++ [x]).length;simp[hul],t2,hN4,hN5,hNG.app ⟨hwa,hwc,trivial⟩,by simpa using hG4,by simpa using hG5,hpr⟩ rfl (by simp only[hl1];rfl)
  ·obtain rfl:n=l.length:=by omega
   have d2:decide ((l.length:Int)< (l.length:Int))=false:=decide_eq_false (by omega)
   rw[Nat.sub_self] at hrr
   simp only[kX_,List.append_nil] at hrr
   rw[hrr] at hnm
   rw[hnm] at hr
   simp only at hr
   have hmo:=Js_ s l.length (a2,e2)
   rw[hrr] at hmo
   simp only at hmo
   clear hrr hnm
   first|with_reducible refine ks [] (And.intro @zQ_ @d2) ?_|refine kp (And.intro @zQ_ @d2) ?_
   refine Ow.callM rfl rfl Tryz.call94 (by simp[keys]) (fun w' hw'=>z0_ br s a e 8000 w' hal (by omega) (hw'.has _ _ List.mem_cons_self)) ?_
   have r5:=(qx_ (s:=s) (a:=a) (e:=e) (most:=8000) hal).2
   have m5:=j1_ (s:=s) (a:=a) (e:=e) (most:=8000) (by omega)
   have hlm:V5_ s (a,e)=Qa_ s (zx_ s a e 8000).1.toNat (zx_ s a e 8000).2:=rfl
   generalize zx_ s a e 8000=p at*
   obtain⟨n0,a5,e5⟩:=p
   simp only at r5 m5 hlm ⊢
   obtain⟨n,rfl⟩: ∃n:Nat,n0=(n:Int):=⟨n0.toNat,by omega⟩
   rw[Int.toNat_natCast] at hlm
   refine kn ?_
   refine ko @zQ_ ?_
   refine Cw.permL (M:=(br,rrO s a5 e5):: (D1++ (D2++ ([]++DG)))) (by classical exact List.perm_iff_count.2 fun a=>by simp only[List.count_append,List.count_cons,List.count_nil]<;>omega) ?_
   refine Cw.loopG (G:=OdL) [50,51,52,55,15,56,57,58,59,60,61,62,63,64,65,66,67,68,69,70,71,13,53,54,14] (fun q=> [(13,q.v),(14,vi q.l.length)]) (fun q=>(br,rrO s q.q.1 q.q.2):: (D1++ (D2++ (q.D3++q.DG)))) (fun q=>q.l.length≤n∧q.q.1≤s.length∧New w.heap.size q.D3∧New w.heap.size q.DG∧Gr q.D3 88 35 q.v q.l.length (q.l.map lnC).flatten∧Qa_ s n (a5,e5)=(q.l++ (Qa_ s (n - q.l.length) q.q).1,(Qa_ s (n - q.l.length) q.q).2)) (fun q=>n - q.l.length) ⟨[],(a5,e5), .slice none 0 0,[],DG⟩ rfl rfl ?_ ?_
   ·exact⟨Nat.zero_le _,r5,trivial,hNG,Gr.nl,rfl⟩
   intro q jq hq
   refine kv ?_
   clear hNG
   obtain⟨m,⟨a,e⟩,v,D3,DG⟩:=q
   simp only at hq ⊢
   obtain⟨hmn,hal,hN3,hNG,hG3,hrr⟩:=hq
   by_cases hlt:m.length<n
   ·have d2:decide ((m.length:Int)< (n:Int))=true:=decide_eq_true (by omega)
    have hpr:Qa_ s n (a5,e5)=(m++ [(lnR s (a,e)).1]++ (Qa_ s (n - (m++ [(lnR s (a,e)).1]).length) (lnR s (a,e)).2).1,(Qa_ s (n - (m++ [(lnR s (a,e)).1]).length) (lnR s (a,e)).2).2):=by
     rw[hrr,show n - m.length=(n - (m++ [(lnR s (a,e)).1]).length)+1 by simp;omega]
     generalize n - (m++ [(lnR s (a,e)).1]).length=j
     show(m++ ((lnR s (a,e)).1:: (Qa_ s j (lnR s (a,e)).2).1),(Qa_ s j (lnR s (a,e)).2).2)=_
     rw[List.append_assoc];rfl
    have hrow:lnR s (a,e)=(⟨vv_ (idR s a e).1,(zx_ s (idR s a e).2.1 (idR s a e).2.2 40).1,(wF_ s (zx_ s (idR s a e).2.1 (idR s a e).2.2 40).2).1,(wF_ s (wF_ s (zx_ s (idR s a e).2.1 (idR s a e).2.2 40).2).2).1⟩,(wF_ s (wF_ s (zx_ s (idR s a e).2.1 (idR s a e).2.2 40).2).2).2):=rfl
    first|with_reducible refine ks [] (And.intro @zQ_ @d2) ?_|refine kp (And.intro @zQ_ @d2) ?_
    refine Ow.build (.agg (lnC Go.Proofs.ln0).toArray) rfl brz ?_
    refine ko @zQ_ ?_
    refine Ow.alloc rfl rfl Vw_ fun b8 hb8 hw8=> ?_
    simp only[zg_,List.nil_append,List.cons_append]
    have h8:br<b8:=zs_ hb8 (by simp[keys])
    refine Ow.permL (M:=(b8, .cells (lnC Go.Proofs.ln0).toArray 88 (0,0)):: (br,rrO s a e):: (D1++ (D2++ (D3++DG)))) (by classical exact List.perm_iff_count.2 fun a=>by simp only[List.count_append,List.count_cons,List.count_nil]<;>omega) ?_
    refine ko @zQ_ ?_
    first|with_reducible refine ks [] @zQ_ ?_|refine kp @zQ_ ?_
    refine Ow.callM rfl rfl Tryz.call97 (by simp[keys]) (fun w' hw'=>Q6_ br s a e w' hal (by omega) (hw'.has _ _ (List.mem_cons_of_mem _ List.mem_cons_self))) ?_
    obtain⟨i,hi⟩: ∃i,i=vv_ (idR s a e).1:=⟨_,rfl⟩
    have hil: (idR s a e).1=i.l:=by rw[hi];exact(QA_ (Vr_ s a e)).symm
    have hle1:=KC_ (e:=e) hal
    rw[←hi] at hrow
    generalize idR s a e=p at*
    obtain⟨p1,a3,e3⟩:=p
    simp only at hil hrow hle1 ⊢
    subst hil
    clear hi
    refine kn ?_
    refine ko @zQ_ ?_
    first|with_reducible refine ks [] @zQ_ ?_|refine kp @zQ_ ?_
    refine Ow.callM rfl rfl Tryz.call94 (by simp[keys]) (fun w' hw'=>z0_ br s a3 e3 40 w' hle1 (by omega) (hw'.has _ _ (List.mem_cons_of_mem _ List.mem_cons_self))) ?_
    have hle2:=(qx_ (e:=e3) (most:=40) hle1).2
    generalize zx_ s a3 e3 40=p at*
    obtain⟨x1,a4,e4⟩:=p
    simp only at hrow hle2 ⊢
    refine kn ?_
    refine ko @zQ_ ?_
    first|with_reducible refine ks [] @zQ_ ?_|refine kp @zQ_ ?_
    refine Ow.callM rfl rfl Tryz.call94 (by simp[keys]) (fun w' hw'=>z0_ br s a4 e4 1099511627775 w' hle2 (by omega) (hw'.has _ _ (List.mem_cons_of_mem _ List.mem_cons_self))) ?_
    have hle3:=(qx_ (e:=e4) (most:=1099511627775) hle2).2
    have hrow2:lnR s (a,e)=(⟨i,x1,(zx_ s a4 e4 1099511627775).1,(wF_ s (zx_ s a4 e4 1099511627775).2).1⟩,(wF_ s (zx_ s a4 e4 1099511627775).2).2):=hrow
    clear hrow
    generalize zx_ s a4 e4 1099511627775=p at*
    obtain⟨x2,a6,e6⟩:=p
    simp only at hrow2 hle3 ⊢
    refine kn ?_
    refine ko @zQ_ ?_
    first|with_reducible refine ks [] @zQ_ ?_|refine kp @zQ_ ?_
    refine Ow.callM rfl rfl Tryz.call94 (by simp[keys]) (fun w' hw'=>z0_ br s a6 e6 1099511627775 w' hle3 (by omega) (hw'.has _ _ (List.mem_cons_of_mem _ List.mem_cons_self))) ?_
    have hle4:=(qx_ (e:=e6) (most:=1099511627775) hle3).2
    have hrow3:lnR s (a,e)=(⟨i,x1,x2,(zx_ s a6 e6 1099511627775).1⟩,(zx_ s a6 e6 1099511627775).2):=hrow2
    clear hrow2
    generalize zx_ s a6 e6 1099511627775=p at*
    obtain⟨x3,a7,e7⟩:=p
    simp only at hrow3 hle4 ⊢
    rw[hrow3] at hpr
    simp only at hpr
    refine kn ?_
    refine ko @zQ_ ?_
    first|with_reducible refine ks [] @zQ_ ?_|refine kp @zQ_ ?_
    generalize (LnL.mk i x1 x2 x3)=r at*
    refine Ow.buildSlice (e:=88) (lnC r).toArray rfl rfl (q8_ Tryz.underlying69 Xo_ Vw_ (by decide) (zq_ _)) fun ba hba hwa=> ?_
    refine ko @zQ_ ?_
    refine Ow.permL (M:=D3++ ((b8, .cells (lnC r).toArray 88 (0,0)):: (br,rrO s a7 e7):: (D1++ (D2++ (DG++ [(ba, .cells (lnC r).toArray 88 (0,0))]))))) (by classical exact List.perm_iff_count.2 fun a=>by simp only[List.count_append,List.count_cons,List.count_nil]<;>omega) ?_
    refine Ow.appendXG (e:=88) (k:=1) (new:=lnC r) (X:=D3) v rfl rfl rfl rfl Tryz.underlying69 Xo_ (by kernel_rfl) Vw_ (by rw[z3_,List.size_toArray,zq_]) Tryz.underlying69 (by intro k h;cases h) hG3 (fun w' hw'=>AppX.one1 (hw'.has ba (.cells (lnC r).toArray 88 (0,0)) (by simp)) (zq_ _) (xn_ _)) (by omega) (fun B4 v4 D4 hA4 hB4 hG4 hk41 hk42 hlk4=> ?_)
    have hN4:New w.heap.size D4:=New.of_le fun q hq=>by
     rcases hk42 q hq with h|h
     ·exact hN3.le q h
     ·omega
    refine Ow.permL (M:=(br,rrO s a7 e7):: (D1++ (D2++ (D4++ ((b8, .cells (lnC r).toArray 88 (0,0)):: (DG++ [(ba, .cells (lnC r).toArray 88 (0,0))])))))) (by classical exact List.perm_iff_count.2 fun a=>by simp only[List.count_append,List.count_cons,List.count_nil]<;>omega) ?_
    refine ko @zQ_ ?_
    have hl1: (m++ [r]).length=m.length+1:=by simp
    refine Again.mk ⟨m++ [r],(a7,e7),v4,D4,(b8, .cells (lnC r).toArray 88 (0,0)):: (DG++ [(ba, .cells (lnC r).toArray 88 (0,0))])⟩ (by show n - (m++ [r]).length<n - m.length;omega) ⟨by show(m++ [r]).length≤n;omega,hle4,hN4,⟨hw8,hNG.app ⟨hwa,trivial⟩⟩,by simpa using hG4,hpr⟩ rfl (by simp only[hl1];rfl)
   ·obtain rfl:n=m.length:=by omega
    have d2:decide ((m.length:Int)< (m.length:Int))=false:=decide_eq_false (by omega)
    rw[Nat.sub_self] at hrr
    rw[hrr] at hlm
    rw[hlm] at hr
    simp only[Qa_,List.append_nil,Prod.mk.injEq] at hr
    obtain⟨hr1,hr2,hr3,hr4⟩:=hr
    subst hr1 hr2 hr3 hr4
    simp only at hyes hno
    have hNr:New w.heap.size ((br,rrO s a e):: (D1++ (D2++ (D3++DG)))):=⟨hwr,hN1.app (hN2.app (hN3.app hNG))⟩
    have hI0:GrI ((br,rrO s a e):: (D1++ (D2++ (D3++DG)))) 9 1 v0 l.length (l.map kU_).flatten:=Gr.i hG1 fun p hp=>by simp[hp]
    have hI1:GrI ((br,rrO s a e):: (D1++ (D2++ (D3++DG)))) 9 1 v1 u.length (u.map kU_).flatten:=Gr.i hG2 fun p hp=>by simp[hp]
    have hI2:GrI ((br,rrO s a e):: (D1++ (D2++ (D3++DG)))) 88 35 v m.length (m.map lnC).flatten:=Gr.i hG3 fun p hp=>by simp[hp]
    have hnl:l.length≤40:=by omega
    have hll:m.length≤8000:=by omega
    clear hrr hlm hG1 hG2 hG3
    first|with_reducible refine ks [] (And.intro @zQ_ @d2) ?_|refine kp (And.intro @zQ_ @d2) ?_
    refine Ow.callFV rfl Tryz.call98 (fun w' hw'=>Qk_ br s a e w' (hw'.has _ _ List.mem_cons_self)) ?_
    by_cases he:vU_ s a e=0
    ·have e1': (vU_ s a e !=0)=false:=by rw[he];rfl
     refine ko (And.intro @zQ_ @e1') ?_
     refine Ow.callFV rfl Tryz.call79 (fun w' hw'=>vz_ v0 v l m w' (hI0.slV hw' rfl rfl qy_) (hI2.slV hw' rfl rfl zq_) (hmo.1.short (by decide))) ?_
     cases hri:zC_ l m with
     |false=>
      rw[hno (fun h=>by have:=h.2.1;rw[hri] at this;cases this)]
      refine ko @zQ_ ?_
      first|with_reducible refine ks [] @zQ_ ?_|refine kp @zQ_ ?_
      refine⟨_,(ke @zQ_), ?_⟩
      exact⟨Ext.of_new hNr,rfl⟩
     |true=>
      refine ko @zQ_ ?_
      refine Ow.callFV rfl Tryz.call35 (fun w' hw'=>Qn_ v0 v1 v l u m w' (hI0.slV hw' rfl rfl qy_) (hI1.slV hw' rfl rfl qy_) (hI2.slV hw' rfl rfl zq_) hul hnl hll (hmo.1.mono (by decide)) (hmo.2.mono (by decide))) ?_
      by_cases hbb:z5_ (xZ_ l u m)=b
      ·have d5: (z5_ (xZ_ l u m) !=b)=false:=bne_eq_false_iff_eq.2 hbb
       rw[hyes ⟨he,hri,hbb⟩]
       refine ko (And.intro @zQ_ @d5) ?_
       first|with_reducible refine ks [] @zQ_ ?_|refine kp @zQ_ ?_
       refine⟨_,(ke @zQ_), ?_⟩
       exact⟨Ext.of_new hNr,v0,v1,v,rfl,hI0,hI1,hI2⟩
      ·have d5: (z5_ (xZ_ l u m) !=b)=true:=bne_iff_ne.2 hbb
       rw[hno (fun h=>hbb h.2.2)]
       refine ko (And.intro @zQ_ @d5) ?_
       first|with_reducible refine ks [] @zQ_ ?_|refine kp @zQ_ ?_
       refine⟨_,(ke @zQ_), ?_⟩
       exact⟨Ext.of_new hNr,rfl⟩
    ·have e1': (vU_ s a e !=0)=true:=bne_iff_ne.2 he
     rw[hno (fun h=>he h.1)]
     refine ko (And.intro @zQ_ @e1') ?_
     first|with_reducible refine ks [] @zQ_ ?_|refine kp @zQ_ ?_
     refine⟨_,(ke @zQ_), ?_⟩
     exact⟨Ext.of_new hNr,rfl⟩
end Go.Proofs
end
section
open Go Go.Proofs Go.Sx Go.StP Go.Flo Go.Dig
namespace Go.Proofs
set_option maxRecDepth 10000
set_option maxHeartbeats 1000000
set_option linter.unusedSimpArgs false
theorem aaO_ (r:LnL) (l:List LnL) (x:IdL):xc_ (r::l) x=if(r.id.l==x.l)=true then(r,true) else xc_ l x:=by
 unfold xc_
 rw[List.find?_cons]
 cases h:r.id.l==x.l<;>rfl
theorem ahT_:ql_ (vo_ Tryz.prog 88) (zZ_ Tryz.prog 88) []=some (.agg (lnC Go.Proofs.ln0).toArray):=by
 rw[show vo_ Tryz.prog 88=some [(0,32),(32,1),(33,1),(34,1)] from id (by kernel_rfl),Vw_];simp[ql_,Sx.fillV]
set_option linter.defProp false
def kK_:=And.intro (And.intro (And.intro (@zf_) (@ze_)) (And.intro (@qY_) (And.intro (@xX_) (@jK_)))) (And.intro (And.intro (@j7_) (@xz_)) (And.intro (@km_) (And.intro (@z3_) (@js_))))
theorem VB_ (v:Value) (l:List LnL) (x:IdL) (w:World) (hv:LnSl w v l) (hl:l.length<1000000):Rets Tryz.prog 43 #[v, .agg (a8 x.l)] w (fun v D=>v= .tuple #[.agg (lnC (xc_ l x).1).toArray, .bool (xc_ l x).2]∧D= []):=by
 obtain⟨rb,off,arr,E,fz,hr⟩:=hv.row
 have ln:=hv.len
 obtain⟨R,hR⟩: ∃R,R=xc_ l x:=⟨_,rfl⟩
 rw[←hR]
 refine Rets.enterV Tryz.func43 rfl (rs:= [.cell 4 88, .tmp 5]) Tryz.results43 Tryz.ntmps43 ?_
 refine kf ?_
 first|with_reducible refine ks [] @kK_ ?_|refine kp @kK_ ?_
 refine Ow.box rfl rfl fun b3 hb3 hw3=> ?_
 simp only[jt_,jm_,jn_,zg_,List.nil_append,List.cons_append]
 refine Ow.go rfl ?_
 simp(disch:=(first|assumption|omega| (simp only[kd_,kc_,UInt64.reduceToNat];try omega))) only[↓Sx.S0,Sx.S1,Tryz.fx,kK_,Nat.reduceAdd,Nat.reducePow,Int.reducePow,Nat.reduceBEq, ↓reduceIte,UInt8.reduceToNat,UInt16.reduceToNat,UInt32.reduceToNat,UInt64.reduceToNat,Int.reduceToNat]
 refine Ow.alloc rfl rfl Vw_ fun b4 hb4 hw4=> ?_
 simp only[zg_,List.nil_append,List.cons_append]
 obtain⟨h34,-⟩:=hb4
 refine Ow.permL (M:= [(b4, .cells (lnC Go.Proofs.ln0).toArray 88 (0,0)),(b3, .cells (a8 x.l) 86 (0,0))]) (by classical exact List.perm_iff_count.2 fun a=>by simp only[List.count_append,List.count_cons,List.count_nil]<;>omega) ?_
 refine ko @kK_ ?_
 have hN:New w.heap.size [(b4,Obj.cells (lnC Go.Proofs.ln0).toArray 88 (0,0)),(b3, .cells (a8 x.l) 86 (0,0))]:=⟨hw4,hw3,trivial⟩
 first|with_reducible refine ks [] @kK_ ?_|refine kp @kK_ ?_
 refine Cw.loopG (G:=Nat) [7,8,9,10,13,14,15,16,17,18,19,20,21,22,23,5,11,12,6] (fun q=> [(5, .bool false),(6,vi q)]) (fun q=> [(b4, .cells (lnC Go.Proofs.ln0).toArray 88 (0,0)),(b3, .cells (a8 x.l) 86 (0,0))]) (fun q=>q≤l.length∧R=xc_ (l.drop q) x) (fun q=>l.length - q) 0 rfl rfl ?_ ?_
 ·exact⟨Nat.zero_le _,hR⟩
 intro k jk hk
 refine kv ?_
 obtain⟨hk,hf⟩:=hk
 by_cases hlt:k<l.length
 ·have d1:decide ((k:Int)< (l.length:Int))=true:=decide_eq_true (by omega)
  have hb:=hr.has (by omega)
  have hrl:=hr.lt (by omega)
  have hn3:b3≠rb:=by omega
  have hn4:b4≠rb:=by omega
  have ix:=hr.idx true k hlt
  have ld:=hr.load zq_ (by omega) hlt
  have ld0:=KI_ hr hlt
  rw[Nat.add_zero] at ld0
  rw[StP.drop_cons (z:=Go.Proofs.ln0) hlt,aaO_] at hf
  generalize l.getD k Go.Proofs.ln0=r at*
  first|with_reducible refine ks [] (And.intro @kK_ (And.intro @ln (@d1))) ?_|refine kp (And.intro @kK_ (And.intro @ln (@d1))) ?_
  refine Cw.regionS [b3,rb] [0,1,2,3,4,5,6] [] (by kernel_rfl) (by kernel_rfl) (by kernel_rfl) ?_
  simp only[zh_, ↓zd_, ↓zb_, ↓zl_, ↓zm_,za_]
  refine kq (And.intro @kK_ (And.intro @hb (And.intro @ix (And.intro @ld0 (@aaU_))))) ?_
  try with_reducible refine Ow.nil ?_
  cases he:r.id.l==x.l with
  |true=>
   rw[he,if_pos rfl] at hf
   rw[hf]
   first|with_reducible refine ks [] (And.intro @kK_ (And.intro @hb (And.intro @ix (@ld)))) ?_|refine kp (And.intro @kK_ (And.intro @hb (And.intro @ix (@ld)))) ?_
   refine⟨_,(ke @kK_),hN, ?_⟩
   rfl
  |false=>
   rw[he,if_neg (by simp)] at hf
   first|with_reducible refine ks [] @kK_ ?_|refine kp @kK_ ?_
   exact Again.mk (G:=Nat) (k+1) (by show l.length - (k+1)<l.length - k;omega) ⟨hlt,hf⟩ rfl rfl
 ·obtain rfl:k=l.length:=by omega
  have d1:decide ((l.length:Int)< (l.length:Int))=false:=decide_eq_false (by omega)
  rw[List.drop_length] at hf
  rw[hf]
  first|with_reducible refine ks [] (And.intro @kK_ (And.intro @ln (@d1))) ?_|refine kp (And.intro @kK_ (And.intro @ln (@d1))) ?_
  refine Ow.build (.agg (lnC Go.Proofs.ln0).toArray) rfl ahT_ ?_
  refine ko @kK_ ?_
  first|with_reducible refine ks [] @kK_ ?_|refine kp @kK_ ?_
  refine⟨_,(ke @kK_),hN, ?_⟩
  rfl
end Go.Proofs
end
section
open Go Go.Proofs Go.Sx Go.StP
namespace Go.Proofs
set_option maxRecDepth 10000
set_option maxHeartbeats 400000
set_option linter.unusedSimpArgs false
set_option linter.defProp false
def vA_:=And.intro (@zf_) (@ze_)
theorem wu_ (v1 v2:Value) (l1 l2:List (List UInt8)) (w:World) (hv1:Zu_ w v1 l1) (hv2:Zu_ w v2 l2) (hl1:l1.length<1000000):
  Rets Tryz.prog 41 #[v1,v2] w (fun v' D=>v'= .bool (decide (l1=l2))∧D= []):=by
 obtain⟨b1,off1,arr1,E1,fz1,hr1⟩:=hv1.row
 obtain⟨b2,off2,arr2,E2,fz2,hr2⟩:=hv2.row
 have ln1:=hv1.len
 have ln2:=hv2.len
 refine Rets.enterV Tryz.func41 rfl (rs:= [.tmp 4]) Tryz.results41 Tryz.ntmps41 ?_
 refine kf ?_
 by_cases hl:l1.length=l2.length
 ·have d0: ((l1.length:Int) !=(l2.length:Int))=false:=bne_eq_false_iff_eq.2 (by rw[hl])
  first|with_reducible refine ks [] (And.intro @vA_ (And.intro @ln1 (And.intro @ln2 (@d0)))) ?_|refine kp (And.intro @vA_ (And.intro @ln1 (And.intro @ln2 (@d0)))) ?_
  refine Cw.loopG (G:=Nat) [11,12,13,14,17,18,19,20,21,22,23,24,25,4,15,16,5] (fun g=> [(5,vi g)]) (fun g=> []) (fun g=>g≤l1.length∧l1.take g=l2.take g) (fun g=>l1.length - g) 0 rfl rfl ?_ ?_
  ·exact⟨Nat.zero_le _,rfl⟩
  ·intro k jk hk
   refine kv ?_
   obtain⟨h1,h2⟩:=hk
   by_cases hk:k<l1.length
   ·have dk:decide ((k:Int)< (l1.length:Int))=true:=decide_eq_true (by omega)
    have ra:=hr1.has (by omega)
    have rb:=hr2.has (show 0<l2.length by omega)
    have ia:=hr1.idx false k hk
    have ib:=hr2.idx false k (show k<l2.length by omega)
    have la:=fun n=>jV_ hr1 hk n
    have lb:=fun n=>jV_ hr2 (show k<l2.length by omega) n
    first|with_reducible refine ks [] (And.intro @vA_ (And.intro @ln1 (@dk))) ?_|refine kp (And.intro @vA_ (And.intro @ln1 (@dk))) ?_
    refine Cw.regionS [b1,b2] [0,1,2,4,5,6,3,7,8] [] (by kernel_rfl) (by kernel_rfl) (by kernel_rfl) ?_
    simp only[zh_, ↓zd_, ↓zb_, ↓zl_, ↓zm_,za_]
    by_cases hq:l1.getD k []=l2.getD k []
    ·have d1: (l1.getD k [] !=l2.getD k [])=false:=bne_eq_false_iff_eq.2 hq
     refine kq (And.intro @vA_ (And.intro @ra (And.intro @rb (And.intro @ia (And.intro @ib (And.intro @la (And.intro @lb (@d1)))))))) ?_
     try with_reducible refine Ow.nil ?_
     first|with_reducible refine ks [] @vA_ ?_|refine kp @vA_ ?_
     refine Again.mk (k+1) (by omega) ⟨hk, ?_⟩ rfl rfl
     rw[take_snoc (z:=([]:List UInt8)) hk,take_snoc (z:=([]:List UInt8)) (show k<l2.length by omega),h2,hq]
    ·have d1: (l1.getD k [] !=l2.getD k [])=true:=bne_iff_ne.2 hq
     have:decide (l1=l2)=false:=decide_eq_false (fun e=>by rw[e] at hq;exact hq rfl)
     rw[this]
     refine kq (And.intro @vA_ (And.intro @ra (And.intro @rb (And.intro @ia (And.intro @ib (And.intro @la (And.intro @lb (@d1)))))))) ?_
     try with_reducible refine Ow.nil ?_
     first|with_reducible refine ks [] @vA_ ?_|refine kp @vA_ ?_
     refine⟨_,(ke @vA_),trivial, ?_⟩
     rfl
   ·obtain rfl:k=l1.length:=by omega
    have dk:decide ((l1.length:Int)< (l1.length:Int))=false:=decide_eq_false (by omega)
    have:l1=l2:=by rw[List.take_length,hl,List.take_length] at h2;exact h2
    rw[decide_eq_true this]
    first|with_reducible refine ks [] (And.intro @vA_ (And.intro @ln1 (@dk))) ?_|refine kp (And.intro @vA_ (And.intro @ln1 (@dk))) ?_
    refine⟨_,(ke @vA_),trivial, ?_⟩
    rfl
 ·have d0: ((l1.length:Int) !=(l2.length:Int))=true:=bne_iff_ne.2 (by omega)
  have:decide (l1=l2)=false:=decide_eq_false (fun e=>hl (by rw[e]))
  rw[this]
  first|with_reducible refine ks [] (And.intro @vA_ (And.intro @ln1 (And.intro @ln2 (@d0)))) ?_|refine kp (And.intro @vA_ (And.intro @ln1 (And.intro @ln2 (@d0)))) ?_
  refine⟨_,(ke @vA_),trivial, ?_⟩
  rfl
end Go.Proofs
end
section
open Go Go.Proofs Go.Sx Go.StP Go.Flo Go.Dig
namespace Go.Proofs
set_option maxRecDepth 10000
set_option maxHeartbeats 1000000
set_option linter.unusedSimpArgs false
theorem Vc_ (a b:Bool):qE_ Tryz.prog .neq 4 (.bool a) (.bool b)=some (.bool (a !=b)):=by cases a<;>cases b<;>rfl
theorem adw_:ql_ (vo_ Tryz.prog 89) (zZ_ Tryz.prog 89) []=some (.agg (lnC Go.Proofs.ln0).toArray):=by
 rw[show vo_ Tryz.prog 89=some [(0,32),(32,1),(33,1),(34,1)] from id (by kernel_rfl),J7_];simp[ql_,Sx.fillV]
theorem amV_ (a b c:Value): #[a,b,c][0]? =some a:=rfl
theorem amU_ (a b c:Value): #[a,b,c][1]? =some b:=rfl
theorem ami_ (a b c:Value): #[a,b,c][2]? =some c:=rfl
theorem amz_ (a b c d:Value): #[a,b,c,d][0]? =some a:=rfl
theorem amL_ (a b c d:Value): #[a,b,c,d][1]? =some b:=rfl
theorem aly_ (a b c d:Value): #[a,b,c,d][2]? =some c:=rfl
theorem amO_ (a b c d:Value): #[a,b,c,d][3]? =some d:=rfl
theorem acD_ {names:List (List UInt8)} {lines:List LnL} (hr:zC_ names lines=true) {x:IdL} {r:LnL} (h:xc_ lines x=(r,true)): ∃t:Nat,r.share=(t:Int)∧t<names.length:=by
 obtain⟨-,-,h3,-⟩:=Zx_ hr
 have hm:r∈lines:=by
  unfold xc_ at h
  cases hf:lines.find? (fun q=>q.id.l==x.l) with
  |none=>rw[hf] at h;cases congrArg Prod.snd h
  |some q=>
   rw[hf] at h
   obtain rfl:q=r:=congrArg Prod.fst h
   exact List.mem_of_find?_eq_some hf
 have h4:=h3 r hm
 unfold qg_ at h4
 simp only[Bool.and_eq_true,Bool.not_eq_true',decide_eq_false_iff_not] at h4
 exact⟨r.share.toNat,by omega,by omega⟩
theorem VO_ (r:LnL): (!((r.id.l==r.id.l)&& (r.share==r.share)&& (r.place==r.place)&& (r.spot==r.spot)))=false:=by simp
theorem abH_ {b:List UInt8} {names sums:List (List UInt8)} {lines:List LnL} (h:Jj_ b=some (names,sums,lines)):zC_ names lines=true∧sums.length=names.length:=by
 unfold Jj_ at h
 split at h
 ·rename_i hc
  simp only[Option.some.injEq,Prod.mk.injEq] at h
  obtain⟨rfl,rfl,rfl⟩:=h
  refine⟨hc.2.1, ?_⟩
  unfold vd_ Qd_
  rw[(Vj_ _ _ _).1,(Vj_ _ _ _).2]
 ·cases h
structure MoL where
 k:Nat
 DG:zc_
set_option linter.defProp false
def zy_:=And.intro (And.intro (And.intro (And.intro (@zf_) (@ze_)) (And.intro (@amV_) (And.intro (@amU_) (@ami_)))) (And.intro (And.intro (@amz_) (@amL_)) (And.intro (@aly_) (And.intro (@amO_) (@Sx.tup2_0))))) (And.intro (And.intro (And.intro (@Sx.tup2_1) (@akZ_)) (And.intro (@agh_) (And.intro (@z3_) (@xX_)))) (And.intro (And.intro (@jK_) (@j7_)) (And.intro (@xz_) (And.intro (@km_) (@js_)))))
theorem JU_ (b:List UInt8) (v1:Value) (I:List IdL) (w:World) (hC:GlobC w) (hv:SlV 32 idLC id0 w v1 I):Rets Tryz.prog 8 #[vs b,v1] w (fun v D=>v= .bool true∧D= []):=by
 have ln:=hv.len
 refine Rets.enterV Tryz.func8 rfl (rs:= [.tmp 4]) Tryz.results8 Tryz.ntmps8 ?_
 refine kf ?_
 first|with_reducible refine ks [1000007,1000015] @zy_ ?_|refine kp @zy_ ?_
 refine Ow.callFV rfl Tryz.call30 (fun w' hw'=>qL_ w' (hC.newP hw' trivial)) ?_
 refine ko @zy_ ?_
 by_cases hbl:20000<b.length
 ·have d1:decide ((20000:Int)< (b.length:Int))=true:=decide_eq_true (by omega)
  first|with_reducible refine ks [] (And.intro @zy_ (And.intro @ln (@d1))) ?_|refine kp (And.intro @zy_ (And.intro @ln (@d1))) ?_
  refine Ow.callFV rfl Tryz.call30 (fun w' hw'=>qL_ w' (hC.newP hw' trivial)) ?_
  refine ko @zy_ ?_
  first|with_reducible refine ks [] @zy_ ?_|refine kp @zy_ ?_
  refine⟨_,(ke @zy_),trivial, ?_⟩
  rfl
 have d1:decide ((20000:Int)< (b.length:Int))=false:=decide_eq_false (by omega)
 by_cases hll:60<I.length
 ·have d2:decide ((60:Int)< (I.length:Int))=true:=decide_eq_true (by omega)
  first|with_reducible refine ks [] (And.intro @zy_ (And.intro @ln (And.intro @d1 (@d2)))) ?_|refine kp (And.intro @zy_ (And.intro @ln (And.intro @d1 (@d2)))) ?_
  refine Ow.callFV rfl Tryz.call30 (fun w' hw'=>qL_ w' (hC.newP hw' trivial)) ?_
  refine ko @zy_ ?_
  first|with_reducible refine ks [] @zy_ ?_|refine kp @zy_ ?_
  refine⟨_,(ke @zy_),trivial, ?_⟩
  rfl
 have d2:decide ((60:Int)< (I.length:Int))=false:=decide_eq_false (by omega)
 first|with_reducible refine ks [] (And.intro @zy_ (And.intro @ln (And.intro @d1 (@d2)))) ?_|refine kp (And.intro @zy_ (And.intro @ln (And.intro @d1 (@d2)))) ?_
 refine Ow.callC rfl rfl Tryz.call36 (fun w' hw'=>X7_ b w' (hC.newP hw' trivial) (by omega)) (fun B1 v2 D1 hA1 hB1 hN1 hS1=> ?_)
 have hD1:New w.heap.size D1:=hN1.mono hB1
 rw[List.nil_append]
 unfold acX_ at hS1
 have z1:decide ((0:Int)< ((0:Nat):Int)+ ((0:Nat):Int)+ ((0:Nat):Int))=false:=rfl
 cases hop:Jj_ b with
 |none=>
  rw[hop] at hS1
  have hS1':v2= .tuple #[.pointer none,vi 2]:=hS1
  subst hS1'
  refine ko @zy_ ?_
  first|with_reducible refine ks [] @zy_ ?_|refine kp @zy_ ?_
  refine Ow.callC rfl rfl Tryz.call37 (fun w' hw'=>Qh_ b w' (by omega)) (fun B2 v3 D2 hA2 hB2 hN2 hS2=> ?_)
  have hD2:=hD1.app (hN2.mono hB2)
  unfold acP_ at hS2
  rw[hop] at hS2
  have hS2':v3= .tuple #[.slice none 0 0, .slice none 0 0, .slice none 0 0, .bool false]:=hS2
  subst hS2'
  refine ko @zy_ ?_
  first|with_reducible refine ks [] @zy_ ?_|refine kp @zy_ ?_
  refine Ow.callFV rfl Tryz.call38 (fun w' hw'=>Kk_ w') ?_
  refine ko (And.intro @zy_ @kr_) ?_
  refine Ow.callFV rfl Tryz.call39 (fun w' hw'=>aaa_ w') ?_
  refine ko (And.intro @zy_ @kr_) ?_
  refine Ow.callFV rfl Tryz.call40 (fun w' hw'=>X8_ w') ?_
  refine ko (And.intro @zy_ (And.intro @kr_ (@z1))) ?_
  first|with_reducible refine ks [] @zy_ ?_|refine kp @zy_ ?_
  refine Ow.callFV rfl Tryz.call30 (fun w' hw'=>qL_ w' (hC.newP hw' hD2)) ?_
  have e1: ((2:Int)==2)=true:=rfl
  refine ko (And.intro @zy_ @e1) ?_
  first|with_reducible refine ks [] @zy_ ?_|refine kp @zy_ ?_
  refine⟨_,(ke @zy_),hD2, ?_⟩
  rfl
 |some q=>
  obtain⟨names,sums,lines⟩:=q
  rw[hop] at hS1
  obtain⟨bm,rfl,hI⟩:=hS1
  simp only at hI
  obtain⟨hri,hsm⟩:=abH_ hop
  obtain⟨a1,a2,a3,a4⟩:=Zx_ hri
  refine ko @zy_ ?_
  first|with_reducible refine ks [] @zy_ ?_|refine kp @zy_ ?_
  refine Ow.callC rfl rfl Tryz.call37 (fun w' hw'=>Qh_ b w' (by omega)) (fun B2 v3 D2 hA2 hB2 hN2 hS2=> ?_)
  have hD2:=hD1.app (hN2.mono hB2)
  unfold acP_ at hS2
  rw[hop] at hS2
  obtain⟨x0,x1,x2,rfl,hg0,hg1,hg2⟩:=hS2
  simp only at hg0 hg1 hg2
  refine ko @zy_ ?_
  refine Cw.rebaseV hD2 (by rfl) fun w1 hw1=> ?_
  have hC1:=hC.newP hw1 hD2
  have hI1:=(hI.mono (fun q hq=>by simp[hq])).inW hw1
  have hx0:Zu_ w1 x0 names:=(hg0.mono (fun q hq=>by simp[hq])).slV hw1 rfl rfl qy_
  have hx1:Zu_ w1 x1 sums:=(hg1.mono (fun q hq=>by simp[hq])).slV hw1 rfl rfl qy_
  have hx2:LnSl w1 x2 lines:=(hg2.mono (fun q hq=>by simp[hq])).slV hw1 rfl rfl zq_
  have hv1:=hv.oldN hw1 hD2
  clear hw1 hI hg0 hg1 hg2 hD2 hD1 hN1 hN2 hA1 hA2 hC hv hop
  have e3: ((0:Int) !=0)=false:=rfl
  first|with_reducible refine ks [1000015] @zy_ ?_|refine kp @zy_ ?_
  refine Ow.callFV rfl Tryz.call38 (fun w' hw'=>Kk_ w') ?_
  refine ko (And.intro @zy_ @kr_) ?_
  refine Ow.callFV rfl Tryz.call39 (fun w' hw'=>aaa_ w') ?_
  refine ko (And.intro @zy_ @kr_) ?_
  refine Ow.callFV rfl Tryz.call40 (fun w' hw'=>X8_ w') ?_
  refine ko (And.intro @zy_ (And.intro @kr_ (@z1))) ?_
  first|with_reducible refine ks [1000015] (And.intro @zy_ @e3) ?_|refine kp (And.intro @zy_ @e3) ?_
  refine Ow.callC rfl rfl Tryz.call38 (fun w' hw'=>abf_ bm names sums lines w' (hI1.old hw' trivial) (by omega)) (fun B3 v4 D3 hA3 hB3 hN3 hS3=> ?_)
  have hD3:New w1.heap.size D3:=hN3.mono hB3
  rw[List.nil_append]
  refine ko @zy_ ?_
  refine Ow.callFV rfl Tryz.call41 (fun w' hw'=>wu_ v4 x0 names names w' (hS3.slV hw' rfl rfl qy_) (hx0.oldN hw' hD3) (by omega)) ?_
  rw[decide_eq_true (rfl:names=names)]
  refine ko @zy_ ?_
  refine Ow.callC rfl rfl Tryz.call39 (fun w' hw'=>aeE_ bm names sums lines w' (hI1.old hw' hD3) (by omega)) (fun B4 v5 D4 hA4 hB4 hN4 hS4=> ?_)
  have hD4:=hD3.app (hN4.mono hB4)
  refine ko @zy_ ?_
  refine Ow.callFV rfl Tryz.call41 (fun w' hw'=>wu_ v5 x1 sums sums w' ((hS4.mono (fun q hq=>by simp[hq])).slV hw' rfl rfl qy_) (hx1.oldN hw' hD4) (by omega)) ?_
  rw[decide_eq_true (rfl:sums=sums)]
  refine ko @zy_ ?_
  first|with_reducible refine ks [1000015] @zy_ ?_|refine kp @zy_ ?_
  refine Ow.callC rfl rfl Tryz.call40 (fun w' hw'=>QZ_ bm names sums lines w' (hI1.old hw' hD4) (by omega)) (fun B5 v6 D5 hA5 hB5 hN5 hS5=> ?_)
  have hD5:=hD4.app (hN5.mono hB5)
  refine ko @zy_ ?_
  refine Cw.rebaseV hD5 (by rfl) fun w2 hw2=> ?_
  have hC2:=hC1.newP hw2 hD5
  have hI2:=hI1.old hw2 hD5
  have hx3:LnSl w2 v6 lines:=(hS5.mono (fun q hq=>by simp[hq])).slV hw2 rfl rfl zq_
  have hx0:=hx0.oldN hw2 hD5
  have hx2:=hx2.oldN hw2 hD5
  have hv2:=hv1.oldN hw2 hD5
  clear hw2 hI1 hC1 hx1 hv1 hS3 hS4 hS5 hD3 hD4 hD5 hN3 hN4 hN5 hA3 hA4 hA5
  have ln2:=hx2.len
  have ln3:=hx3.len
  have e4: ((lines.length:Int) !=(lines.length:Int))=false:=bne_self_eq_false _
  obtain⟨rb,off,arr,E,fz,hr⟩:=hv2.row
  obtain⟨nb,noff,narr,nE,nfz,hn⟩:=hx0.row
  obtain⟨lb,loff,larr,lE,lfz,hl2⟩:=hx2.row
  obtain⟨gb,goff,garr,gE,gfz,hl3⟩:=hx3.row
  first|with_reducible refine ks [] (And.intro @zy_ (And.intro @ln2 (And.intro @ln3 (@e4)))) ?_|refine kp (And.intro @zy_ (And.intro @ln2 (And.intro @ln3 (@e4)))) ?_
  refine Cw.loopG (G:=MoL) [97,98,99,100,103,104,105,106,14,107,108,109,110,111,112,113,114,115,116,117,118,119,120,4,101,102,13] (fun g=> [(13,vi g.k)]) (fun g=>g.DG) (fun g=>g.k≤lines.length∧New w2.heap.size g.DG) (fun g=>lines.length - g.k) ⟨0,[]⟩ rfl rfl ?_ ?_
  ·exact⟨Nat.zero_le _,trivial⟩
  intro g j hg
  refine kv ?_
  obtain⟨k,DG⟩:=g
  simp only at hg ⊢
  obtain⟨hk,hN⟩:=hg
  by_cases hlt:k<lines.length
  ·have d5:decide ((k:Int)< (lines.length:Int))=true:=decide_eq_true (by omega)
   have hlb:=hl2.lt (by omega)
   have hgb:=hl3.lt (by omega)
   have ix2:=hl2.idx true k hlt
   have ix3:=hl3.idx true k hlt
   have ld2:=hl2.load zq_ (by omega) hlt
   have ld3:=hl3.load zq_ (by omega) hlt
   have rl: ∀X,New w2.heap.size X→zv_ w2 X lb=some (.cells larr lE lfz):=fun X hX=>by rw[z8_ (hX.not hlb)];exact hl2.has (by omega)
   have rg: ∀X,New w2.heap.size X→zv_ w2 X gb=some (.cells garr gE gfz):=fun X hX=>by rw[z8_ (hX.not hgb)];exact hl3.has (by omega)
   have rl1:=rl _ hN
   generalize lines.getD k Go.Proofs.ln0=r at*
   first|with_reducible refine ks [21] (And.intro @zy_ (And.intro @ln2 (And.intro @d5 (And.intro @ix2 (And.intro @rl1 (@ld2)))))) ?_|refine kp (And.intro @zy_ (And.intro @ln2 (And.intro @d5 (And.intro @ix2 (And.intro @rl1 (@ld2)))))) ?_
   refine Ow.alloc rfl rfl Vw_ fun b14 hb14 hw14=> ?_
   simp only[zg_,List.nil_append,List.cons_append]
   refine Ow.permL (M:=(b14, .cells (lnC Go.Proofs.ln0).toArray 88 (0,0))::DG) (by classical exact List.perm_iff_count.2 fun a=>by simp only[List.count_append,List.count_cons,List.count_nil]<;>omega) ?_
   refine ko @zy_ ?_
   have hN14:New w2.heap.size ((b14,Obj.cells (lnC r).toArray 88 (0,0))::DG):=⟨hw14,hN⟩
   have rg1:=rg _ hN14
   have nr:=neLn r r
   rw[VO_] at nr
   refine Cw.regionS [b14,gb] [0,1,2,4,6,8,10,3,5,7,9,11,12,13] [] (by kernel_rfl) (by kernel_rfl) (by kernel_rfl) ?_
   simp only[zh_, ↓zd_, ↓zb_, ↓zl_, ↓zm_,za_]
   refine kq (And.intro @zy_ (And.intro @ix3 (And.intro @rg1 (@ld3)))) ?_
   refine Ow.build (.agg (lnC r).toArray) rfl (QD_ r) ?_
   refine kq (And.intro @zy_ @nr) ?_
   try with_reducible refine Ow.nil ?_
   first|with_reducible refine ks [] @zy_ ?_|refine kp @zy_ ?_
   exact Again.mk ⟨k+1,(b14,Obj.cells (lnC r).toArray 88 (0,0))::DG⟩ (by show lines.length - (k+1)<lines.length - k;omega) ⟨hlt,hN14⟩ rfl rfl
  obtain rfl:k=lines.length:=by omega
  have d5:decide ((lines.length:Int)< (lines.length:Int))=false:=decide_eq_false (by omega)
  first|with_reducible refine ks [] (And.intro @zy_ (And.intro @ln2 (@d5))) ?_|refine kp (And.intro @zy_ (And.intro @ln2 (@d5))) ?_
  refine Cw.loopG (G:=MoL) [121,122,123,124,128,129,130,131,132,133,127,134,135,136,17,16,18,138,139,140,141,142,143,137,144,145,19,20,147,148,149,150,151,152,146,153,154,155,22,21,23,156,157,158,159,160,161,162,163,164,165,166,167,168,169,170,171,172,173,174,175,176,177,178,179,180,181,182,183,184,185,186,187,188,189,190,191,192,193,194,195,196,197,198,199,200,201,202,203,4,125,126,15] (fun p=> [(15,vi p.k)]) (fun p=>p.DG) (fun p=>p.k≤I.length∧New w2.heap.size p.DG) (fun p=>I.length - p.k) ⟨0,DG⟩ rfl rfl ?_ ?_
  ·exact⟨Nat.zero_le _,hN⟩
  intro p jp hp
  refine kv ?_
  clear hN hk
  obtain⟨k,DG⟩:=p
  simp only at hp ⊢
  obtain⟨hk,hN⟩:=hp
  by_cases hlt:k<I.length
  ·have d6:decide ((k:Int)< (I.length:Int))=true:=decide_eq_true (by omega)
   have hb:=hr.has (by omega)
   have hrl:=hr.lt (by omega)
   have ix:=hr.idx true k hlt
   have ld:=alE_ hr hlt
   have rd: ∀X,New w2.heap.size X→zv_ w2 X rb=some (.cells arr E fz):=fun X hX=>by rw[z8_ (hX.not hrl)];exact hb
   have rd1:=rd _ hN
   generalize I.getD k id0=i at*
   first|with_reducible refine ks [29] (And.intro @zy_ (And.intro @ln (And.intro @d6 (And.intro @ix (And.intro @rd1 (@ld)))))) ?_|refine kp (And.intro @zy_ (And.intro @ln (And.intro @d6 (And.intro @ix (And.intro @rd1 (@ld)))))) ?_
   refine Ow.callFV rfl Tryz.call42 (fun w' hw'=>Ke_ bm names sums lines i w' (hI2.old hw' hN) hri (by omega) (by omega)) ?_
   unfold WZ_
   generalize hfr:xc_ lines i=fr
   obtain⟨r,ok⟩:=fr
   have nr:=neLn r r
   have nz:=neLn Go.Proofs.ln0 Go.Proofs.ln0
   rw[VO_] at nr nz
   have eb: (ok !=ok)=false:=bne_self_eq_false ok
   have es: (([]:List UInt8) != [])=false:=rfl
   have hsh:=fun h:ok=true=>acD_ hri (h▸hfr)
   obtain⟨nm,hnm⟩: ∃nm,nm=aiW_ names (r,ok):=⟨_,rfl⟩
   rw[←hnm]
   refine ko @zy_ ?_
   refine Ow.alloc rfl rfl J7_ fun b17 hb17 hw17=> ?_
   simp only[zg_,List.nil_append,List.cons_append]
   refine Ow.permL (M:=(b17, .cells (lnC Go.Proofs.ln0).toArray 89 (0,0))::DG) (by classical exact List.perm_iff_count.2 fun a=>by simp only[List.count_append,List.count_cons,List.count_nil]<;>omega) ?_
   have hN17:New w2.heap.size ((b17,Obj.cells (lnC r).toArray 89 (0,0))::DG):=⟨hw17,hN⟩
   have rd2:=rd _ hN17
   refine ko (And.intro @zy_ (And.intro @ix (And.intro @rd2 (@ld)))) ?_
   refine Ow.callFV rfl Tryz.call43 (fun w' hw'=>VB_ x2 lines i w' (hx2.oldN hw' hN17) (by omega)) ?_
   rw[hfr]
   refine ko @zy_ ?_
   refine Ow.alloc rfl rfl Vw_ fun b19 hb19 hw19=> ?_
   simp only[zg_,List.nil_append,List.cons_append]
   have h1719:b17<b19:=zs_ hb19 (by simp[keys])
   refine Ow.permL (M:=(b19, .cells (lnC Go.Proofs.ln0).toArray 88 (0,0)):: (b17, .cells (lnC r).toArray 89 (0,0))::DG) (by classical exact List.perm_iff_count.2 fun a=>by simp only[List.count_append,List.count_cons,List.count_nil]<;>omega) ?_
   have hN19:New w2.heap.size ((b19,Obj.cells (lnC r).toArray 88 (0,0)):: (b17,Obj.cells (lnC r).toArray 89 (0,0))::DG):=⟨hw19,hN17⟩
   have rd3:=rd _ hN19
   refine ko (And.intro @zy_ (And.intro @ix (And.intro @rd3 (@ld)))) ?_
   refine Ow.callFV rfl Tryz.call42 (fun w' hw'=>afb_ i w') ?_
   refine ko @zy_ ?_
   refine Ow.alloc rfl rfl J7_ fun b22 hb22 hw22=> ?_
   simp only[zg_,List.nil_append,List.cons_append]
   have h1722:b17<b22:=zs_ hb22 (by simp[keys])
   have h1922:b19<b22:=zs_ hb22 (by simp[keys])
   refine Ow.permL (M:=(b22, .cells (lnC Go.Proofs.ln0).toArray 89 (0,0)):: (b19, .cells (lnC r).toArray 88 (0,0)):: (b17, .cells (lnC r).toArray 89 (0,0))::DG) (by classical exact List.perm_iff_count.2 fun a=>by simp only[List.count_append,List.count_cons,List.count_nil]<;>omega) ?_
   have hN22:New w2.heap.size ((b22,Obj.cells (lnC Go.Proofs.ln0).toArray 89 (0,0)):: (b19, .cells (lnC r).toArray 88 (0,0)):: (b17, .cells (lnC r).toArray 89 (0,0))::DG):=⟨hw22,hN19⟩
   cases ok with
   |true=>
    obtain⟨t,ht,htl⟩:=hsh rfl
    have hnb:=hn.lt (by omega)
    have ixn:=hn.idx false t htl
    have ldn:=fun n=>jV_ hn htl n
    have rdn:zv_ w2 ((b22,Obj.cells (lnC Go.Proofs.ln0).toArray 89 (0,0)):: (b19, .cells (lnC r).toArray 88 (0,0)):: (b17, .cells (lnC r).toArray 89 (0,0))::DG) nb=some (.cells narr nE nfz):=by rw[z8_ (hN22.not hnb)];exact hn.has (by omega)
    obtain rfl:nm=names.getD t []:=by rw[hnm];unfold aiW_;rw[if_pos rfl];show names.getD r.share.toNat []=_;rw[ht];rfl
    have e7: (names.getD t [] !=names.getD t [])=false:=bne_self_eq_false _
    refine ko @zy_ ?_
    first|with_reducible refine ks [] (And.intro @zy_ (And.intro @Vc_ (@eb))) ?_|refine kp (And.intro @zy_ (And.intro @Vc_ (@eb))) ?_
    refine Ow.build (.agg (lnC r).toArray) rfl (QD_ r) ?_
    refine ko (And.intro @zy_ (And.intro @nr (And.intro @ht (And.intro @ixn (And.intro @rdn (And.intro @ldn (And.intro @e7 (@es)))))))) ?_
    refine Ow.build (.agg (lnC Go.Proofs.ln0).toArray) rfl adw_ ?_
    refine ko (And.intro @zy_ @nz) ?_
    first|with_reducible refine ks [] @zy_ ?_|refine kp @zy_ ?_
    exact Again.mk ⟨k+1,(b22, .cells (lnC Go.Proofs.ln0).toArray 89 (0,0)):: (b19, .cells (lnC r).toArray 88 (0,0)):: (b17, .cells (lnC r).toArray 89 (0,0))::DG⟩ (by show I.length - (k+1)<I.length - k;omega) ⟨hlt,hN22⟩ rfl rfl
   |false=>
    obtain rfl:nm= []:=hnm
    refine ko @zy_ ?_
    first|with_reducible refine ks [] (And.intro @zy_ (And.intro @Vc_ (@eb))) ?_|refine kp (And.intro @zy_ (And.intro @Vc_ (@eb))) ?_
    refine Ow.build (.agg (lnC r).toArray) rfl (QD_ r) ?_
    refine ko (And.intro @zy_ (And.intro @nr (@es))) ?_
    refine Ow.build (.agg (lnC Go.Proofs.ln0).toArray) rfl adw_ ?_
    refine ko (And.intro @zy_ @nz) ?_
    first|with_reducible refine ks [] @zy_ ?_|refine kp @zy_ ?_
    exact Again.mk ⟨k+1,(b22, .cells (lnC Go.Proofs.ln0).toArray 89 (0,0)):: (b19, .cells (lnC r).toArray 88 (0,0)):: (b17, .cells (lnC r).toArray 89 (0,0))::DG⟩ (by show I.length - (k+1)<I.length - k;omega) ⟨hlt,hN22⟩ rfl rfl
  ·obtain rfl:k=I.length:=by omega
   have d6:decide ((I.length:Int)< (I.length:Int))=false:=decide_eq_false (by omega)
   first|with_reducible refine ks [] (And.intro @zy_ (And.intro @ln (@d6))) ?_|refine kp (And.intro @zy_ (And.intro @ln (@d6))) ?_
   refine Ow.callFV rfl Tryz.call30 (fun w' hw'=>qL_ w' (hC2.newP hw' hN)) ?_
   refine ko @zy_ ?_
   first|with_reducible refine ks [] @zy_ ?_|refine kp @zy_ ?_
   refine⟨_,(ke @zy_),hN, ?_⟩
   rfl
end Go.Proofs
end
section
open Go Go.Proofs Go.Sx Go.StP Go.Flo
namespace Go.Proofs
set_option maxRecDepth 10000
set_option maxHeartbeats 1000000
set_option linter.unusedSimpArgs false
set_option linter.defProp false
def apI_:=And.intro (And.intro (@zf_) (And.intro (@ze_) (@qZ_))) (And.intro (And.intro (@qs_) (@qo_)) (And.intro (@qC_) (@qY_)))
end Go.Proofs
end
section
open Go Go.Proofs Go.Sx Go.StP Go.Flo
namespace Go.Proofs
set_option maxRecDepth 10000
set_option maxHeartbeats 1000000
set_option linter.unusedSimpArgs false
theorem amP_ (k k':Int) (t t':List UInt8):qE_ Tryz.prog .neq 177 (obV k t) (obV k' t')=some (.bool (!decide ((⟨k,t⟩:ObL)=⟨k',t'⟩))):=any_ ⟨k,t⟩ ⟨k',t'⟩
structure SmG where
 i:Nat
 DG:zc_
set_option linter.defProp false
def apS_:=And.intro (And.intro (And.intro (@zf_) (@ze_)) (And.intro (@qZ_) (And.intro (@qs_) (@qo_)))) (And.intro (And.intro (@qC_) (And.intro (@qY_) (@aek_))) (And.intro (@amP_) (And.intro (@Sx.tup2_0) (@Sx.tup2_1))))
end Go.Proofs
end
section
open Go Go.Proofs Go.Sx Go.StP Go.Flo
namespace Go.Proofs
set_option maxRecDepth 10000
set_option maxHeartbeats 1000000
set_option linter.unusedSimpArgs false
def Dst (l:List IdL):Prop:= ∀k,k<l.length→idxG (l.getD k id0) l 0=(k:Int)
set_option linter.defProp false
def aqs_:=And.intro (And.intro (And.intro (@zf_) (@ze_)) (And.intro (@qZ_) (And.intro (@qs_) (@qo_)))) (And.intro (And.intro (@qC_) (And.intro (@qY_) (@aek_))) (And.intro (@amP_) (And.intro (@Sx.tup2_0) (@Sx.tup2_1))))
end Go.Proofs
end
section
open Go Go.Proofs Go.Sx Go.StP Go.ChangeShapes
namespace Go.Proofs
set_option maxRecDepth 10000
set_option maxHeartbeats 400000
end Go.Proofs
end
section
open Go Go.Proofs Go.Sx
namespace Go.Proofs
set_option maxRecDepth 10000
set_option maxHeartbeats 400000
theorem akL_ {H:Type} {tell:TypeId×Value→H} {W:World} {base:Nat} {sp:Nat→Bool} {held:Bool} {n:Nat} {cs:List Value} {y:DataW H×List MemPlace}
  (h:DataW.trod tell Tryz.prog W base sp held n 86 cs=some y): ∃i:IdL,cs=i.l.map v8:=by
 obtain⟨xs,m,-,-,hlen,hxl,hel⟩:=DataW.trod_array Tryz.underlying86 h
 have hc: (Tryz.prog).cellsOf 86=32:=by kernel_rfl
 have h1: (Tryz.prog).cellsOf 5=1:=by kernel_rfl
 rw[hc] at hlen
 rw[h1] at hel
 have hex: ∀i (hi:i<cs.length),∃x:UInt8,cs[i]=v8 x:=by
  intro i hi
  have h2:=hel i (by omega)
  rw[List.getElem?_eq_getElem (by omega),Nat.mul_one,List.drop_eq_getElem_cons hi,List.take_succ_cons,List.take_zero] at h2
  obtain⟨z,hz,-,hw⟩:=DataW.trod_int Tryz.underlying5 h2
  simp only[List.cons.injEq,and_true] at hz
  rw[hz]
  simp only[Lit.wf,Bool.and_eq_true,decide_eq_true_eq] at hw
  have hw1:0≤z:=by simpa [IntKind.min,IntKind.bits,IntKind.signed] using hw.1
  have hw2:z≤255:=by simpa [IntKind.max,IntKind.bits,IntKind.signed] using hw.2
  refine⟨UInt8.ofNat z.toNat, ?_⟩
  unfold v8
  rw[UInt8.toNat_ofNat',Nat.mod_eq_of_lt (by omega)]
  congr 1;omega
 have hl: ∃l:List UInt8,cs=l.map v8:=by
  clear hel hlen hxl h
  induction cs with
  |nil=>exact⟨[],rfl⟩
  |cons c r ih=>
   obtain⟨x,hx⟩:=hex 0 (by simp)
   obtain⟨l,hl⟩:=ih (fun i hi=>by have:=hex (i+1) (by simpa using hi);simpa using this)
   exact⟨x::l,by rw[hl];simp at hx;simp[hx]⟩
 obtain⟨l,rfl⟩:=hl
 exact⟨⟨l,by simpa using hlen⟩,rfl⟩
end Go.Proofs
end
section
open Go Go.Proofs Go.Sx Go.StP Go.ChangeShapes
namespace Go.Proofs
set_option maxRecDepth 10000
set_option maxHeartbeats 400000
theorem ahX_ {H:Type} {enc:TypeId×Value→H} {W:World} {r:Reach} {b0 base:Nat} {sp:Nat→Bool} {held:Bool} {v:Value} {d:DataW H} {p:List MemPlace}
  (hval:Value.okWide Tryz.prog W r b0 75 v) (hd:DataW.Trod enc Tryz.prog W base sp held 75 v d p): ∃l,SlV 32 idLC id0 W v l:=by
 obtain⟨a0,len,cap,rfl⟩:=WideShapes.okWide_slice Tryz.underlying75 hval
 obtain⟨fu,hf⟩:=hd
 exact ajg_ (z:=id0) Tryz.underlying75 (by kernel_rfl) (by decide) Wn_ hval (fun n cs y h=>by obtain⟨i,hi⟩:=akL_ h;exact⟨i,hi⟩) hf
end Go.Proofs
end
