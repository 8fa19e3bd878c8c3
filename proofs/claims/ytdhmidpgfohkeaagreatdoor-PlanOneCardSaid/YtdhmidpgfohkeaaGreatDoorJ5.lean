/-
  Part 5 of the walk: contracts of the functions that the law reaches, and the calculus they stand on.
  No conditions.
-/
import Derived.Test.YtdhmidpgfohkeaaGreatDoorJ4
import Derived.Deep.Strs
set_option linter.unusedVariables false
section
open Go Go.Proofs Go.Sx Go.StP Go.ChangeShapes
namespace Go.Proofs
set_option maxRecDepth 100000
set_option maxHeartbeats 1000000
set_option linter.unusedSimpArgs false
theorem anp_ {H:Type} {tell:TypeId×Value→H} {W:World} {base:Nat} {sp:Nat→Bool} {held:Bool} (n:Nat) (cs:List Value) (y:DataW H×List MemPlace)
  (h:DataW.trod tell Tryz.prog W base sp held n 26 cs=some y): ∃o:ObK,cs=j7_ o:=by
 have hc: (Tryz.prog).cellsOf 26=2:=by kernel_rfl
 have hc3: (Tryz.prog).cellsOf 3=1:=by kernel_rfl
 have hcT: (Tryz.prog).cellsOf 9=1:=by kernel_rfl
 obtain⟨y0,y1,n',-,hlen,h0,h1⟩:=ChangeShapes.trod_struct2 Tryz.underlying26 h
 simp only at h0 h1 hlen
 rw[hc3,List.drop_zero] at h0
 rw[hcT] at h1
 rw[hc] at hlen
 obtain⟨z,hz,-,-⟩:=DataW.trod_int Tryz.underlying3 h0
 obtain⟨s,hs2,-,-⟩:=DataW.trod_string Tryz.underlying9 h1
 have hd:cs=cs.take 1++ (cs.drop 1).take 1:=by
  rw[show(cs.drop 1).take 1=cs.drop 1 from List.take_of_length_le (by rw[List.length_drop];omega),List.take_append_drop]
 rw[hz,hs2] at hd
 exact⟨⟨z,s.data.toList⟩,by rw[hd];rfl⟩
theorem aiq_ {H:Type} {enc:TypeId×Value→H} {W:World} {r:Reach} {b0 base:Nat} {sp:Nat→Bool} {held:Bool} {v:Value} {d:DataW H} {p:List MemPlace}
  (hval:Value.okWide Tryz.prog W r b0 22 v) (hd:DataW.Trod enc Tryz.prog W base sp held 22 v d p): ∃l,SlV 2 j7_ xM_ W v l:=by
 obtain⟨a0,len,cap,rfl⟩:=WideShapes.okWide_slice Tryz.underlying22 hval
 obtain⟨fu,hf⟩:=hd
 exact amt_ (z:=xM_) Tryz.underlying22 (by kernel_rfl) (by decide) xa_ hval anp_ hf
theorem anf_ {w:World} {r:Reach} {b:Nat} {v:Value} (h:Cell.ok Tryz.prog w r b 102 v): ∃k:Nat×Nat,v=cxw k.1 k.2:=by
 unfold Cell.ok at h
 rw[Tryz.underlying102] at h
 cases v with
 |complex k re im=>obtain⟨rfl,-,-⟩:=h;exact⟨(re,im),rfl⟩
 |_=>exact h.elim
theorem aeG_: ∀cs:List Value,(∀v,v∈cs→ ∃k:Nat×Nat,v=cxw k.1 k.2)→ ∃l:List (Nat×Nat),cs=l.map fun k=>cxw k.1 k.2
 | [],_=>⟨[],rfl⟩
 |v::cs,h=>by
  obtain⟨l,rfl⟩:=aeG_ cs fun v hv=>h v (List.mem_cons_of_mem _ hv)
  obtain⟨k,rfl⟩:=h v List.mem_cons_self
  exact⟨k::l,rfl⟩
theorem aiJ_: ((begin Tryz.prog (fun _ _=>0) default).world.heap[(4:Nat)]?).bind Obj.row? =some (#[cxw 0 0,cxw 0 0,cxw 0 0,cxw 0 0],103):=by kernel_rfl
theorem abC_:Tryz.prog.cellTypes Tryz.prog.depth 103=some [102,102,102,102]:=by kernel_rfl
theorem arr_ {W:World} (h:W.ShapedOpen Tryz.prog): ∃T,GlobT T W:=by
 obtain⟨cs,h1,h2,h3⟩:=h.1 (4:Nat) _ _ (of_decide_eq_true (by kernel_rfl)) aiJ_
 obtain⟨ts,h4,-,h5⟩:=h3 (by kernel_rfl)
 rw[abC_] at h4
 cases h4
 obtain⟨l,hl⟩:=aeG_ cs.toList fun v hv=>by
  obtain⟨i,hi,rfl⟩:=List.getElem_of_mem hv
  obtain⟨u,hu,hok⟩:=h5 i cs.toList[i] (by rw[←Array.getElem?_toList];exact List.getElem?_eq_getElem hi)
  have h6:i%4<4:=Nat.mod_lt _ (by decide)
  have hu': ([102,102,102,102]:List TypeId)[i%4]? =some u:=hu
  have:u=102:=by
   generalize i%4=j at*
   match j,h6 with
   |0,_=>cases hu';rfl
   |1,_=>cases hu';rfl
   |2,_=>cases hu';rfl
   |3,_=>cases hu';rfl
  rw[this] at hok
  exact anf_ hok
 refine⟨l.map dtc,l, ?_,rfl,103,(0,0), ?_⟩
 ·have:=congrArg List.length hl
  rw[List.length_map,Array.length_toList,h2] at this
  exact this.symm
 ·rw[h1,akk_,←hl]
theorem aqd_ {n:Int} (h: (Lit.int .u8 n).wf=true): ∃c:UInt8,Value.int .u8 n=v8 c:=by
 simp only[Lit.wf,Bool.and_eq_true,decide_eq_true_eq] at h
 have h1: (0:Int)≤n:=h.1
 have h2:n≤255:=h.2
 refine⟨UInt8.ofNat n.toNat, ?_⟩
 unfold v8
 rw[UInt8.toNat_ofNat',Nat.mod_eq_of_lt (by omega),Int.toNat_of_nonneg h1]
end Go.Proofs
end
namespace Go.Sx
open Go
theorem akf_ {P:Program} {f:FuncId} {fn:Func} {s:ChangeSpec} {c:OpenClaim}
  (h1: (c.wf (OpenSpec.ofChange s))=true)
  (h2: (laidOutB P)=true)
  (h3: (mapsRowed P)=true)
  (h4: (fn.params.all (P.readableRec ·))=true)
  (h5: (namedTie P c.named s.vars)=true)
  (h6: ((c.stops== []))=true)
  (h7: ((P.stops== []))=true)
  (h8: ((c.knobs== []))=true)
  (h9: ((P.stopKnobs== []))=true)
  (h10: ((c.inPlace==P.inPlace f))=true)
  (h11: ((c.unfollowed==P.unfollowed f))=true)
  (h12: ((c.recurses==P.recurses f))=true)
  (h13: ((c.named==P.varsNamed f))=true)
  (h14: ((c.maps==(fn.params.toList++s.plain.varTypes P).any (P.mapsRec ·)))=true)
  (h15: ((c.ifaces==(fn.params.toList++s.plain.varTypes P).any (P.ifacesRec ·)))=true)
  (h16: ((c.mapsOut==P.mapsAmong fn.resultTypes.toList))=true)
  (h17: ((c.loops==(fn.params.toList++s.plain.varTypes P).any (P.loopsFrom ·)))=true)
  (h18: ((c.wideKeys==(fn.params.toList++s.plain.varTypes P++fn.resultTypes.toList).any (P.wideKeysFrom ·)))=true)
  (h19: (s.vars.all (P.varReadable ·))=true)
  (h20: (fn.resultTypes.all (fun t=>P.readableRec t&&decide (t<P.types.size)))=true)
  (h21: ((c.ifacesOut==fn.resultTypes.toList.any (P.ifacesRec ·)))=true)
  (h22: ((c.loopsOut==fn.resultTypes.toList.any (P.loopsFrom ·)))=true)
  (h23: ((c.plainKeys==P.plainKeys))=true)
  (h24: (c.shortTexts.isNone)=true)
  (h25: (P.stopsHeard)=true)
  (h26: (P.mayEnter)=true)
  (h27: ((c.lifted==P.liftsFinal))=true)
  (h28: ((P.make==some c.make))=true)
  (h29: ((c.kinds==(if c.domain.isEmpty then [] else fn.params.toList.map fun t=>match P.underlying t with|some (.int k)=>some k|_=>none)))=true)
  (h30: ((c.pinned==c.pinnedBy))=true)
  (h31: ((c.veiled==(fn.params.toList++s.plain.varTypes P++fn.resultTypes.toList).any (P.veiledRec ·)))=true)
  (h32: (c.veiledFits P fn.params.toList (fn.params.toList++s.plain.varTypes P++fn.resultTypes.toList))=true):
  joinedFacts P f fn s c=true:=by
 unfold joinedFacts
 exact(Bool.and_eq_true_iff.2 ⟨(Bool.and_eq_true_iff.2 ⟨(Bool.and_eq_true_iff.2 ⟨(Bool.and_eq_true_iff.2 ⟨(Bool.and_eq_true_iff.2 ⟨(Bool.and_eq_true_iff.2 ⟨(Bool.and_eq_true_iff.2 ⟨(Bool.and_eq_true_iff.2 ⟨(Bool.and_eq_true_iff.2 ⟨(Bool.and_eq_true_iff.2 ⟨(Bool.and_eq_true_iff.2 ⟨(Bool.and_eq_true_iff.2 ⟨(Bool.and_eq_true_iff.2 ⟨(Bool.and_eq_true_iff.2 ⟨(Bool.and_eq_true_iff.2 ⟨(Bool.and_eq_true_iff.2 ⟨(Bool.and_eq_true_iff.2 ⟨(Bool.and_eq_true_iff.2 ⟨(Bool.and_eq_true_iff.2 ⟨(Bool.and_eq_true_iff.2 ⟨(Bool.and_eq_true_iff.2 ⟨(Bool.and_eq_true_iff.2 ⟨(Bool.and_eq_true_iff.2 ⟨(Bool.and_eq_true_iff.2 ⟨(Bool.and_eq_true_iff.2 ⟨(Bool.and_eq_true_iff.2 ⟨(Bool.and_eq_true_iff.2 ⟨(Bool.and_eq_true_iff.2 ⟨(Bool.and_eq_true_iff.2 ⟨(Bool.and_eq_true_iff.2 ⟨(Bool.and_eq_true_iff.2 ⟨h1,h2⟩),h3⟩),h4⟩),h5⟩),h6⟩),h7⟩),h8⟩),h9⟩),h10⟩),h11⟩),h12⟩),h13⟩),h14⟩),h15⟩),h16⟩),h17⟩),h18⟩),h19⟩),h20⟩),h21⟩),h22⟩),h23⟩),h24⟩),h25⟩),h26⟩),h27⟩),h28⟩),h29⟩),h30⟩),h31⟩),h32⟩)
end Go.Sx
