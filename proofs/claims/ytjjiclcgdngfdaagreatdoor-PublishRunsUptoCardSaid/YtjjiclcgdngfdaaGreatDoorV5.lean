/-
  Part 5 of the walk: contracts of the functions that the law reaches, and the calculus they stand on.
  No conditions.
-/
import Derived.Test.YtjjiclcgdngfdaaGreatDoorV4
section
open Go Go.Proofs Go.Sx Go.StP Go.Flo
open Go.ChangeShapes Go.WideShapes Go.ChangeAt Go.RowKit Go.ChangeMaps
namespace Go.Proofs
set_option maxRecDepth 10000
set_option maxHeartbeats 1000000
set_option linter.unusedSimpArgs false
theorem R1 {H:Type} {tell:TypeId×Value→H} {W:World} {base:Nat} {sp:Nat→Bool} {dT:Bool} (n:Nat) (cs:List Value) (y:DataW H×List MemPlace)
  (h:DataW.trod tell Tryz.prog W base sp dT n 66 cs=some y): ∃a:JbL,cs=jbC a:=by
 obtain⟨xs,m,-,-,aP,jL,lT⟩:=DataW.trod_struct Tryz.underlying66 h
 have hc: (Tryz.prog).cellsOf 66=4:=by kernel_rfl
 have dL: (Tryz.prog).cellsOf 9=1:=by kernel_rfl
 have hcb: (Tryz.prog).cellsOf 4=1:=by kernel_rfl
 rw[hc] at aP
 have jL:xs.length=4:=jL
 have h0:DataW.trod tell Tryz.prog W base sp dT m 9 ((cs.drop 0).take ((Tryz.prog).cellsOf 9))=xs[0]? :=lT 0 _ rfl
 rw[dL,List.getElem?_eq_getElem (by omega)] at h0
 have h1:DataW.trod tell Tryz.prog W base sp dT m 9 ((cs.drop 1).take ((Tryz.prog).cellsOf 9))=xs[1]? :=lT 1 _ rfl
 rw[dL,List.getElem?_eq_getElem (by omega)] at h1
 have h2:DataW.trod tell Tryz.prog W base sp dT m 9 ((cs.drop 2).take ((Tryz.prog).cellsOf 9))=xs[2]? :=lT 2 _ rfl
 rw[dL,List.getElem?_eq_getElem (by omega)] at h2
 have h3:DataW.trod tell Tryz.prog W base sp dT m 4 ((cs.drop 3).take ((Tryz.prog).cellsOf 4))=xs[3]? :=lT 3 _ rfl
 rw[hcb,List.getElem?_eq_getElem (by omega)] at h3
 obtain⟨d,hd,-,-⟩:=DataW.trod_string Tryz.underlying9 h0
 obtain⟨u,hu,-,-⟩:=DataW.trod_string Tryz.underlying9 h1
 obtain⟨s,hs,-,-⟩:=DataW.trod_string Tryz.underlying9 h2
 obtain⟨b,hb,-⟩:=DataW.trod_bool Tryz.underlying4 h3
 refine⟨⟨d.data.toList,u.data.toList,s.data.toList,b⟩, ?_⟩
 have Se:cs=(cs.drop 0).take 1++ ((cs.drop 1).take 1++ ((cs.drop 2).take 1++ (cs.drop 3).take 1)):=by
  match cs,aP with
  | [c0,c1,c2,c3],_=>rfl
 rw[Se,hd,hu,hs,hb]
 rfl
end Go.Proofs
end
section
open Go Go.Proofs Go.Sx Go.StP Go.Flo
open Go.ChangeShapes Go.WideShapes Go.ChangeAt Go.RowKit Go.ChangeMaps
namespace Go.Proofs
set_option maxRecDepth 10000
set_option maxHeartbeats 1000000
set_option linter.unusedSimpArgs false
theorem Lr {H:Type} {enc:TypeId×Value→H} {W:World} {r:Reach} {b0 base:Nat} {sp:Nat→Bool} {dT:Bool} {v:Value} {d:DataW H} {p:List MemPlace}
  (dH:Value.okWide Tryz.prog W r b0 71 v) (hd:DataW.Trod enc Tryz.prog W base sp dT 71 v d p):
  ∃l,JbSl W v l∧True:=by
 obtain⟨a0,len,cap,rfl⟩:=WideShapes.okWide_slice Tryz.underlying71 dH
 obtain⟨fu,hf⟩:=hd
 obtain⟨l,h1,-⟩:=Er (z:=jb0) (R:=fun _ _=>True) Tryz.underlying71 (by kernel_rfl) (by decide) w8 dH (fun n cs y h=>by
  obtain⟨a,ha⟩:=R1 n cs y h
  exact⟨a,ha,trivial⟩) hf
 exact⟨l,h1,trivial⟩
theorem KI {H:Type} {enc:TypeId×Value→H} {W:World} {r:Reach} {b0 base:Nat} {sp:Nat→Bool} {dT:Bool} {v:Value} {d:DataW H} {p:List MemPlace}
  (dH:Value.okWide Tryz.prog W r b0 72 v) (hd:DataW.Trod enc Tryz.prog W base sp dT 72 v d p):
  ∃l,NmSl W v l∧(l= []∨ ∃es sp',d= .slice es sp'∧ ∀i,i<l.length→ ∃e,e∈es∧e= .lit (.string (l.getD i []))):=by
 obtain⟨a0,len,cap,rfl⟩:=WideShapes.okWide_slice Tryz.underlying72 dH
 obtain⟨fu,hf⟩:=hd
 exact Er (z:= []) (R:=fun a e=>e= .lit (.string a)) Tryz.underlying72 (by kernel_rfl) (by decide) wE dH (fun n cs y h=>by
  obtain⟨s,hs,UB,-⟩:=DataW.trod_string Tryz.underlying9 h
  exact⟨s.data.toList,by rw[hs];rfl,by rw[UB]⟩) hf
end Go.Proofs
end
namespace Go.Sx
open Go
theorem My {P:Program} {f:FuncId} {fn:Func} {s:ChangeSpec} {c:OpenClaim}
  (h1: (c.wf (OpenSpec.ofChange s))=true)
  (h2: (laidOutB P)=true)
  (h3: (mapsRowed P)=true)
  (h4: (fn.params.all (P.readableRec ·))=true)
  (h5: (namedTie P c.named s.vars)=true)
  (h6: ((c.stops== []))=true)
  (h7: ((P.stops== []))=true)
  (h8: ((c.knobs== []))=true)
  (h9: ((P.stopKnobs== []))=true)
  (W8: ((c.inPlace==P.inPlace f))=true)
  (ZH: ((c.unfollowed==P.unfollowed f))=true)
  (A3: ((c.recurses==P.recurses f))=true)
  (DK: ((c.named==P.varsNamed f))=true)
  (W9: ((c.maps==(fn.params.toList++s.plain.varTypes P).any (P.mapsRec ·)))=true)
  (ZI: ((c.ifaces==(fn.params.toList++s.plain.varTypes P).any (P.ifacesRec ·)))=true)
  (ZJ: ((c.mapsOut==P.mapsAmong fn.resultTypes.toList))=true)
  (ZK: ((c.loops==(fn.params.toList++s.plain.varTypes P).any (P.loopsFrom ·)))=true)
  (ZL: ((c.wideKeys==(fn.params.toList++s.plain.varTypes P++fn.resultTypes.toList).any (P.wideKeysFrom ·)))=true)
  (ZM: (s.vars.all (P.varReadable ·))=true)
  (ZO: (fn.resultTypes.all (fun t=>P.readableRec t&&decide (t<P.types.size)))=true)
  (ZP: ((c.ifacesOut==fn.resultTypes.toList.any (P.ifacesRec ·)))=true)
  (ZQ: ((c.loopsOut==fn.resultTypes.toList.any (P.loopsFrom ·)))=true)
  (DL: ((c.plainKeys==P.plainKeys))=true)
  (Ro: (c.shortTexts.isNone)=true)
  (WC: (P.stopsHeard)=true)
  (ZR: (P.mayEnter)=true)
  (ZS: ((c.lifted==P.liftsFinal))=true)
  (ZT: ((P.make==some c.make))=true)
  (ZU: ((c.kinds==(if c.domain.isEmpty then [] else fn.params.toList.map fun t=>match P.underlying t with|some (.int k)=>some k|_=>none)))=true)
  (ZW: ((c.pinned==c.pinnedBy))=true)
  (ZX: ((c.veiled==(fn.params.toList++s.plain.varTypes P++fn.resultTypes.toList).any (P.veiledRec ·)))=true)
  (WD: (c.veiledFits P fn.params.toList (fn.params.toList++s.plain.varTypes P++fn.resultTypes.toList))=true):
  joinedFacts P f fn s c=true:=by
 unfold joinedFacts
 exact(Bool.and_eq_true_iff.2 ⟨(Bool.and_eq_true_iff.2 ⟨(Bool.and_eq_true_iff.2 ⟨(Bool.and_eq_true_iff.2 ⟨(Bool.and_eq_true_iff.2 ⟨(Bool.and_eq_true_iff.2 ⟨(Bool.and_eq_true_iff.2 ⟨(Bool.and_eq_true_iff.2 ⟨(Bool.and_eq_true_iff.2 ⟨(Bool.and_eq_true_iff.2 ⟨(Bool.and_eq_true_iff.2 ⟨(Bool.and_eq_true_iff.2 ⟨(Bool.and_eq_true_iff.2 ⟨(Bool.and_eq_true_iff.2 ⟨(Bool.and_eq_true_iff.2 ⟨(Bool.and_eq_true_iff.2 ⟨(Bool.and_eq_true_iff.2 ⟨(Bool.and_eq_true_iff.2 ⟨(Bool.and_eq_true_iff.2 ⟨(Bool.and_eq_true_iff.2 ⟨(Bool.and_eq_true_iff.2 ⟨(Bool.and_eq_true_iff.2 ⟨(Bool.and_eq_true_iff.2 ⟨(Bool.and_eq_true_iff.2 ⟨(Bool.and_eq_true_iff.2 ⟨(Bool.and_eq_true_iff.2 ⟨(Bool.and_eq_true_iff.2 ⟨(Bool.and_eq_true_iff.2 ⟨(Bool.and_eq_true_iff.2 ⟨(Bool.and_eq_true_iff.2 ⟨(Bool.and_eq_true_iff.2 ⟨h1,h2⟩),h3⟩),h4⟩),h5⟩),h6⟩),h7⟩),h8⟩),h9⟩),W8⟩),ZH⟩),A3⟩),DK⟩),W9⟩),ZI⟩),ZJ⟩),ZK⟩),ZL⟩),ZM⟩),ZO⟩),ZP⟩),ZQ⟩),DL⟩),Ro⟩),WC⟩),ZR⟩),ZS⟩),ZT⟩),ZU⟩),ZW⟩),ZX⟩),WD⟩)
end Go.Sx
