/-
  Part 5 of the walk: contracts of the functions that the law reaches, and the calculus they stand on.
  No conditions.
-/
import Derived.Test.YteppologbikipaaGreatDoorA4
import Derived.ProofKit
import Derived.OpenShut
import Derived.WideKeyArgs
import Derived.ChangeSame
import Derived.ChangeMaps5
import Derived.Lib.LaidTab
import Derived.SliceStrings
import Derived.DataReads
section
open Go Go.Proofs Go.Sx Go.RefP Go.RooP
namespace Go.Proofs
set_option maxRecDepth 10000
set_option maxHeartbeats 400000
set_option linter.unusedSimpArgs false
theorem great_partsZ {t l : List RefL} (h : greatV t l = false) : t.length ≤ 30 ∧ l.length ≤ 110 ∧ SmallN t ∧ SmallN l := by
  have hn : ¬ GreatB t l := fun hg => by rw [great_yes hg] at h; cases h
  refine ⟨?_, ?_, fun g hg => ?_, fun g hg => ?_⟩
  · exact Nat.le_of_not_lt fun h => hn (.inl h)
  · exact Nat.le_of_not_lt fun h => hn (.inr (.inl h))
  · have : ¬ 100 < (t.getD g ref0).name.length := fun h => hn (.inr (.inr (.inl ⟨g, hg, h⟩)))
    omega
  · have : ¬ 100 < (l.getD g ref0).name.length := fun h => hn (.inr (.inr (.inr ⟨g, hg, h⟩)))
    omega
theorem valueB_no {t l : List RefL} {n : List UInt8} (h : rightB t l = false) : valueB t l n = z32 := by
  unfold valueB
  cases ho : ofM nameV z32 (prs t) (prs l) l.length with
  | none => rfl
  | some m =>
    simp only
    split
    · rename_i h100
      unfold rightB rightM at h
      rw [prs_len, ho] at h
      simp [h100] at h
    · rfl
theorem valL_len (n : List UInt8) : ∀ (l : List RefL), (valL n l).length = 32
  | [] => by simp [valL, z32]
  | r :: l => by
    unfold valL
    split
    · exact r.id.h
    · exact valL_len n l
set_option linter.defProp false
def uRR5_1 := And.intro (And.intro (And.intro (And.intro (@rdIn_v8) (@rdIn_v16)) (And.intro (@rdIn_v32) (@rdIn_v64))) (And.intro (And.intro (@rdIn_vi) (@load_bk0)) (And.intro (@load_bk1) (@load_bk)))) (And.intro (And.intro (And.intro (@tup2_0) (@tup2_1)) (And.intro (@tup3_0) (@tup3_1))) (And.intro (And.intro (@tup3_2) (@store_bk0)) (And.intro (@eqIdB) (@neIdB))))
theorem RefsRights_spec (vt vl : Value) (t l : List RefL) (nm : List UInt8) (w : World) (hG : GlobC w) (ht : RefSl w vt t) (hl : RefSl w vl l) :
    Rets Tryz.prog 3 #[.agg #[vt, vl], vs nm] w (fun v D => v = .bool true ∧ D = []) := by
  have hglt : (1 : Nat) < w.heap.size := by obtain ⟨e, f, h⟩ := hG; exact (Array.getElem?_eq_some_iff.1 h).1
  refine Rets.enterV Tryz.func3 rfl (rs := [.tmp 4]) Tryz.results3 Tryz.ntmps3 ?_
  simp only [List.size_toArray, List.length_cons, List.length_nil, Nat.reduceAdd, Nat.reduceSub, List.replicate_succ, List.replicate_zero, List.cons_append, List.nil_append]
  ((try with_reducible refine Cw.go [] ?_); (try simp (disch := (first | assumption | omega | (simp only [lenS, lenT, UInt64.reduceToNat]; try omega))) only [↓Sx.S0, Sx.S1, Tryz.fx, uRR5_1, Nat.reduceAdd, Nat.reducePow, Int.reducePow, Nat.reduceBEq, ↓reduceIte, UInt8.reduceToNat, UInt16.reduceToNat, UInt32.reduceToNat, UInt64.reduceToNat, Int.reduceToNat]))
  refine Ow.box rfl rfl fun bx hbx hwx => ?_
  simp only [ev_tmp, getF_0, getF_s, cells_agg, List.nil_append, List.cons_append]
  refine Ow.go rfl ?_
  simp (disch := (first | assumption | omega | (simp only [lenS, lenT, UInt64.reduceToNat]; try omega))) only [↓Sx.S0, Sx.S1, Tryz.fx, uRR5_1, Nat.reduceAdd, Nat.reducePow, Int.reducePow, Nat.reduceBEq, ↓reduceIte, UInt8.reduceToNat, UInt16.reduceToNat, UInt32.reduceToNat, UInt64.reduceToNat, Int.reduceToNat]
  ((try with_reducible refine Cw.go [] ?_); (try simp (disch := (first | assumption | omega | (simp only [lenS, lenT, UInt64.reduceToNat]; try omega))) only [↓Sx.S0, Sx.S1, Tryz.fx, uRR5_1, Nat.reduceAdd, Nat.reducePow, Int.reducePow, Nat.reduceBEq, ↓reduceIte, UInt8.reduceToNat, UInt16.reduceToNat, UInt32.reduceToNat, UInt64.reduceToNat, Int.reduceToNat]))
  have hNb : New w.heap.size [(bx, Obj.cells #[vt, vl] 24 (0, 0))] := ⟨hwx, trivial⟩
  refine Ow.callFV rfl Tryz.call4 (fun w' hw' => alive16_spec w' (GlobC.of hG hw' (hNb.not hglt))) ?_
  refine Ow.go rfl ?_
  simp (disch := (first | assumption | omega | (simp only [lenS, lenT, UInt64.reduceToNat]; try omega))) only [↓Sx.S0, Sx.S1, Tryz.fx, uRR5_1, Nat.reduceAdd, Nat.reducePow, Int.reducePow, Nat.reduceBEq, ↓reduceIte, UInt8.reduceToNat, UInt16.reduceToNat, UInt32.reduceToNat, UInt64.reduceToNat, Int.reduceToNat]
  ((try with_reducible refine Cw.go [] ?_); (try simp (disch := (first | assumption | omega | (simp only [lenS, lenT, UInt64.reduceToNat]; try omega))) only [↓Sx.S0, Sx.S1, Tryz.fx, uRR5_1, Nat.reduceAdd, Nat.reducePow, Int.reducePow, Nat.reduceBEq, ↓reduceIte, UInt8.reduceToNat, UInt16.reduceToNat, UInt32.reduceToNat, UInt64.reduceToNat, Int.reduceToNat, load_bk]))
  refine Ow.callFV rfl Tryz.call5 (fun w' hw' => Great_spec vt vl t l w' (ht.oldN hw' hNb) (hl.oldN hw' hNb)) ?_
  cases hgr : greatV t l
  case true =>
    refine Ow.go rfl ?_
    simp (disch := (first | assumption | omega | (simp only [lenS, lenT, UInt64.reduceToNat]; try omega))) only [↓Sx.S0, Sx.S1, Tryz.fx, uRR5_1, Nat.reduceAdd, Nat.reducePow, Int.reducePow, Nat.reduceBEq, ↓reduceIte, UInt8.reduceToNat, UInt16.reduceToNat, UInt32.reduceToNat, UInt64.reduceToNat, Int.reduceToNat]
    ((try with_reducible refine Cw.go [] ?_); (try simp (disch := (first | assumption | omega | (simp only [lenS, lenT, UInt64.reduceToNat]; try omega))) only [↓Sx.S0, Sx.S1, Tryz.fx, uRR5_1, Nat.reduceAdd, Nat.reducePow, Int.reducePow, Nat.reduceBEq, ↓reduceIte, UInt8.reduceToNat, UInt16.reduceToNat, UInt32.reduceToNat, UInt64.reduceToNat, Int.reduceToNat]))
    refine Ow.callFV rfl Tryz.call4 (fun w' hw' => alive16_spec w' (GlobC.of hG hw' (hNb.not hglt))) ?_
    refine Ow.go rfl ?_
    simp (disch := (first | assumption | omega | (simp only [lenS, lenT, UInt64.reduceToNat]; try omega))) only [↓Sx.S0, Sx.S1, Tryz.fx, uRR5_1, Nat.reduceAdd, Nat.reducePow, Int.reducePow, Nat.reduceBEq, ↓reduceIte, UInt8.reduceToNat, UInt16.reduceToNat, UInt32.reduceToNat, UInt64.reduceToNat, Int.reduceToNat]
    ((try with_reducible refine Cw.go [] ?_); (try simp (disch := (first | assumption | omega | (simp only [lenS, lenT, UInt64.reduceToNat]; try omega))) only [↓Sx.S0, Sx.S1, Tryz.fx, uRR5_1, Nat.reduceAdd, Nat.reducePow, Int.reducePow, Nat.reduceBEq, ↓reduceIte, UInt8.reduceToNat, UInt16.reduceToNat, UInt32.reduceToNat, UInt64.reduceToNat, Int.reduceToNat]))
    refine ⟨_, (by simp (disch := (first | assumption | omega | (simp only [lenS, lenT, UInt64.reduceToNat]; try omega))) only [↓Sx.S0, Sx.S1, Tryz.fx, uRR5_1, Nat.reduceAdd, Nat.reducePow, Int.reducePow, Nat.reduceBEq, ↓reduceIte, UInt8.reduceToNat, UInt16.reduceToNat, UInt32.reduceToNat, UInt64.reduceToNat, Int.reduceToNat]; rfl), hNb, ?_⟩
    rfl
  obtain ⟨htl, hll, hnt, hnl⟩ := great_partsZ hgr
  by_cases hn : 100 < nm.length
  · have d1 : decide ((100 : Int) < (nm.length : Int)) = true := decide_eq_true (by omega)
    refine Ow.go rfl ?_
    simp (disch := (first | assumption | omega | (simp only [lenS, lenT, UInt64.reduceToNat]; try omega))) only [↓Sx.S0, Sx.S1, Tryz.fx, uRR5_1, Nat.reduceAdd, Nat.reducePow, Int.reducePow, Nat.reduceBEq, ↓reduceIte, UInt8.reduceToNat, UInt16.reduceToNat, UInt32.reduceToNat, UInt64.reduceToNat, Int.reduceToNat, d1]
    ((try with_reducible refine Cw.go [] ?_); (try simp (disch := (first | assumption | omega | (simp only [lenS, lenT, UInt64.reduceToNat]; try omega))) only [↓Sx.S0, Sx.S1, Tryz.fx, uRR5_1, Nat.reduceAdd, Nat.reducePow, Int.reducePow, Nat.reduceBEq, ↓reduceIte, UInt8.reduceToNat, UInt16.reduceToNat, UInt32.reduceToNat, UInt64.reduceToNat, Int.reduceToNat, d1]))
    refine Ow.callFV rfl Tryz.call4 (fun w' hw' => alive16_spec w' (GlobC.of hG hw' (hNb.not hglt))) ?_
    refine Ow.go rfl ?_
    simp (disch := (first | assumption | omega | (simp only [lenS, lenT, UInt64.reduceToNat]; try omega))) only [↓Sx.S0, Sx.S1, Tryz.fx, uRR5_1, Nat.reduceAdd, Nat.reducePow, Int.reducePow, Nat.reduceBEq, ↓reduceIte, UInt8.reduceToNat, UInt16.reduceToNat, UInt32.reduceToNat, UInt64.reduceToNat, Int.reduceToNat]
    ((try with_reducible refine Cw.go [] ?_); (try simp (disch := (first | assumption | omega | (simp only [lenS, lenT, UInt64.reduceToNat]; try omega))) only [↓Sx.S0, Sx.S1, Tryz.fx, uRR5_1, Nat.reduceAdd, Nat.reducePow, Int.reducePow, Nat.reduceBEq, ↓reduceIte, UInt8.reduceToNat, UInt16.reduceToNat, UInt32.reduceToNat, UInt64.reduceToNat, Int.reduceToNat]))
    refine ⟨_, (by simp (disch := (first | assumption | omega | (simp only [lenS, lenT, UInt64.reduceToNat]; try omega))) only [↓Sx.S0, Sx.S1, Tryz.fx, uRR5_1, Nat.reduceAdd, Nat.reducePow, Int.reducePow, Nat.reduceBEq, ↓reduceIte, UInt8.reduceToNat, UInt16.reduceToNat, UInt32.reduceToNat, UInt64.reduceToNat, Int.reduceToNat]; rfl), hNb, ?_⟩
    rfl
  have d1 : decide ((100 : Int) < (nm.length : Int)) = false := by simp; omega
  refine Ow.go rfl ?_
  simp (disch := (first | assumption | omega | (simp only [lenS, lenT, UInt64.reduceToNat]; try omega))) only [↓Sx.S0, Sx.S1, Tryz.fx, uRR5_1, Nat.reduceAdd, Nat.reducePow, Int.reducePow, Nat.reduceBEq, ↓reduceIte, UInt8.reduceToNat, UInt16.reduceToNat, UInt32.reduceToNat, UInt64.reduceToNat, Int.reduceToNat, d1]
  ((try with_reducible refine Cw.go [] ?_); (try simp (disch := (first | assumption | omega | (simp only [lenS, lenT, UInt64.reduceToNat]; try omega))) only [↓Sx.S0, Sx.S1, Tryz.fx, uRR5_1, Nat.reduceAdd, Nat.reducePow, Int.reducePow, Nat.reduceBEq, ↓reduceIte, UInt8.reduceToNat, UInt16.reduceToNat, UInt32.reduceToNat, UInt64.reduceToNat, Int.reduceToNat, d1, load_bk, hl.len]))
  refine Ow.callC rfl rfl Tryz.call6 (fun w' hw' => Values_spec vt vl t l l.length w' (ht.oldN hw' hNb) (hl.oldN hw' hNb) (by omega) (by omega) (Nat.le_refl _) hnt.short hnl.short) (fun B1 v1 D1 hA1 hB1 hN1 hS1 => ?_)
  have hN1' := hN1.mono hB1
  unfold ValsS at hS1
  have hvr := valR_right t l
  cases hr : rightB t l
  · rw [hr] at hvr
    have hvn : valR t l l.length = none := by cases h : valR t l l.length <;> simp_all
    rw [hvn] at hS1
    have hS1' : v1 = .tuple #[.slice none 0 0, .bool false] := hS1
    subst hS1'
    have hNc : New w.heap.size ((bx, Obj.cells #[vt, vl] 24 (0, 0)) :: D1) := ⟨hwx, hN1'⟩
    simp (disch := (first | assumption | omega | (simp only [lenS, lenT, UInt64.reduceToNat]; try omega))) only [setB_same, setB_other, List.cons_append, List.nil_append]
    refine Ow.go rfl ?_
    simp (disch := (first | assumption | omega | (simp only [lenS, lenT, UInt64.reduceToNat]; try omega))) only [↓Sx.S0, Sx.S1, Tryz.fx, uRR5_1, Nat.reduceAdd, Nat.reducePow, Int.reducePow, Nat.reduceBEq, ↓reduceIte, UInt8.reduceToNat, UInt16.reduceToNat, UInt32.reduceToNat, UInt64.reduceToNat, Int.reduceToNat]
    ((try with_reducible refine Cw.go [] ?_); (try simp (disch := (first | assumption | omega | (simp only [lenS, lenT, UInt64.reduceToNat]; try omega))) only [↓Sx.S0, Sx.S1, Tryz.fx, uRR5_1, Nat.reduceAdd, Nat.reducePow, Int.reducePow, Nat.reduceBEq, ↓reduceIte, UInt8.reduceToNat, UInt16.reduceToNat, UInt32.reduceToNat, UInt64.reduceToNat, Int.reduceToNat, load_bk]))
    refine Ow.callFV rfl Tryz.call7 (fun w' hw' => Bytes_spec vt vl t l w' (GlobC.of hG hw' (hNc.not hglt)) (ht.oldN hw' hNc) (hl.oldN hw' hNc) (by omega) (by omega) hnt hnl) ?_
    rw [if_neg (by rw [hr]; simp)]
    refine Ow.go rfl ?_
    simp (disch := (first | assumption | omega | (simp only [lenS, lenT, UInt64.reduceToNat]; try omega))) only [↓Sx.S0, Sx.S1, Tryz.fx, uRR5_1, Nat.reduceAdd, Nat.reducePow, Int.reducePow, Nat.reduceBEq, ↓reduceIte, UInt8.reduceToNat, UInt16.reduceToNat, UInt32.reduceToNat, UInt64.reduceToNat, Int.reduceToNat]
    ((try with_reducible refine Cw.go [] ?_); (try simp (disch := (first | assumption | omega | (simp only [lenS, lenT, UInt64.reduceToNat]; try omega))) only [↓Sx.S0, Sx.S1, Tryz.fx, uRR5_1, Nat.reduceAdd, Nat.reducePow, Int.reducePow, Nat.reduceBEq, ↓reduceIte, UInt8.reduceToNat, UInt16.reduceToNat, UInt32.reduceToNat, UInt64.reduceToNat, Int.reduceToNat]))
    refine Ow.callFV rfl Tryz.call4 (fun w' hw' => alive16_spec w' (GlobC.of hG hw' (hNc.not hglt))) ?_
    refine Ow.go rfl ?_
    simp (disch := (first | assumption | omega | (simp only [lenS, lenT, UInt64.reduceToNat]; try omega))) only [↓Sx.S0, Sx.S1, Tryz.fx, uRR5_1, Nat.reduceAdd, Nat.reducePow, Int.reducePow, Nat.reduceBEq, ↓reduceIte, UInt8.reduceToNat, UInt16.reduceToNat, UInt32.reduceToNat, UInt64.reduceToNat, Int.reduceToNat, load_bk]
    refine Ow.callFV rfl Tryz.call8 (fun w' hw' => Right_spec vt vl t l w' (ht.oldN hw' hNc) (hl.oldN hw' hNc) (by omega) (by omega) hnt.short hnl.short) ?_
    rw [hr]
    have hn1 : (!false) = true := rfl
    refine Ow.go rfl ?_
    simp (disch := (first | assumption | omega | (simp only [lenS, lenT, UInt64.reduceToNat]; try omega))) only [↓Sx.S0, Sx.S1, Tryz.fx, uRR5_1, Nat.reduceAdd, Nat.reducePow, Int.reducePow, Nat.reduceBEq, ↓reduceIte, UInt8.reduceToNat, UInt16.reduceToNat, UInt32.reduceToNat, UInt64.reduceToNat, Int.reduceToNat, hn1, load_bk]
    refine Ow.callC rfl rfl Tryz.call9 (fun w' hw' => GoValues_spec vt vl t l w' (ht.oldN hw' hNc) (hl.oldN hw' hNc) (by omega) (by omega) hnt.short hnl.short) (fun B3 v3 D3 hA3 hB3 hN3 hS3 => ?_)
    unfold GoValsS at hS3
    rw [hvn] at hS3
    have hS3' : v3 = .slice none 0 0 := hS3
    subst hS3'
    have hN3' := hN3.mono hB3
    have hlz : ∀ m, lenV (.sl m) (.slice none 0 0) = some (vi (0 : Nat)) := fun m => rfl
    have e0 : (((0 : Nat) : Int) == 0) = true := rfl
    have e1 : ((1 : Int) == 1) = true := rfl
    have e2 : (([] : List UInt8) == []) = true := rfl
    have hzz := eqIdz z32 (by simp [z32])
    rw [show (z32 == z32) = true by simp] at hzz
    have hN13 := hN1'.app hN3'
    have hNd : New w.heap.size ((bx, Obj.cells #[vt, vl] 24 (0, 0)) :: (D1 ++ D3)) := ⟨hwx, hN13⟩
    simp (disch := (first | assumption | omega | (simp only [lenS, lenT, UInt64.reduceToNat]; try omega))) only [setB_same, setB_other, List.cons_append, List.nil_append]
    refine Ow.go rfl ?_
    simp (disch := (first | assumption | omega | (simp only [lenS, lenT, UInt64.reduceToNat]; try omega))) only [↓Sx.S0, Sx.S1, Tryz.fx, uRR5_1, Nat.reduceAdd, Nat.reducePow, Int.reducePow, Nat.reduceBEq, ↓reduceIte, UInt8.reduceToNat, UInt16.reduceToNat, UInt32.reduceToNat, UInt64.reduceToNat, Int.reduceToNat, hlz, e0, load_bk]
    refine Ow.callFV rfl Tryz.call10 (fun w' hw' => Value_spec vt vl t l nm w' (ht.oldN hw' hNd) (hl.oldN hw' hNd) (by omega) (by omega) hnt.short hnl.short) ?_
    rw [valueB_no hr]
    refine Ow.go rfl ?_
    simp (disch := (first | assumption | omega | (simp only [lenS, lenT, UInt64.reduceToNat]; try omega))) only [↓Sx.S0, Sx.S1, Tryz.fx, uRR5_1, Nat.reduceAdd, Nat.reducePow, Int.reducePow, Nat.reduceBEq, ↓reduceIte, UInt8.reduceToNat, UInt16.reduceToNat, UInt32.reduceToNat, UInt64.reduceToNat, Int.reduceToNat]
    refine Ow.build (.agg (a8 z32)) rfl build_id0 ?_
    refine Ow.go rfl ?_
    simp (disch := (first | assumption | omega | (simp only [lenS, lenT, UInt64.reduceToNat]; try omega))) only [↓Sx.S0, Sx.S1, Tryz.fx, uRR5_1, Nat.reduceAdd, Nat.reducePow, Int.reducePow, Nat.reduceBEq, ↓reduceIte, UInt8.reduceToNat, UInt16.reduceToNat, UInt32.reduceToNat, UInt64.reduceToNat, Int.reduceToNat, hzz, load_bk]
    refine Ow.callC rfl rfl Tryz.call11 (fun w' hw' => Roots_spec vt vl t l w' (ht.oldN hw' hNd) (hl.oldN hw' hNd) (by omega) (by omega) hnt.short hnl.short) (fun B5 v5 D5 hA5 hB5 hN5 hS5 => ?_)
    unfold RootsS at hS5
    rw [if_neg (by rw [hr]; simp)] at hS5
    subst hS5
    have hN5' := hN5.mono hB5
    have hNe : New w.heap.size ((bx, Obj.cells #[vt, vl] 24 (0, 0)) :: (D1 ++ D3 ++ D5)) := ⟨hwx, hN13.app hN5'⟩
    simp (disch := (first | assumption | omega | (simp only [lenS, lenT, UInt64.reduceToNat]; try omega))) only [setB_same, setB_other, List.cons_append, List.nil_append]
    refine Ow.go rfl ?_
    simp (disch := (first | assumption | omega | (simp only [lenS, lenT, UInt64.reduceToNat]; try omega))) only [↓Sx.S0, Sx.S1, Tryz.fx, uRR5_1, Nat.reduceAdd, Nat.reducePow, Int.reducePow, Nat.reduceBEq, ↓reduceIte, UInt8.reduceToNat, UInt16.reduceToNat, UInt32.reduceToNat, UInt64.reduceToNat, Int.reduceToNat, hlz, e0, e1, e2]
    ((try with_reducible refine Cw.go [] ?_); (try simp (disch := (first | assumption | omega | (simp only [lenS, lenT, UInt64.reduceToNat]; try omega))) only [↓Sx.S0, Sx.S1, Tryz.fx, uRR5_1, Nat.reduceAdd, Nat.reducePow, Int.reducePow, Nat.reduceBEq, ↓reduceIte, UInt8.reduceToNat, UInt16.reduceToNat, UInt32.reduceToNat, UInt64.reduceToNat, Int.reduceToNat]))
    refine ⟨_, (by simp (disch := (first | assumption | omega | (simp only [lenS, lenT, UInt64.reduceToNat]; try omega))) only [↓Sx.S0, Sx.S1, Tryz.fx, uRR5_1, Nat.reduceAdd, Nat.reducePow, Int.reducePow, Nat.reduceBEq, ↓reduceIte, UInt8.reduceToNat, UInt16.reduceToNat, UInt32.reduceToNat, UInt64.reduceToNat, Int.reduceToNat]; rfl), hNe, ?_⟩
    rfl
  · rw [hr] at hvr
    obtain ⟨le, hle⟩ := Option.isSome_iff_exists.1 hvr
    rw [hle] at hS1
    obtain ⟨x1, rfl, hg1⟩ := hS1
    obtain ⟨-, le2, -, hve, -, hle16, -⟩ := of_trim hr (Nat.le_refl l.length)
    rw [hle] at hve
    obtain rfl := Option.some.inj hve
    have hsame : sameR le le = true := by unfold sameR; simp
    have hNc : New w.heap.size ((bx, Obj.cells #[vt, vl] 24 (0, 0)) :: D1) := ⟨hwx, hN1'⟩
    simp (disch := (first | assumption | omega | (simp only [lenS, lenT, UInt64.reduceToNat]; try omega))) only [setB_same, setB_other, List.cons_append, List.nil_append]
    refine Ow.go rfl ?_
    simp (disch := (first | assumption | omega | (simp only [lenS, lenT, UInt64.reduceToNat]; try omega))) only [↓Sx.S0, Sx.S1, Tryz.fx, uRR5_1, Nat.reduceAdd, Nat.reducePow, Int.reducePow, Nat.reduceBEq, ↓reduceIte, UInt8.reduceToNat, UInt16.reduceToNat, UInt32.reduceToNat, UInt64.reduceToNat, Int.reduceToNat]
    ((try with_reducible refine Cw.go [] ?_); (try simp (disch := (first | assumption | omega | (simp only [lenS, lenT, UInt64.reduceToNat]; try omega))) only [↓Sx.S0, Sx.S1, Tryz.fx, uRR5_1, Nat.reduceAdd, Nat.reducePow, Int.reducePow, Nat.reduceBEq, ↓reduceIte, UInt8.reduceToNat, UInt16.reduceToNat, UInt32.reduceToNat, UInt64.reduceToNat, Int.reduceToNat, load_bk]))
    refine Ow.callFV rfl Tryz.call7 (fun w' hw' => Bytes_spec vt vl t l w' (GlobC.of hG hw' (hNc.not hglt)) (ht.oldN hw' hNc) (hl.oldN hw' hNc) (by omega) (by omega) hnt hnl) ?_
    rw [if_pos hr]
    refine Ow.go rfl ?_
    simp (disch := (first | assumption | omega | (simp only [lenS, lenT, UInt64.reduceToNat]; try omega))) only [↓Sx.S0, Sx.S1, Tryz.fx, uRR5_1, Nat.reduceAdd, Nat.reducePow, Int.reducePow, Nat.reduceBEq, ↓reduceIte, UInt8.reduceToNat, UInt16.reduceToNat, UInt32.reduceToNat, UInt64.reduceToNat, Int.reduceToNat]
    ((try with_reducible refine Cw.go [] ?_); (try simp (disch := (first | assumption | omega | (simp only [lenS, lenT, UInt64.reduceToNat]; try omega))) only [↓Sx.S0, Sx.S1, Tryz.fx, uRR5_1, Nat.reduceAdd, Nat.reducePow, Int.reducePow, Nat.reduceBEq, ↓reduceIte, UInt8.reduceToNat, UInt16.reduceToNat, UInt32.reduceToNat, UInt64.reduceToNat, Int.reduceToNat]))
    have e0 : ((0 : Int) == 0) = true := rfl
    have hzz : ∀ i : IdL, (i.l == i.l) = true := fun i => by simp
    have hbb : (bookB t l == bookB t l) = true := by simp
    refine Cw.regionS [bx] [0, 1, 2, 3, 4, 5, 8, 6, 7, 9, 10, 11, 13, 15, 16, 12, 14, 17, 18, 19, 20, 21, 23, 22, 24, 25, 26, 27, 28, 29, 30, 31, 32, 33, 34, 35, 36, 37] [] (by kernel_rfl) (by kernel_rfl) (by kernel_rfl) ?_
    simp only [nl_cons, ↓pickL_nil, ↓pickL_cons, ↓nthO_0, ↓nthO_s, consO_some]
    refine Ow.soft rfl rfl rfl ?_
    refine Ow.callFV rfl Tryz.call4 (fun w' hw' => alive16_spec w' (GlobC.of hG hw' (hNc.not hglt))) ?_
    with_reducible refine Ow.nil ?_
    refine ⟨by intro b hb; simp only [List.mem_cons, List.not_mem_nil, or_false] at hb; (try subst hb); rfl, ?_⟩
    refine Ow.goQ ?_
    simp (disch := (first | assumption | omega | (simp only [lenS, lenT, UInt64.reduceToNat]; try omega))) only [↓Sx.S0, Sx.S1, Tryz.fx, uRR5_1, Nat.reduceAdd, Nat.reducePow, Int.reducePow, Nat.reduceBEq, ↓reduceIte, UInt8.reduceToNat, UInt16.reduceToNat, UInt32.reduceToNat, UInt64.reduceToNat, Int.reduceToNat, load_bk]
    refine Ow.soft rfl rfl rfl ?_
    refine Ow.callFV rfl Tryz.call8 (fun w' hw' => Right_spec vt vl t l w' (ht.oldN hw' hNc) (hl.oldN hw' hNc) (by omega) (by omega) hnt.short hnl.short) ?_
    rw [hr]
    with_reducible refine Ow.nil ?_
    refine ⟨by intro b hb; simp only [List.mem_cons, List.not_mem_nil, or_false] at hb; (try subst hb); rfl, ?_⟩
    refine Ow.goQ ?_
    simp (disch := (first | assumption | omega | (simp only [lenS, lenT, UInt64.reduceToNat]; try omega))) only [↓Sx.S0, Sx.S1, Tryz.fx, uRR5_1, Nat.reduceAdd, Nat.reducePow, Int.reducePow, Nat.reduceBEq, ↓reduceIte, UInt8.reduceToNat, UInt16.reduceToNat, UInt32.reduceToNat, UInt64.reduceToNat, Int.reduceToNat, load_bk]
    refine Ow.soft rfl rfl rfl ?_
    refine Ow.callC rfl rfl Tryz.call9 (fun w' hw' => GoValues_spec vt vl t l w' (ht.oldN hw' hNc) (hl.oldN hw' hNc) (by omega) (by omega) hnt.short hnl.short) (fun B3 v3 D3 hA3 hB3 hN3 hS3 => ?_)
    unfold GoValsS at hS3
    rw [hle] at hS3
    have hN3' := hN3.mono hB3
    with_reducible refine Ow.nil ?_
    refine ⟨readB_appR (fun q hq => by simp only [List.mem_cons, List.not_mem_nil, or_false] at hq; rcases hq with rfl; simp [keys]), ?_⟩
    have hNd : New w.heap.size ((bx, Obj.cells #[vt, vl] 24 (0, 0)) :: D1 ++ D3) := hNc.app hN3'
    refine Ow.goQ ?_
    simp (disch := (first | assumption | omega | (simp only [lenS, lenT, UInt64.reduceToNat]; try omega))) only [↓Sx.S0, Sx.S1, Tryz.fx, uRR5_1, Nat.reduceAdd, Nat.reducePow, Int.reducePow, Nat.reduceBEq, ↓reduceIte, UInt8.reduceToNat, UInt16.reduceToNat, UInt32.reduceToNat, UInt64.reduceToNat, Int.reduceToNat]
    refine Ow.soft rfl rfl rfl ?_
    refine Ow.callFV rfl Tryz.call12 (fun w' hw' => SameRefsV_spec v3 x1 le le w' (GrI.slV (hS3.mono (fun p hp => by simp [hp])) hw' rfl rfl refC_len) (GrI.slV (hg1.mono (fun p hp => by simp [hp])) hw' rfl rfl refC_len) (by omega) (by omega)) ?_
    rw [hsame]
    with_reducible refine Ow.nil ?_
    refine ⟨by intro b hb; simp only [List.mem_cons, List.not_mem_nil, or_false] at hb; (try subst hb); rfl, ?_⟩
    refine Ow.goQ ?_
    simp (disch := (first | assumption | omega | (simp only [lenS, lenT, UInt64.reduceToNat]; try omega))) only [↓Sx.S0, Sx.S1, Tryz.fx, uRR5_1, Nat.reduceAdd, Nat.reducePow, Int.reducePow, Nat.reduceBEq, ↓reduceIte, UInt8.reduceToNat, UInt16.reduceToNat, UInt32.reduceToNat, UInt64.reduceToNat, Int.reduceToNat, load_bk]
    refine Ow.soft rfl rfl rfl ?_
    refine Ow.callFV rfl Tryz.call10 (fun w' hw' => Value_spec vt vl t l nm w' (ht.oldN hw' hNd) (hl.oldN hw' hNd) (by omega) (by omega) hnt.short hnl.short) ?_
    rw [value_doc hr hle]
    with_reducible refine Ow.nil ?_
    refine ⟨by intro b hb; simp only [List.mem_cons, List.not_mem_nil, or_false] at hb; (try subst hb); rfl, ?_⟩
    refine Ow.goQ ?_
    simp (disch := (first | assumption | omega | (simp only [lenS, lenT, UInt64.reduceToNat]; try omega))) only [↓Sx.S0, Sx.S1, Tryz.fx, uRR5_1, Nat.reduceAdd, Nat.reducePow, Int.reducePow, Nat.reduceBEq, ↓reduceIte, UInt8.reduceToNat, UInt16.reduceToNat, UInt32.reduceToNat, UInt64.reduceToNat, Int.reduceToNat]
    have hvv := eqId (valL nm le) (valL nm le) ⟨valL_len nm le, valL_len nm le⟩
    rw [show (valL nm le == valL nm le) = true by simp] at hvv
    refine Ow.soft rfl rfl rfl ?_
    refine Ow.callFV rfl Tryz.call13 (fun w' hw' => RefValue_spec x1 le nm w' (GrI.slV (hg1.mono (fun p hp => by simp [hp])) hw' rfl rfl refC_len) (by omega)) ?_
    with_reducible refine Ow.nil ?_
    refine ⟨by intro b hb; simp only [List.mem_cons, List.not_mem_nil, or_false] at hb; (try subst hb); rfl, ?_⟩
    refine Ow.goQ ?_
    simp (disch := (first | assumption | omega | (simp only [lenS, lenT, UInt64.reduceToNat]; try omega))) only [↓Sx.S0, Sx.S1, Tryz.fx, uRR5_1, Nat.reduceAdd, Nat.reducePow, Int.reducePow, Nat.reduceBEq, ↓reduceIte, UInt8.reduceToNat, UInt16.reduceToNat, UInt32.reduceToNat, UInt64.reduceToNat, Int.reduceToNat, hvv, load_bk]
    refine Ow.soft rfl rfl rfl ?_
    refine Ow.callC rfl rfl Tryz.call11 (fun w' hw' => Roots_spec vt vl t l w' (ht.oldN hw' hNd) (hl.oldN hw' hNd) (by omega) (by omega) hnt.short hnl.short) (fun B5 v5 D5 hA5 hB5 hN5 hS5 => ?_)
    unfold RootsS at hS5
    rw [if_pos hr] at hS5
    obtain ⟨k5, hk5, hg5⟩ := hS5
    have hk5d := roots_doc hr hk5
    subst hk5d
    have hN5' := hN5.mono hB5
    with_reducible refine Ow.nil ?_
    refine ⟨readB_appR (fun q hq => by simp only [List.mem_cons, List.not_mem_nil, or_false] at hq; rcases hq with rfl; simp [keys]), ?_⟩
    have hNe : New w.heap.size ((bx, Obj.cells #[vt, vl] 24 (0, 0)) :: D1 ++ D3 ++ D5) := hNd.app hN5'
    have hlr : (rootsD t l).length < 1000 := by
      have h1 := putAll_len (t.map RefL.id ++ nzI l)
      have h2 := nzI_le l
      rw [List.length_append, List.length_map] at h1
      unfold rootsD
      omega
    refine Ow.goQ ?_
    simp (disch := (first | assumption | omega | (simp only [lenS, lenT, UInt64.reduceToNat]; try omega))) only [↓Sx.S0, Sx.S1, Tryz.fx, uRR5_1, Nat.reduceAdd, Nat.reducePow, Int.reducePow, Nat.reduceBEq, ↓reduceIte, UInt8.reduceToNat, UInt16.reduceToNat, UInt32.reduceToNat, UInt64.reduceToNat, Int.reduceToNat, load_bk]
    refine Ow.soft rfl rfl rfl ?_
    refine Ow.callC rfl rfl Tryz.call15 (fun w' hw' => RefRoots_spec vt vl t l w' (ht.oldN hw' hNe) (hl.oldN hw' hNe) (by omega) (by omega)) (fun B6 v6 D6 hA6 hB6 hN6 hS6 => ?_)
    have hN6' := hN6.mono hB6
    with_reducible refine Ow.nil ?_
    refine ⟨readB_appR (fun q hq => by simp only [List.mem_cons, List.not_mem_nil, or_false] at hq; rcases hq with rfl; simp [keys]), ?_⟩
    have hNf : New w.heap.size ((bx, Obj.cells #[vt, vl] 24 (0, 0)) :: D1 ++ D3 ++ D5 ++ D6) := hNe.app hN6'
    have hdd : decide (rootsD t l = rootsD t l) = true := decide_eq_true rfl
    refine Ow.goQ ?_
    simp (disch := (first | assumption | omega | (simp only [lenS, lenT, UInt64.reduceToNat]; try omega))) only [↓Sx.S0, Sx.S1, Tryz.fx, uRR5_1, Nat.reduceAdd, Nat.reducePow, Int.reducePow, Nat.reduceBEq, ↓reduceIte, UInt8.reduceToNat, UInt16.reduceToNat, UInt32.reduceToNat, UInt64.reduceToNat, Int.reduceToNat]
    refine Ow.soft rfl rfl rfl ?_
    refine Ow.callFV rfl Tryz.call14 (fun w' hw' => SameIdsR_spec v5 v6 (rootsD t l) (rootsD t l) w' (GrI.slV (hg5.mono (fun p hp => by simp [hp])) hw' rfl rfl idLC_len) (GrI.slV (hS6.mono (fun p hp => by simp [hp])) hw' rfl rfl idLC_len) (by omega) (by omega)) ?_
    rw [hdd]
    with_reducible refine Ow.nil ?_
    refine ⟨by intro b hb; simp only [List.mem_cons, List.not_mem_nil, or_false] at hb; (try subst hb); rfl, ?_⟩
    refine Ow.goQ ?_
    simp (disch := (first | assumption | omega | (simp only [lenS, lenT, UInt64.reduceToNat]; try omega))) only [↓Sx.S0, Sx.S1, Tryz.fx, uRR5_1, Nat.reduceAdd, Nat.reducePow, Int.reducePow, Nat.reduceBEq, ↓reduceIte, UInt8.reduceToNat, UInt16.reduceToNat, UInt32.reduceToNat, UInt64.reduceToNat, Int.reduceToNat, load_bk]
    refine Ow.soft rfl rfl rfl ?_
    refine Ow.callFV rfl Tryz.call16 (fun w' hw' => RefBytes_spec vt vl t l w' (ht.oldN hw' hNf) (hl.oldN hw' hNf) (by omega) (by omega) hnt hnl) ?_
    with_reducible refine Ow.nil ?_
    refine ⟨by intro b hb; simp only [List.mem_cons, List.not_mem_nil, or_false] at hb; (try subst hb); rfl, ?_⟩
    refine Ow.goQ ?_
    simp (disch := (first | assumption | omega | (simp only [lenS, lenT, UInt64.reduceToNat]; try omega))) only [↓Sx.S0, Sx.S1, Tryz.fx, uRR5_1, Nat.reduceAdd, Nat.reducePow, Int.reducePow, Nat.reduceBEq, ↓reduceIte, UInt8.reduceToNat, UInt16.reduceToNat, UInt32.reduceToNat, UInt64.reduceToNat, Int.reduceToNat, hbb, e0]
    try with_reducible refine Ow.nil ?_
    ((try with_reducible refine Cw.go [] ?_); (try simp (disch := (first | assumption | omega | (simp only [lenS, lenT, UInt64.reduceToNat]; try omega))) only [↓Sx.S0, Sx.S1, Tryz.fx, uRR5_1, Nat.reduceAdd, Nat.reducePow, Int.reducePow, Nat.reduceBEq, ↓reduceIte, UInt8.reduceToNat, UInt16.reduceToNat, UInt32.reduceToNat, UInt64.reduceToNat, Int.reduceToNat]))
    refine ⟨_, (by simp (disch := (first | assumption | omega | (simp only [lenS, lenT, UInt64.reduceToNat]; try omega))) only [↓Sx.S0, Sx.S1, Tryz.fx, uRR5_1, Nat.reduceAdd, Nat.reducePow, Int.reducePow, Nat.reduceBEq, ↓reduceIte, UInt8.reduceToNat, UInt16.reduceToNat, UInt32.reduceToNat, UInt64.reduceToNat, Int.reduceToNat]; rfl), hNf, ?_⟩
    rfl
end Go.Proofs
end
section
open Go Go.Proofs Go.Sx Go.RefP
namespace Go.Sx
end Go.Sx
namespace Go.Proofs
set_option maxRecDepth 10000
set_option maxHeartbeats 4000000
set_option linter.unusedSimpArgs false
/-- What Add tells. -/
def addR (t l : List RefL) (r : RefL) : (List RefL × List RefL) × List UInt8 × Int :=
  if rightB t l = true ∧ nameV r.name = true then (if rightB t (l ++ [r]) = true then ((t, l ++ [r]), recordV (entryB r), 0) else (([], []), [], 18)) else (([], []), [], 1)
/-- What Trim tells. -/
def trimR (t l : List RefL) (keep : Int) : (List RefL × List RefL) × Int :=
  if rightB t l = true then (((valR t l (trimK l.length keep)).getD [], l.drop (trimK l.length keep)), 0) else (([], []), 1)
theorem gri_nl {D : Heap} : GrI D 48 33 (.slice none 0 0) ([] : List RefL).length (([] : List RefL).map refC).flatten := (Gr.nl (L := [])).i fun q hq => by cases hq
theorem AddS.tells {n : Nat} {t l : List RefL} {r : RefL} {v : Value} {D : Heap} (h : AddS n t l r.name r.id v D) : ∃ x1 x2, v = .tuple #[.agg #[x1, x2], vs (addR t l r).2.1, vi (addR t l r).2.2] ∧ GrI D 48 33 x1 (addR t l r).1.1.length ((addR t l r).1.1.map refC).flatten ∧ GrI D 48 33 x2 (addR t l r).1.2.length ((addR t l r).1.2.map refC).flatten := by
  unfold AddS at h
  unfold addR
  by_cases h1 : rightB t l = true ∧ nameV r.name = true
  · rw [if_pos h1] at h ⊢
    by_cases h2 : rightB t (l ++ [r]) = true
    · rw [if_pos h2] at h ⊢
      obtain ⟨a, b, rfl, h3, h4⟩ := h
      exact ⟨a, b, rfl, h3, by simpa using h4⟩
    · rw [if_neg h2] at h ⊢
      exact ⟨_, _, h, gri_nl, gri_nl⟩
  · rw [if_neg h1] at h ⊢
    exact ⟨_, _, h, gri_nl, gri_nl⟩
theorem TrimS.tells {t l : List RefL} {keep : Int} {v : Value} {D : Heap} (h : TrimS t l keep v D) : ∃ x1 x2, v = .tuple #[.agg #[x1, x2], vi (trimR t l keep).2] ∧ GrI D 48 33 x1 (trimR t l keep).1.1.length ((trimR t l keep).1.1.map refC).flatten ∧ GrI D 48 33 x2 (trimR t l keep).1.2.length ((trimR t l keep).1.2.map refC).flatten := by
  unfold TrimS at h
  unfold trimR
  by_cases h1 : rightB t l = true
  · rw [if_pos h1] at h ⊢
    obtain ⟨a, b, ls, h2, rfl, h3, h4⟩ := h
    rw [h2]
    exact ⟨a, b, rfl, h3, h4⟩
  · rw [if_neg h1] at h ⊢
    exact ⟨_, _, h, gri_nl, gri_nl⟩
set_option linter.defProp false
def uWZ7_1 := And.intro (And.intro (And.intro (And.intro (@rdIn_v8) (@rdIn_v16)) (And.intro (@rdIn_v32) (@rdIn_v64))) (And.intro (And.intro (@rdIn_vi) (@load_bk0)) (And.intro (@load_bk1) (@load_bk)))) (And.intro (And.intro (And.intro (@tup2_0) (@tup2_1)) (And.intro (@tup3_0) (@tup3_1))) (And.intro (And.intro (@tup3_2) (@store_bk0)) (And.intro (@eqb) (And.intro (@eqIdz) (@load_ref)))))
end Go.Proofs
end
namespace Go.Sx
open Go Go.ChangeShapes Go.WideShapes Go.RowKit

theorem Hp.same0 {W W' : World} (h : Hp W [] W') {b : Nat} (hb : b < W.heap.size) : W'.heap[b]? = W.heap[b]? := h.old b hb (fun hm => by cases hm)
theorem Hp.kept {W W' : World} (h : Hp W [] W') (may : MemPlace → Prop) : W.keptBut W' may := by
  refine ⟨h.os, h.output, fun i hi => ?_⟩
  rw [h.same0 hi]
  cases ho : W.heap[i]? with
  | none => rfl
  | some o =>
    cases o <;> first
      | exact ⟨rfl, rfl, rfl, fun _ _ => rfl⟩
      | exact .inr ⟨rfl, rfl⟩
      | rfl
theorem Hp.sameAt {W W' : World} (h : Hp W [] W') {p : MemPlace} (hp : p.block < W.heap.size) : W.sameAt W' p := by
  cases p with
  | cell b off =>
    have := h.same0 (b := b) hp
    simp only [World.sameAt, World.cell?, this]
  | map b => exact h.same0 hp
theorem Hp.frozen {W W' : World} (h : Hp W [] W') {a : Addr} (ha : a.block < W.heap.size) : W'.frozen? a = W.frozen? a := by
  simp only [World.frozen?, h.same0 ha]

section
variable {H : Type} {enc : TypeId × Value → H} {P : Program}
theorem trodAll_stays (hl : laidOutB P = true) {W W' : World} {sp : Nat → Bool} (hp : Hp W [] W') : ∀ {ts : List TypeId} {vs : List Value} {ds : List (DataW H)} {ps : List MemPlace},
    (∀ t ∈ ts, P.readableRec t = true ∧ t < P.types.size) → (∀ p ∈ ps, p.block < W.heap.size) → (∀ p ∈ ps, sp p.block = true) →
    DataW.TrodAll enc P W 0 (fun _ => true) true ts vs ds ps → DataW.TrodAll enc P W' 0 sp true ts vs ds ps
  | [], _, _, _, _, _, _, h => by
    obtain ⟨rfl, rfl, rfl⟩ := trodAll_nil h
    exact trodAll_mk0
  | t :: ts, _, _, _, ht, hlt, hs, h => by
    obtain ⟨v, vs, d, ds, p, q, rfl, rfl, rfl, h1, h2⟩ := trodAll_cons h
    have hlt1 : ∀ x ∈ p, x.block < W.heap.size := fun x hx => hlt x (List.mem_append_left _ hx)
    exact trodAll_cons_mk (WideElems.Trod_stays hl (ht t List.mem_cons_self).1 (ht t List.mem_cons_self).2 h1 (fun x hx => hp.sameAt (hlt1 x hx)) (fun x hx => hs x (List.mem_append_left _ hx)))
      (trodAll_stays hl hp (fun u hu => ht u (List.mem_cons_of_mem _ hu)) (fun x hx => hlt x (List.mem_append_right _ hx)) (fun x hx => hs x (List.mem_append_right _ hx)) h2)

/-- WHAT THE ROW OF A LAW ASKS, from 'it answers true and turns nothing that was there'. -/
theorem post_true {f : Func} {s : ChangeSpec} {W W' : World} {args : Array Value} {ds gs : List (DataW H)} {before : List MemPlace} {tb : TypeId} (hl : laidOutB P = true)
    (hW : DataW.Whole enc P f.params.toList s.vars false W args.toList ds gs before) (hv : s.vars = []) (hpar : ∀ t ∈ f.params.toList, P.readableRec t = true ∧ t < P.types.size)
    (hr : f.resultTypes = #[tb]) (htb : P.underlying tb = some .bool) (hfn : s.fn H ds = { results := [.lit (.bool true)], args := ds }) (hp : Hp W [] W') :
    s.post enc P f false true false false W args (.bool true) W' := by
  have hlt := hW.lt
  have hW0 := hW
  obtain ⟨p, q, hA, hV, rfl, hz, hn⟩ := hW
  rw [hv] at hV
  obtain ⟨rfl, rfl⟩ := trodVars_none hV
  rw [List.append_nil] at hW0 hlt hz
  have hargs : ∀ sp : Nat → Bool, (∀ x ∈ p, sp x.block = true) → DataW.TrodAll enc P W' 0 sp true f.params.toList args.toList (s.fn H (ds ++ [])).args p := fun sp hs => by
    rw [List.append_nil, hfn]
    exact trodAll_stays hl hp hpar hlt hs hA
  have hvars : ∀ sp : Nat → Bool, DataW.TrodVars enc P W' sp s.vars (s.fn H (ds ++ [])).vars [] := fun sp => by
    rw [List.append_nil, hfn, hv]; rfl
  have hres : ∀ (b : Nat) (sp : Nat → Bool) (hd : Bool), DataW.TrodAll enc P W' b sp hd f.resultTypes.toList ((Value.bool true).resultList f.resultTypes.size) (s.fn H (ds ++ [])).results [] := fun b sp hd => by
    rw [List.append_nil, hfn, hr]
    exact trodAll_cons_mk (shut_bool htb true) trodAll_mk0
  have hold : ∀ x ∈ p, (fun b => decide (b < W.heap.size)) x.block = true := fun x hx => by simpa using hlt x hx
  refine ⟨ds, [], p, [], p, [], hW0, hres _ _ _, hargs _ hold, hvars _, hp.kept _, fun _ => ?_⟩
  refine ⟨ok_one hr rfl (okWide_bool_mk htb true), _, _, ([] ++ p) ++ [], ⟨[] ++ p, [], trodAll_append (hargs _ (fun _ _ => rfl)) (hres _ _ _), hvars _, rfl, ?_, fun h => by cases h⟩, ?_⟩
  · intro b off hx
    have hx' : MemPlace.cell b off ∈ p := by simpa using hx
    rw [hp.frozen (hlt _ hx')]
    exact hz b off hx'
  · intro x hx _
    simpa using hx
end
section
variable {P : Program} {W : World} {name : String} {k : IntKind} {zs : List Int}
theorem tab_of_vars {t e : TypeId} {g n : Nat} (hg : P.globalNamed name = some g) (hty : (P.globals[g]?).map (·.type) = some t) (ht : P.underlying t = some (.array n e)) (he : P.underlying e = some (.int k)) (hce : P.cellsOf e = 1) (hct : P.cellsOf t = n) :
    ∀ {laid : List (String × DataW Unit)} {ps : List MemPlace}, DataW.LaidVars P W laid ps → (name, Lib.tabData k zs) ∈ laid → Lib.TabIs P W name k zs
  | [], _, _, hm => by cases hm
  | (n', d') :: rest, ps, h, hm => by
    obtain ⟨g', t', cs, fuel, p, q, hg', ht', hvar, hd, hr, -⟩ := h
    rcases List.mem_cons.1 hm with hm | hm
    · cases hm
      obtain rfl := Option.some.inj (hg.symm.trans hg')
      obtain rfl := Option.some.inj (hty.symm.trans ht')
      unfold Lib.TabIs
      rw [hvar, ← Lib.cells_of_tab ht he hce hct hd]
    · exact tab_of_vars hg hty ht he hce hct hr hm
theorem heap_of_tab {g : Nat} (hg : P.globalNamed name = some g) (h : Lib.TabIs P W name k zs) : ∃ e f, W.heap[g]? = some (.cells (zs.map fun z => Value.int k z).toArray e f) := by
  unfold Lib.TabIs at h
  simp only [World.var?, hg, Option.bind_some] at h
  split at h
  · rename_i cs e f hb
    cases h
    exact ⟨e, f, hb⟩
  · cases h
end
section
variable {H : Type} {enc : TypeId × Value → H} {P : Program}
end
end Go.Sx
namespace Go.Sx
open Go
section
variable {P : Program}
theorem rowAt_le {fits : TypeId → Bool} {d : Nat} {e : TypeId} {count off n : Nat} (h : rowAt P fits d e count off n = true) : off ≤ count * P.cellsOf e := by
  cases d with
  | zero => simp [rowAt] at h
  | succ d =>
    unfold rowAt at h
    simp only at h
    split at h
    · cases h
    · rename_i hs
      have hs' : 0 < P.cellsOf e := Nat.pos_of_ne_zero hs
      have hd := Nat.div_add_mod off (P.cellsOf e)
      have hm := Nat.mod_lt off hs'
      rw [Bool.or_eq_true] at h
      rcases h with h | h
      · simp only [Bool.and_eq_true, beq_iff_eq, decide_eq_true_eq] at h
        have : off / P.cellsOf e * P.cellsOf e ≤ count * P.cellsOf e := Nat.mul_le_mul_right _ (by omega)
        rw [Nat.mul_comm (P.cellsOf e)] at hd
        omega
      · simp only [Bool.and_eq_true, decide_eq_true_eq] at h
        have : (off / P.cellsOf e + 1) * P.cellsOf e ≤ count * P.cellsOf e := Nat.mul_le_mul_right _ (by omega)
        rw [Nat.add_mul, Nat.one_mul] at this
        rw [Nat.mul_comm (P.cellsOf e)] at hd
        omega
theorem liesAt_le {e : TypeId} {count off : Nat} : ∀ {d : Nat} {u : TypeId} {n : Nat}, liesAt P d e count off u n = true → off ≤ count * P.cellsOf e
  | 0, u, n, h => by simp [liesAt] at h
  | d + 1, u, n, h => by
    unfold liesAt at h
    rw [Bool.or_eq_true] at h
    rcases h with h | h
    · exact rowAt_le h
    · split at h
      · exact liesAt_le h
      · cases h
theorem has_le {W : World} {r : Reach} {base : Nat} {a : Addr} {e : TypeId} {n : Nat} (h : W.has P r base a e n) : a.spot = none ∧ ∃ arr E fz, W.heap[a.block]? = some (.cells arr E fz) ∧ a.off ≤ arr.size := by
  obtain ⟨-, hs, row, cells, hsh, hl⟩ := h
  refine ⟨hs, ?_⟩
  unfold World.shape? at hsh
  split at hsh
  · rename_i c el fz hh
    cases hsh
    refine ⟨c, _, fz, hh, Nat.le_trans (liesAt_le hl) ?_⟩
    exact Nat.div_mul_le_self _ _
  · cases hsh
theorem okWide_sl {W : World} {r : Reach} {base : Nat} {t e : TypeId} {v : Value} (ht : P.underlying t = some (.slice e)) (h : Value.okWide P W r base t v) :
    v = .slice none 0 0 ∨ ∃ b off len cap arr E fz, v = vsl b off len cap ∧ len ≤ cap ∧ W.heap[b]? = some (.cells arr E fz) ∧ off ≤ arr.size := by
  obtain ⟨a, len, cap, rfl⟩ := Go.WideShapes.okWide_slice ht h
  unfold Value.okWide at h
  rw [ht] at h
  unfold Cell.okWide at h
  rw [ht] at h
  simp only at h
  unfold Cell.ok at h
  rw [ht] at h
  cases a with
  | none =>
    left
    simp only at h
    split at h
    all_goals first | (cases h; done) | simp_all
  | some a =>
    right
    simp only at h
    obtain ⟨hle, -, hh⟩ := h
    obtain ⟨hs, arr, E, fz, hb, ho⟩ := has_le hh
    obtain ⟨b, off, sp⟩ := a
    simp only at hs
    subst hs
    exact ⟨b, off, len, cap, arr, E, fz, rfl, hle, hb, ho⟩
theorem slV_of {α : Type} {enc : α → List Value} {z : α} {m : Nat} {W : World} {base b off c : Nat} {l : List α} {arr : Array Value} {E : TypeId} {fz : Nat × Nat} (hm0 : 0 < m) (hm : ∀ x, (enc x).length = m)
    (hcells : ∀ i, i < l.length → W.cells? base ((Addr.mk b off none).add (i * m)) m = some (enc (l.getD i z))) (hheap : W.heap[b]? = some (.cells arr E fz)) (hoff : off ≤ arr.size) (hc : l.length ≤ c) : SlV m enc z W (vsl b off l.length c) l := by
  have get : ∀ k, k < l.length → ∀ j, j < m → arr[off + k * m + j]? = (enc (l.getD k z))[j]? := by
    intro k hk j hj
    obtain ⟨-, hl, hg⟩ := World.cells?_some (hcells k hk)
    have := hg j (by omega)
    rw [add_spot, add_spot] at this
    simp only [World.cell?, hheap, Option.isSome_none, Bool.false_eq_true, if_false] at this
    exact this
  refine SlV.sl hheap get hc ?_
  by_cases h0 : l.length = 0
  · rw [h0]; omega
  · have h1 := get (l.length - 1) (by omega) (m - 1) (by omega)
    rw [List.getElem?_eq_getElem (by rw [hm]; omega)] at h1
    have h2 := (Array.getElem?_eq_some_iff.1 h1).1
    have h3 : (l.length - 1) * m + m = l.length * m := by
      rw [← Nat.succ_mul]; congr 1; omega
    omega
/-- An argument's row that is a slice of elements, each of which is told as one of some kind. -/
theorem open_slS {H : Type} {tell : TypeId × Value → H} {α : Type} {enc : α → List Value} {z : α} {m : Nat} {W : World} {r : Reach} {base b0 : Nat} {sp : Nat → Bool} {held : Bool} {fuel : Nat} {t e : TypeId} {v : Value} {x : DataW H × List MemPlace}
    (ht : P.underlying t = some (.slice e)) (he : P.cellsOf e = m) (hm0 : 0 < m) (hm : ∀ x, (enc x).length = m) (hval : Value.okWide P W r b0 t v)
    (hdec : ∀ n cs y, DataW.trod tell P W base sp held n e cs = some y → ∃ a, cs = enc a) (hd : DataW.trod tell P W base sp held fuel t [v] = some x) : ∃ l, SlV m enc z W v l := by
  rcases DataW.trod_slice ht hd with ⟨hcs, -⟩ | ⟨a, len, cap, elems, rest, n, -, hcs, -, -, hl, -, hlen, hel, -, -⟩
  · simp only [List.cons.injEq, and_true] at hcs
    subst hcs
    exact ⟨[], SlV.nil W⟩
  · simp only [List.cons.injEq, and_true] at hcs
    subst hcs
    rcases okWide_sl ht hval with h0 | ⟨b, off, len', cap', arr, E, fz, h1, -, hb, ho⟩
    · cases h0
    · unfold vsl at h1
      cases h1
      rw [he] at hel
      have hex : ∀ i, i < len → ∃ q, W.cells? base ((Addr.mk b off none).add (i * m)) m = some (enc q) := by
        intro i hi
        have h2 := hel i hi
        rw [List.getElem?_eq_getElem (by omega)] at h2
        cases hc : W.cells? base ((Addr.mk b off none).add (i * m)) m with
        | none => rw [hc] at h2; cases h2
        | some cs =>
          rw [hc] at h2
          obtain ⟨q, rfl⟩ := hdec _ _ _ h2
          exact ⟨q, rfl⟩
      obtain ⟨f, hf⟩ : ∃ f : Nat → α, ∀ i, i < len → W.cells? base ((Addr.mk b off none).add (i * m)) m = some (enc (f i)) := by
        classical
        refine ⟨fun i => if h : i < len then Classical.choose (hex i h) else z, fun i hi => ?_⟩
        simp only [dif_pos hi]
        exact Classical.choose_spec (hex i hi)
      have hll : ((List.range len).map f).length = len := by simp
      refine ⟨(List.range len).map f, ?_⟩
      have := slV_of (W := W) (base := base) (b := b) (off := off) (c := cap) (l := (List.range len).map f) (z := z) hm0 hm (fun i hi => by
        rw [hll] at hi
        rw [hf i hi]
        congr 2
        rw [List.getD_eq_getElem?_getD, List.getElem?_map, List.getElem?_range hi]; rfl) hb ho (by rw [hll]; exact hl)
      rw [hll] at this
      exact this
end
end Go.Sx
section
open Go Go.Proofs Go.Sx Go.RefP
namespace Go.Proofs
set_option maxRecDepth 10000
set_option maxHeartbeats 4000000
/-! ### An argument that is a book -/
theorem ints_v8 {H : Type} {tell : TypeId × Value → H} {W : World} {base : Nat} {sp : Nat → Bool} {held : Bool} {n : Nat} {cs : List Value} {y : DataW H × List MemPlace}
    (h : DataW.trod tell Tryz.prog W base sp held n 34 cs = some y) : ∃ i : IdL, cs = i.l.map v8 := by
  obtain ⟨xs, m, -, -, hlen, hxl, hel⟩ := DataW.trod_array Tryz.underlying34 h
  have hc : (Tryz.prog).cellsOf 34 = 32 := by kernel_rfl
  have h1 : (Tryz.prog).cellsOf 5 = 1 := by kernel_rfl
  rw [hc] at hlen
  rw [h1] at hel
  have hex : ∀ i (hi : i < cs.length), ∃ x : UInt8, cs[i] = v8 x := by
    intro i hi
    have h2 := hel i (by omega)
    rw [List.getElem?_eq_getElem (by omega), Nat.mul_one, List.drop_eq_getElem_cons hi, List.take_succ_cons, List.take_zero] at h2
    obtain ⟨z, hz, -, hw⟩ := DataW.trod_int Tryz.underlying5 h2
    simp only [List.cons.injEq, and_true] at hz
    rw [hz]
    simp only [Lit.wf, Bool.and_eq_true, decide_eq_true_eq] at hw
    have hw1 : 0 ≤ z := by simpa [IntKind.min, IntKind.bits, IntKind.signed] using hw.1
    have hw2 : z ≤ 255 := by simpa [IntKind.max, IntKind.bits, IntKind.signed] using hw.2
    refine ⟨UInt8.ofNat z.toNat, ?_⟩
    unfold v8
    rw [UInt8.toNat_ofNat', Nat.mod_eq_of_lt (by omega)]
    congr 1; omega
  have hl : ∃ l : List UInt8, cs = l.map v8 := by
    clear hel hlen hxl h
    induction cs with
    | nil => exact ⟨[], rfl⟩
    | cons c r ih =>
      obtain ⟨x, hx⟩ := hex 0 (by simp)
      obtain ⟨l, hl⟩ := ih (fun i hi => by have := hex (i + 1) (by simpa using hi); simpa using this)
      exact ⟨x :: l, by rw [hl]; simp at hx; simp [hx]⟩
  obtain ⟨l, rfl⟩ := hl
  exact ⟨⟨l, by simpa using hlen⟩, rfl⟩
theorem dec_ref {H : Type} {tell : TypeId × Value → H} {W : World} {base : Nat} {sp : Nat → Bool} {held : Bool} (n : Nat) (cs : List Value) (y : DataW H × List MemPlace)
    (h : DataW.trod tell Tryz.prog W base sp held n 48 cs = some y) : ∃ a : RefL, cs = refC a := by
  obtain ⟨y0, y1, n', -, hlen, h0, h1⟩ := ChangeShapes.trod_struct2 Tryz.underlying48 h
  have hc : (Tryz.prog).cellsOf 48 = 33 := by kernel_rfl
  have hc1 : (Tryz.prog).cellsOf 9 = 1 := by kernel_rfl
  have hc2 : (Tryz.prog).cellsOf 34 = 32 := by kernel_rfl
  simp only at h0 h1
  rw [hc1, List.drop_zero] at h0
  rw [hc2] at h1
  rw [hc] at hlen
  obtain ⟨s, hs, -, -⟩ := DataW.trod_string Tryz.underlying9 h0
  obtain ⟨i, hi⟩ := ints_v8 h1
  refine ⟨⟨s.data.toList, i⟩, ?_⟩
  have hd : cs = cs.take 1 ++ (cs.drop 1).take 32 := by
    rw [show (cs.drop 1).take 32 = cs.drop 1 from List.take_of_length_le (by rw [List.length_drop]; omega), List.take_append_drop]
  rw [hd, hs, hi]
  rfl
/-- The book. -/
theorem open_book {H : Type} {tell : TypeId × Value → H} {W : World} {r : Reach} {base b0 : Nat} {sp : Nat → Bool} {held : Bool} {fuel : Nat} {v : Value} {x : DataW H × List MemPlace}
    (hval : Value.okWide Tryz.prog W r b0 24 v) (hd : DataW.trod tell Tryz.prog W base sp held fuel 24 v.cells.toList = some x) : ∃ vt vl t l, v = .agg #[vt, vl] ∧ RefSl W vt t ∧ RefSl W vl l := by
  have hc : (Tryz.prog).cellsOf 24 = 2 := by kernel_rfl
  have hcr : (Tryz.prog).cellsOf 22 = 1 := by kernel_rfl
  have hcR : (Tryz.prog).cellsOf 48 = 33 := by kernel_rfl
  have hct : (Tryz.prog).cellTypes (Tryz.prog).depth 24 = some [22, 22] := by kernel_rfl
  obtain ⟨y0, y1, n', -, hlen, h0, h1⟩ := ChangeShapes.trod_struct2 Tryz.underlying24 hd
  unfold Value.okWide at hval
  rw [Tryz.underlying24] at hval
  obtain ⟨cs, rfl, hs, ts, hts, -, hcell⟩ := hval
  rw [hct] at hts
  cases hts
  rw [hc] at hs
  obtain ⟨vt, vl, rfl⟩ : ∃ a b, cs = #[a, b] := by
    obtain ⟨l⟩ := cs
    match l, hs with
    | [a, b], _ => exact ⟨a, b, rfl⟩
  simp only at h0 h1
  rw [hcr, cells_agg] at h0 h1
  have k0 : Value.okWide Tryz.prog W r b0 22 vt := by
    obtain ⟨u, hu, ho⟩ := hcell 0 vt rfl
    obtain rfl : 22 = u := by simpa using hu
    unfold Value.okWide
    rw [Tryz.underlying22]
    exact ho
  have k1 : Value.okWide Tryz.prog W r b0 22 vl := by
    obtain ⟨u, hu, ho⟩ := hcell 1 vl rfl
    obtain rfl : 22 = u := by simpa using hu
    unfold Value.okWide
    rw [Tryz.underlying22]
    exact ho
  obtain ⟨t, ht⟩ := open_slS (z := ref0) Tryz.underlying22 hcR (by decide) refC_len k0 dec_ref h0
  obtain ⟨l, hl⟩ := open_slS (z := ref0) Tryz.underlying22 hcR (by decide) refC_len k1 dec_ref h1
  exact ⟨vt, vl, t, l, rfl, ht, hl⟩
end Go.Proofs
end

