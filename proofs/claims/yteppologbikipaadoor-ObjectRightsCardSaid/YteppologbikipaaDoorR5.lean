/-
  Part 5 of the walk: contracts of the functions that the law reaches, and the calculus they stand on.
  No conditions.
-/
import Derived.Test.YteppologbikipaaDoorR4
import Derived.ProofKit
import Derived.OpenShut
import Derived.WideKeyArgs
import Derived.ChangeSame
import Derived.ChangeMaps5
import Derived.Lib.LaidTab
import Derived.SliceStrings
import Derived.DataReads
import Derived.Deep.Strs
section
open Go Go.Proofs Go.Sx Go.Dig
namespace Go.Proofs
set_option maxRecDepth 10000
set_option maxHeartbeats 1000000
set_option linter.unusedSimpArgs false
set_option linter.defProp false
def uE7_1 := @getD_set_same
theorem lengthened_spec (m : List UInt8) (hm : m.length < 1099511627776) (w : World) :
    Rets Tryd.prog 108 #[vs m] w (fun v D => v = vs (padR m) ∧ D = []) := by
  refine Rets.enterV Tryd.func108 rfl (rs := [.tmp 2]) Tryd.results108 Tryd.ntmps108 ?_
  simp only [List.size_toArray, List.length_cons, List.length_nil, Nat.reduceAdd, Nat.reduceSub, List.replicate_succ, List.replicate_zero, List.cons_append, List.nil_append]
  ((try with_reducible refine Cw.go [] ?_); (try simp (disch := (first | assumption | omega | (simp only [lenS, lenT, UInt64.reduceToNat]; try omega))) only [↓Sx.S0, Sx.S1, Tryd.fx, uE7_1, Nat.reduceAdd, Nat.reducePow, Int.reducePow, Nat.reduceBEq, ↓reduceIte, UInt8.reduceToNat, UInt16.reduceToNat, UInt32.reduceToNat, UInt64.reduceToNat, Int.reduceToNat]))
  have hz := zeros_spec (m.length + 1)
  rw [show m ++ [128] = m ++ [128] ++ List.replicate 0 0 from (List.append_nil _).symm]
  refine Cw.loopG (G := Nat) [9, 10, 11, 12, 13, 14, 3] (fun g => [(3, vs (m ++ [128] ++ List.replicate g 0))]) (fun g => []) (fun g => g ≤ zeros ((m.length + 1) % 64)) (fun g => zeros ((m.length + 1) % 64) - g) 0 rfl rfl ?_ ?_
  · omega
  intro g j hg
  simp only [overFrom, pin, setF_0, setF_s, List.contains_cons, List.contains_nil, Nat.reduceBEq, Bool.or_false, Bool.false_or, Bool.or_true, Bool.true_or, Nat.reduceAdd, ↓reduceIte, Bool.false_eq_true]
  have hl : (m ++ [128] ++ List.replicate g 0).length = m.length + 1 + g := by simp; omega
  by_cases hlt : g < zeros ((m.length + 1) % 64)
  · have h56 : (m.length + 1 + g) % 64 ≠ 56 := by unfold zeros at *; omega
    ((try with_reducible refine Cw.go [] ?_); (try simp (disch := (first | assumption | omega | (simp only [lenS, lenT, UInt64.reduceToNat]; try omega))) only [↓Sx.S0, Sx.S1, Tryd.fx, uE7_1, Nat.reduceAdd, Nat.reducePow, Int.reducePow, Nat.reduceBEq, ↓reduceIte, UInt8.reduceToNat, UInt16.reduceToNat, UInt32.reduceToNat, UInt64.reduceToNat, Int.reduceToNat, hl]))
    refine Again.mk (g + 1) (by omega) (by omega) rfl ?_
    rw [show m ++ [128] ++ List.replicate (g + 1) 0 = m ++ [128] ++ List.replicate g 0 ++ [0] from by rw [List.replicate_succ']; simp]
    rfl
  · have hge : g = zeros ((m.length + 1) % 64) := by omega
    subst hge
    ((try with_reducible refine Cw.go [] ?_); (try simp (disch := (first | assumption | omega | (simp only [lenS, lenT, UInt64.reduceToNat]; try omega))) only [↓Sx.S0, Sx.S1, Tryd.fx, uE7_1, Nat.reduceAdd, Nat.reducePow, Int.reducePow, Nat.reduceBEq, ↓reduceIte, UInt8.reduceToNat, UInt16.reduceToNat, UInt32.reduceToNat, UInt64.reduceToNat, Int.reduceToNat, hl]))
    refine Ow.alloc rfl rfl Tryd.zr188 fun b1 hb1 hw1 => ?_
    rw [show UInt64.ofInt (m.length : Int) = UInt64.ofNat m.length from ofInt_nat _]
    refine Ow.go rfl ?_
    simp (disch := (first | assumption | omega | (simp only [lenS, lenT, UInt64.reduceToNat]; try omega))) only [↓Sx.S0, Sx.S1, Tryd.fx, uE7_1, Nat.reduceAdd, Nat.reducePow, Int.reducePow, Nat.reduceBEq, ↓reduceIte, UInt8.reduceToNat, UInt16.reduceToNat, UInt32.reduceToNat, UInt64.reduceToNat, Int.reduceToNat]
    ((try with_reducible refine Cw.go [] ?_); (try simp (disch := (first | assumption | omega | (simp only [lenS, lenT, UInt64.reduceToNat]; try omega))) only [↓Sx.S0, Sx.S1, Tryd.fx, uE7_1, Nat.reduceAdd, Nat.reducePow, Int.reducePow, Nat.reduceBEq, ↓reduceIte, UInt8.reduceToNat, UInt16.reduceToNat, UInt32.reduceToNat, UInt64.reduceToNat, Int.reduceToNat]))
    generalize ht : UInt64.ofNat m.length * 8 = t
    rw [← tailPre_zero t]
    refine Cw.loopG (G := Nat) [19, 20, 23, 24, 25, 26, 27, 28, 29, 30, 4, 21, 22, 6] (fun i => [(4, v64 (quoN t i)), (6, vi i)]) (fun i => [(b1, .cells (a8 (tailPre t i)) 188 (0, 0))]) (fun i => i ≤ 8) (fun i => 8 - i) 0 rfl rfl ?_ ?_
    · omega
    intro i ji hi
    simp only [overFrom, pin, setF_0, setF_s, List.contains_cons, List.contains_nil, Nat.reduceBEq, Bool.or_false, Bool.false_or, Bool.or_true, Bool.true_or, Nat.reduceAdd, ↓reduceIte, Bool.false_eq_true]
    have htl := tailPre_length t i
    by_cases hi8 : i < 8
    · ((try with_reducible refine Cw.go [] ?_); (try simp (disch := (first | assumption | omega | (simp only [lenS, lenT, UInt64.reduceToNat]; try omega))) only [↓Sx.S0, Sx.S1, Tryd.fx, uE7_1, Nat.reduceAdd, Nat.reducePow, Int.reducePow, Nat.reduceBEq, ↓reduceIte, UInt8.reduceToNat, UInt16.reduceToNat, UInt32.reduceToNat, UInt64.reduceToNat, Int.reduceToNat]))
      refine Again.mk (i + 1) (by omega) (by omega) ?_ rfl
      rw [tailPre_succ t i hi8]
    · have hie : i = 8 := by omega
      subst hie
      ((try with_reducible refine Cw.go [] ?_); (try simp (disch := (first | assumption | omega | (simp only [lenS, lenT, UInt64.reduceToNat]; try omega))) only [↓Sx.S0, Sx.S1, Tryd.fx, uE7_1, Nat.reduceAdd, Nat.reducePow, Int.reducePow, Nat.reduceBEq, ↓reduceIte, UInt8.reduceToNat, UInt16.reduceToNat, UInt32.reduceToNat, UInt64.reduceToNat, Int.reduceToNat]))
      rw [List.drop_zero, List.take_of_length_le (show (tailPre t 8).length ≤ 8 by omega), ← ht, UInt64.mul_comm, tailPre_all]
      refine ⟨_, (by simp (disch := (first | assumption | omega | (simp only [lenS, lenT, UInt64.reduceToNat]; try omega))) only [↓Sx.S0, Sx.S1, Tryd.fx, uE7_1, Nat.reduceAdd, Nat.reducePow, Int.reducePow, Nat.reduceBEq, ↓reduceIte, UInt8.reduceToNat, UInt16.reduceToNat, UInt32.reduceToNat, UInt64.reduceToNat, Int.reduceToNat]; rfl), ⟨hw1, trivial⟩, ?_⟩
      rfl
theorem block_spec (st : List UInt32) (blk : List UInt8) (hst : st.length = 8) (hbk : blk.length = 64) (w : World) :
    Rets Tryd.prog 109 #[.agg (a32 st), vs blk] w (fun v D => v = .agg (a32 (comp st blk)) ∧ D = []) := by
  have hkl : kL.length = 64 := rfl
  refine Rets.enterV Tryd.func109 rfl (rs := [.cell 4 161]) Tryd.results109 Tryd.ntmps109 ?_
  simp only [List.size_toArray, List.length_cons, List.length_nil, Nat.reduceAdd, Nat.reduceSub, List.replicate_succ, List.replicate_zero, List.cons_append, List.nil_append]
  ((try with_reducible refine Cw.go [] ?_); (try simp (disch := (first | assumption | omega | (simp only [lenS, lenT, UInt64.reduceToNat]; try omega))) only [↓Sx.S0, Sx.S1, Tryd.fx, uE7_1, Nat.reduceAdd, Nat.reducePow, Int.reducePow, Nat.reduceBEq, ↓reduceIte, UInt8.reduceToNat, UInt16.reduceToNat, UInt32.reduceToNat, UInt64.reduceToNat, Int.reduceToNat]))
  refine Ow.box rfl rfl fun b1 hb1 hw1 => ?_
  refine Ow.go rfl ?_
  simp (disch := (first | assumption | omega | (simp only [lenS, lenT, UInt64.reduceToNat]; try omega))) only [↓Sx.S0, Sx.S1, Tryd.fx, uE7_1, Nat.reduceAdd, Nat.reducePow, Int.reducePow, Nat.reduceBEq, ↓reduceIte, UInt8.reduceToNat, UInt16.reduceToNat, UInt32.reduceToNat, UInt64.reduceToNat, Int.reduceToNat]
  refine Ow.alloc rfl rfl Tryd.zr161 fun b2 hb2 hw2 => ?_
  obtain ⟨h12, -⟩ := hb2
  refine Ow.go rfl ?_
  simp (disch := (first | assumption | omega | (simp only [lenS, lenT, UInt64.reduceToNat]; try omega))) only [↓Sx.S0, Sx.S1, Tryd.fx, uE7_1, Nat.reduceAdd, Nat.reducePow, Int.reducePow, Nat.reduceBEq, ↓reduceIte, UInt8.reduceToNat, UInt16.reduceToNat, UInt32.reduceToNat, UInt64.reduceToNat, Int.reduceToNat]
  ((try with_reducible refine Cw.go [] ?_); (try simp (disch := (first | assumption | omega | (simp only [lenS, lenT, UInt64.reduceToNat]; try omega))) only [↓Sx.S0, Sx.S1, Tryd.fx, uE7_1, Nat.reduceAdd, Nat.reducePow, Int.reducePow, Nat.reduceBEq, ↓reduceIte, UInt8.reduceToNat, UInt16.reduceToNat, UInt32.reduceToNat, UInt64.reduceToNat, Int.reduceToNat]))
  refine Ow.alloc rfl rfl Tryd.zr189 fun b3 hb3 hw3 => ?_
  obtain ⟨h13, h23, -⟩ := hb3
  refine Ow.go rfl ?_
  simp (disch := (first | assumption | omega | (simp only [lenS, lenT, UInt64.reduceToNat]; try omega))) only [↓Sx.S0, Sx.S1, Tryd.fx, uE7_1, Nat.reduceAdd, Nat.reducePow, Int.reducePow, Nat.reduceBEq, ↓reduceIte, UInt8.reduceToNat, UInt16.reduceToNat, UInt32.reduceToNat, UInt64.reduceToNat, Int.reduceToNat]
  ((try with_reducible refine Cw.go [] ?_); (try simp (disch := (first | assumption | omega | (simp only [lenS, lenT, UInt64.reduceToNat]; try omega))) only [↓Sx.S0, Sx.S1, Tryd.fx, uE7_1, Nat.reduceAdd, Nat.reducePow, Int.reducePow, Nat.reduceBEq, ↓reduceIte, UInt8.reduceToNat, UInt16.reduceToNat, UInt32.reduceToNat, UInt64.reduceToNat, Int.reduceToNat]))
  rw [← wPre_zero blk]
  refine Cw.loopG (G := Nat) [22, 23, 26, 27, 28, 29, 30, 31, 32, 33, 34, 35, 36, 37, 38, 39, 40, 41, 42, 43, 44, 45, 46, 47, 48, 49, 50, 51, 52, 53, 54, 55, 56, 24, 25, 6] (fun g => [(6, vi g)]) (fun g => [(b1, .cells (a32 st) 161 (0, 0)), (b2, .cells (a32 (List.replicate 8 0)) 161 (0, 0)), (b3, .cells (a32 (wPre blk g)) 189 (0, 0))]) (fun g => g ≤ 16) (fun g => 16 - g) 0 rfl rfl ?_ ?_
  · omega
  intro g j hg
  simp only [overFrom, pin, setF_0, setF_s, List.contains_cons, List.contains_nil, Nat.reduceBEq, Bool.or_false, Bool.false_or, Bool.or_true, Bool.true_or, Nat.reduceAdd, ↓reduceIte, Bool.false_eq_true]
  have hlen := wPre_length blk g
  by_cases hlt : g < 16
  · ((try with_reducible refine Cw.go [] ?_); (try simp (disch := (first | assumption | omega | (simp only [lenS, lenT, UInt64.reduceToNat]; try omega))) only [↓Sx.S0, Sx.S1, Tryd.fx, uE7_1, Nat.reduceAdd, Nat.reducePow, Int.reducePow, Nat.reduceBEq, ↓reduceIte, UInt8.reduceToNat, UInt16.reduceToNat, UInt32.reduceToNat, UInt64.reduceToNat, Int.reduceToNat]))
    refine Cw.regionO [0, 1, 2, 3, 4, 5, 6, 7, 8, 9, 10, 11, 12, 13, 14, 15, 16, 17, 18, 19, 20, 21, 22, 23, 24, 25, 26, 27, 28, 29, 30, 31] [31] rfl (by kernel_rfl) (by kernel_rfl) ?_
    simp only [nl_cons, ↓pickL_nil, ↓pickL_cons, ↓nthO_0, ↓nthO_s, consO_some]
    refine Ow.goQ ?_
    simp (disch := (first | assumption | omega | (simp only [lenS, lenT, UInt64.reduceToNat]; try omega))) only [↓Sx.S0, Sx.S1, Tryd.fx, uE7_1, Nat.reduceAdd, Nat.reducePow, Int.reducePow, Nat.reduceBEq, ↓reduceIte, UInt8.reduceToNat, UInt16.reduceToNat, UInt32.reduceToNat, UInt64.reduceToNat, Int.reduceToNat]
    refine Ow.store rfl rfl rfl (by simp (disch := (first | assumption | omega | (simp only [lenS, lenT, UInt64.reduceToNat]; try omega))) only [↓Sx.S0, Sx.S1, Tryd.fx, uE7_1, Nat.reduceAdd, Nat.reducePow, Int.reducePow, Nat.reduceBEq, ↓reduceIte, UInt8.reduceToNat, UInt16.reduceToNat, UInt32.reduceToNat, UInt64.reduceToNat, Int.reduceToNat]; rfl) ?_
    refine Ow.go rfl ?_
    simp (disch := (first | assumption | omega | (simp only [lenS, lenT, UInt64.reduceToNat]; try omega))) only [↓Sx.S0, Sx.S1, Tryd.fx, uE7_1, Nat.reduceAdd, Nat.reducePow, Int.reducePow, Nat.reduceBEq, ↓reduceIte, UInt8.reduceToNat, UInt16.reduceToNat, UInt32.reduceToNat, UInt64.reduceToNat, Int.reduceToNat]
    ((try with_reducible refine Cw.go [] ?_); (try simp (disch := (first | assumption | omega | (simp only [lenS, lenT, UInt64.reduceToNat]; try omega))) only [↓Sx.S0, Sx.S1, Tryd.fx, uE7_1, Nat.reduceAdd, Nat.reducePow, Int.reducePow, Nat.reduceBEq, ↓reduceIte, UInt8.reduceToNat, UInt16.reduceToNat, UInt32.reduceToNat, UInt64.reduceToNat, Int.reduceToNat]))
    exact Again.mk (g + 1) (by omega) (by omega) (by rw [← wPre_succ]; rfl) rfl
  · have hg16 : g = 16 := by omega
    subst hg16
    ((try with_reducible refine Cw.go [] ?_); (try simp (disch := (first | assumption | omega | (simp only [lenS, lenT, UInt64.reduceToNat]; try omega))) only [↓Sx.S0, Sx.S1, Tryd.fx, uE7_1, Nat.reduceAdd, Nat.reducePow, Int.reducePow, Nat.reduceBEq, ↓reduceIte, UInt8.reduceToNat, UInt16.reduceToNat, UInt32.reduceToNat, UInt64.reduceToNat, Int.reduceToNat]))
    rw [wG_start]
    refine Cw.loopG (G := Nat) [57, 58, 61, 62, 63, 64, 65, 66, 67, 68, 8, 9, 69, 70, 71, 72, 73, 74, 75, 76, 77, 78, 79, 80, 81, 82, 83, 84, 85, 86, 87, 88, 89, 90, 91, 92, 93, 94, 95, 96, 97, 59, 60, 7] (fun g => [(7, vi g)]) (fun g => [(b1, .cells (a32 st) 161 (0, 0)), (b2, .cells (a32 (List.replicate 8 0)) 161 (0, 0)), (b3, .cells (a32 (wG blk g)) 189 (0, 0))]) (fun g => 16 ≤ g ∧ g ≤ 64) (fun g => 64 - g) 16 rfl rfl ?_ ?_
    · omega
    intro g j hg
    simp only [overFrom, pin, setF_0, setF_s, List.contains_cons, List.contains_nil, Nat.reduceBEq, Bool.or_false, Bool.false_or, Bool.or_true, Bool.true_or, Nat.reduceAdd, ↓reduceIte, Bool.false_eq_true]
    obtain ⟨hg1, hg2⟩ := hg
    have hlen := wG_length blk g
    by_cases hlt : g < 64
    · ((try with_reducible refine Cw.go [] ?_); (try simp (disch := (first | assumption | omega | (simp only [lenS, lenT, UInt64.reduceToNat]; try omega))) only [↓Sx.S0, Sx.S1, Tryd.fx, uE7_1, Nat.reduceAdd, Nat.reducePow, Int.reducePow, Nat.reduceBEq, ↓reduceIte, UInt8.reduceToNat, UInt16.reduceToNat, UInt32.reduceToNat, UInt64.reduceToNat, Int.reduceToNat]))
      refine Cw.regionO [0, 1, 2, 4, 5, 6, 3, 8, 7, 9] [] rfl (by kernel_rfl) (by kernel_rfl) ?_
      simp only [nl_cons, ↓pickL_nil, ↓pickL_cons, ↓nthO_0, ↓nthO_s, consO_some]
      refine Ow.goQ ?_
      simp (disch := (first | assumption | omega | (simp only [lenS, lenT, UInt64.reduceToNat]; try omega))) only [↓Sx.S0, Sx.S1, Tryd.fx, uE7_1, Nat.reduceAdd, Nat.reducePow, Int.reducePow, Nat.reduceBEq, ↓reduceIte, UInt8.reduceToNat, UInt16.reduceToNat, UInt32.reduceToNat, UInt64.reduceToNat, Int.reduceToNat]
      ((try with_reducible refine Cw.go [] ?_); (try simp (disch := (first | assumption | omega | (simp only [lenS, lenT, UInt64.reduceToNat]; try omega))) only [↓Sx.S0, Sx.S1, Tryd.fx, uE7_1, Nat.reduceAdd, Nat.reducePow, Int.reducePow, Nat.reduceBEq, ↓reduceIte, UInt8.reduceToNat, UInt16.reduceToNat, UInt32.reduceToNat, UInt64.reduceToNat, Int.reduceToNat]))
      refine Cw.regionO [0, 1, 3, 6, 7, 9, 10, 11, 14, 16, 19, 20, 23, 24, 25, 12, 26, 2, 4, 5, 8, 13, 15, 17, 18, 21, 22, 27, 28, 29] [29] rfl (by kernel_rfl) (by kernel_rfl) ?_
      simp only [nl_cons, ↓pickL_nil, ↓pickL_cons, ↓nthO_0, ↓nthO_s, consO_some]
      refine Ow.goQ ?_
      simp (disch := (first | assumption | omega | (simp only [lenS, lenT, UInt64.reduceToNat]; try omega))) only [↓Sx.S0, Sx.S1, Tryd.fx, uE7_1, Nat.reduceAdd, Nat.reducePow, Int.reducePow, Nat.reduceBEq, ↓reduceIte, UInt8.reduceToNat, UInt16.reduceToNat, UInt32.reduceToNat, UInt64.reduceToNat, Int.reduceToNat]
      refine Ow.callFV rfl Tryd.call133 (fun w' hw' => right_spec _ 17 w') ?_
      refine Ow.goQ ?_
      simp (disch := (first | assumption | omega | (simp only [lenS, lenT, UInt64.reduceToNat]; try omega))) only [↓Sx.S0, Sx.S1, Tryd.fx, uE7_1, Nat.reduceAdd, Nat.reducePow, Int.reducePow, Nat.reduceBEq, ↓reduceIte, UInt8.reduceToNat, UInt16.reduceToNat, UInt32.reduceToNat, UInt64.reduceToNat, Int.reduceToNat]
      refine Ow.callFV rfl Tryd.call133 (fun w' hw' => right_spec _ 19 w') ?_
      refine Ow.goQ ?_
      simp (disch := (first | assumption | omega | (simp only [lenS, lenT, UInt64.reduceToNat]; try omega))) only [↓Sx.S0, Sx.S1, Tryd.fx, uE7_1, Nat.reduceAdd, Nat.reducePow, Int.reducePow, Nat.reduceBEq, ↓reduceIte, UInt8.reduceToNat, UInt16.reduceToNat, UInt32.reduceToNat, UInt64.reduceToNat, Int.reduceToNat]
      refine Ow.callFV rfl Tryd.call133 (fun w' hw' => right_spec _ 7 w') ?_
      refine Ow.goQ ?_
      simp (disch := (first | assumption | omega | (simp only [lenS, lenT, UInt64.reduceToNat]; try omega))) only [↓Sx.S0, Sx.S1, Tryd.fx, uE7_1, Nat.reduceAdd, Nat.reducePow, Int.reducePow, Nat.reduceBEq, ↓reduceIte, UInt8.reduceToNat, UInt16.reduceToNat, UInt32.reduceToNat, UInt64.reduceToNat, Int.reduceToNat]
      refine Ow.callFV rfl Tryd.call133 (fun w' hw' => right_spec _ 18 w') ?_
      refine Ow.goQ ?_
      simp (disch := (first | assumption | omega | (simp only [lenS, lenT, UInt64.reduceToNat]; try omega))) only [↓Sx.S0, Sx.S1, Tryd.fx, uE7_1, Nat.reduceAdd, Nat.reducePow, Int.reducePow, Nat.reduceBEq, ↓reduceIte, UInt8.reduceToNat, UInt16.reduceToNat, UInt32.reduceToNat, UInt64.reduceToNat, Int.reduceToNat]
      refine Ow.store rfl rfl rfl (by simp (disch := (first | assumption | omega | (simp only [lenS, lenT, UInt64.reduceToNat]; try omega))) only [↓Sx.S0, Sx.S1, Tryd.fx, uE7_1, Nat.reduceAdd, Nat.reducePow, Int.reducePow, Nat.reduceBEq, ↓reduceIte, UInt8.reduceToNat, UInt16.reduceToNat, UInt32.reduceToNat, UInt64.reduceToNat, Int.reduceToNat]; rfl) ?_
      refine Ow.go rfl ?_
      simp (disch := (first | assumption | omega | (simp only [lenS, lenT, UInt64.reduceToNat]; try omega))) only [↓Sx.S0, Sx.S1, Tryd.fx, uE7_1, Nat.reduceAdd, Nat.reducePow, Int.reducePow, Nat.reduceBEq, ↓reduceIte, UInt8.reduceToNat, UInt16.reduceToNat, UInt32.reduceToNat, UInt64.reduceToNat, Int.reduceToNat]
      ((try with_reducible refine Cw.go [] ?_); (try simp (disch := (first | assumption | omega | (simp only [lenS, lenT, UInt64.reduceToNat]; try omega))) only [↓Sx.S0, Sx.S1, Tryd.fx, uE7_1, Nat.reduceAdd, Nat.reducePow, Int.reducePow, Nat.reduceBEq, ↓reduceIte, UInt8.reduceToNat, UInt16.reduceToNat, UInt32.reduceToNat, UInt64.reduceToNat, Int.reduceToNat]))
      exact Again.mk (g + 1) (by omega) (by omega) (by rw [wG_succ blk g hg1]; rfl) rfl
    · have hg64 : g = 64 := by omega
      subst hg64
      rw [wG_all]
      have hwl := wAll_length blk
      ((try with_reducible refine Cw.go [] ?_); (try simp (disch := (first | assumption | omega | (simp only [lenS, lenT, UInt64.reduceToNat]; try omega))) only [↓Sx.S0, Sx.S1, Tryd.fx, uE7_1, Nat.reduceAdd, Nat.reducePow, Int.reducePow, Nat.reduceBEq, ↓reduceIte, UInt8.reduceToNat, UInt16.reduceToNat, UInt32.reduceToNat, UInt64.reduceToNat, Int.reduceToNat]))
      refine Ow.callFV rfl Tryd.call134 (fun w' hw' => rounds_spec w') ?_
      refine Ow.go rfl ?_
      simp (disch := (first | assumption | omega | (simp only [lenS, lenT, UInt64.reduceToNat]; try omega))) only [↓Sx.S0, Sx.S1, Tryd.fx, uE7_1, Nat.reduceAdd, Nat.reducePow, Int.reducePow, Nat.reduceBEq, ↓reduceIte, UInt8.reduceToNat, UInt16.reduceToNat, UInt32.reduceToNat, UInt64.reduceToNat, Int.reduceToNat]
      refine Ow.alloc rfl rfl Tryd.zr189 fun b4 hb4 hw4 => ?_
      obtain ⟨h14, h24, h34, -⟩ := hb4
      refine Ow.go rfl ?_
      simp (disch := (first | assumption | omega | (simp only [lenS, lenT, UInt64.reduceToNat]; try omega))) only [↓Sx.S0, Sx.S1, Tryd.fx, uE7_1, Nat.reduceAdd, Nat.reducePow, Int.reducePow, Nat.reduceBEq, ↓reduceIte, UInt8.reduceToNat, UInt16.reduceToNat, UInt32.reduceToNat, UInt64.reduceToNat, Int.reduceToNat]
      ((try with_reducible refine Cw.go [] ?_); (try simp (disch := (first | assumption | omega | (simp only [lenS, lenT, UInt64.reduceToNat]; try omega))) only [↓Sx.S0, Sx.S1, Tryd.fx, uE7_1, Nat.reduceAdd, Nat.reducePow, Int.reducePow, Nat.reduceBEq, ↓reduceIte, UInt8.reduceToNat, UInt16.reduceToNat, UInt32.reduceToNat, UInt64.reduceToNat, Int.reduceToNat]))
      refine Cw.regionO [0, 2, 4, 6, 1, 8, 3, 9, 5, 10, 7, 11] [] rfl (by kernel_rfl) (by kernel_rfl) ?_
      simp only [nl_cons, ↓pickL_nil, ↓pickL_cons, ↓nthO_0, ↓nthO_s, consO_some]
      refine Ow.goQ ?_
      simp (disch := (first | assumption | omega | (simp only [lenS, lenT, UInt64.reduceToNat]; try omega))) only [↓Sx.S0, Sx.S1, Tryd.fx, uE7_1, Nat.reduceAdd, Nat.reducePow, Int.reducePow, Nat.reduceBEq, ↓reduceIte, UInt8.reduceToNat, UInt16.reduceToNat, UInt32.reduceToNat, UInt64.reduceToNat, Int.reduceToNat]
      ((try with_reducible refine Cw.go [] ?_); (try simp (disch := (first | assumption | omega | (simp only [lenS, lenT, UInt64.reduceToNat]; try omega))) only [↓Sx.S0, Sx.S1, Tryd.fx, uE7_1, Nat.reduceAdd, Nat.reducePow, Int.reducePow, Nat.reduceBEq, ↓reduceIte, UInt8.reduceToNat, UInt16.reduceToNat, UInt32.reduceToNat, UInt64.reduceToNat, Int.reduceToNat]))
      refine Cw.regionO [0, 2, 4, 6, 1, 8, 3, 9, 5, 10, 7, 11] [] rfl (by kernel_rfl) (by kernel_rfl) ?_
      simp only [nl_cons, ↓pickL_nil, ↓pickL_cons, ↓nthO_0, ↓nthO_s, consO_some]
      refine Ow.goQ ?_
      simp (disch := (first | assumption | omega | (simp only [lenS, lenT, UInt64.reduceToNat]; try omega))) only [↓Sx.S0, Sx.S1, Tryd.fx, uE7_1, Nat.reduceAdd, Nat.reducePow, Int.reducePow, Nat.reduceBEq, ↓reduceIte, UInt8.reduceToNat, UInt16.reduceToNat, UInt32.reduceToNat, UInt64.reduceToNat, Int.reduceToNat]
      ((try with_reducible refine Cw.go [] ?_); (try simp (disch := (first | assumption | omega | (simp only [lenS, lenT, UInt64.reduceToNat]; try omega))) only [↓Sx.S0, Sx.S1, Tryd.fx, uE7_1, Nat.reduceAdd, Nat.reducePow, Int.reducePow, Nat.reduceBEq, ↓reduceIte, UInt8.reduceToNat, UInt16.reduceToNat, UInt32.reduceToNat, UInt64.reduceToNat, Int.reduceToNat]))
      generalize hw : wAll blk = W at *
      refine Cw.loopG (G := Nat) [115, 116, 119, 120, 121, 122, 123, 124, 125, 126, 127, 128, 129, 130, 131, 132, 133, 134, 135, 136, 137, 138, 139, 140, 141, 142, 143, 144, 145, 20, 146, 147, 148, 149, 150, 151, 152, 153, 154, 155, 156, 157, 158, 159, 160, 161, 162, 163, 164, 165, 21, 166, 18, 167, 17, 168, 16, 169, 170, 171, 15, 172, 14, 173, 13, 174, 12, 175, 176, 177, 11, 117, 118, 19] (fun g => [(19, vi g), (11, v32 ((rGo st W g).getD 0 0)), (12, v32 ((rGo st W g).getD 1 0)), (13, v32 ((rGo st W g).getD 2 0)), (14, v32 ((rGo st W g).getD 3 0)), (15, v32 ((rGo st W g).getD 4 0)), (16, v32 ((rGo st W g).getD 5 0)), (17, v32 ((rGo st W g).getD 6 0)), (18, v32 ((rGo st W g).getD 7 0))]) (fun g => [(b1, .cells (a32 st) 161 (0, 0)), (b2, .cells (a32 (List.replicate 8 0)) 161 (0, 0)), (b3, .cells (a32 W) 189 (0, 0)), (b4, .cells (a32 kL) 189 (0, 0))]) (fun g => g ≤ 64) (fun g => 64 - g) 0 rfl rfl ?_ ?_
      · omega
      · intro g j hg
        simp only [overFrom, pin, setF_0, setF_s, List.contains_cons, List.contains_nil, Nat.reduceBEq, Bool.or_false, Bool.false_or, Bool.or_true, Bool.true_or, Nat.reduceAdd, ↓reduceIte, Bool.false_eq_true]
        by_cases hlt : g < 64
        · ((try with_reducible refine Cw.go [] ?_); (try simp (disch := (first | assumption | omega | (simp only [lenS, lenT, UInt64.reduceToNat]; try omega))) only [↓Sx.S0, Sx.S1, Tryd.fx, uE7_1, Nat.reduceAdd, Nat.reducePow, Int.reducePow, Nat.reduceBEq, ↓reduceIte, UInt8.reduceToNat, UInt16.reduceToNat, UInt32.reduceToNat, UInt64.reduceToNat, Int.reduceToNat]))
          refine Cw.regionO [0, 1, 3, 6, 10, 11, 12, 13, 14, 15, 16, 17, 19, 20, 23, 24, 21, 25, 2, 4, 5, 7, 8, 9, 18, 22, 26, 27] [] rfl (by kernel_rfl) (by kernel_rfl) ?_
          simp only [nl_cons, ↓pickL_nil, ↓pickL_cons, ↓nthO_0, ↓nthO_s, consO_some]
          refine Ow.goQ ?_
          simp (disch := (first | assumption | omega | (simp only [lenS, lenT, UInt64.reduceToNat]; try omega))) only [↓Sx.S0, Sx.S1, Tryd.fx, uE7_1, Nat.reduceAdd, Nat.reducePow, Int.reducePow, Nat.reduceBEq, ↓reduceIte, UInt8.reduceToNat, UInt16.reduceToNat, UInt32.reduceToNat, UInt64.reduceToNat, Int.reduceToNat]
          refine Ow.callFV rfl Tryd.call133 (fun w' hw' => right_spec _ 6 w') ?_
          refine Ow.goQ ?_
          simp (disch := (first | assumption | omega | (simp only [lenS, lenT, UInt64.reduceToNat]; try omega))) only [↓Sx.S0, Sx.S1, Tryd.fx, uE7_1, Nat.reduceAdd, Nat.reducePow, Int.reducePow, Nat.reduceBEq, ↓reduceIte, UInt8.reduceToNat, UInt16.reduceToNat, UInt32.reduceToNat, UInt64.reduceToNat, Int.reduceToNat]
          refine Ow.callFV rfl Tryd.call133 (fun w' hw' => right_spec _ 11 w') ?_
          refine Ow.goQ ?_
          simp (disch := (first | assumption | omega | (simp only [lenS, lenT, UInt64.reduceToNat]; try omega))) only [↓Sx.S0, Sx.S1, Tryd.fx, uE7_1, Nat.reduceAdd, Nat.reducePow, Int.reducePow, Nat.reduceBEq, ↓reduceIte, UInt8.reduceToNat, UInt16.reduceToNat, UInt32.reduceToNat, UInt64.reduceToNat, Int.reduceToNat]
          refine Ow.callFV rfl Tryd.call133 (fun w' hw' => right_spec _ 25 w') ?_
          refine Ow.goQ ?_
          simp (disch := (first | assumption | omega | (simp only [lenS, lenT, UInt64.reduceToNat]; try omega))) only [↓Sx.S0, Sx.S1, Tryd.fx, uE7_1, Nat.reduceAdd, Nat.reducePow, Int.reducePow, Nat.reduceBEq, ↓reduceIte, UInt8.reduceToNat, UInt16.reduceToNat, UInt32.reduceToNat, UInt64.reduceToNat, Int.reduceToNat]
          ((try with_reducible refine Cw.go [] ?_); (try simp (disch := (first | assumption | omega | (simp only [lenS, lenT, UInt64.reduceToNat]; try omega))) only [↓Sx.S0, Sx.S1, Tryd.fx, uE7_1, Nat.reduceAdd, Nat.reducePow, Int.reducePow, Nat.reduceBEq, ↓reduceIte, UInt8.reduceToNat, UInt16.reduceToNat, UInt32.reduceToNat, UInt64.reduceToNat, Int.reduceToNat]))
          refine Ow.callFV rfl Tryd.call133 (fun w' hw' => right_spec _ 2 w') ?_
          refine Ow.go rfl ?_
          simp (disch := (first | assumption | omega | (simp only [lenS, lenT, UInt64.reduceToNat]; try omega))) only [↓Sx.S0, Sx.S1, Tryd.fx, uE7_1, Nat.reduceAdd, Nat.reducePow, Int.reducePow, Nat.reduceBEq, ↓reduceIte, UInt8.reduceToNat, UInt16.reduceToNat, UInt32.reduceToNat, UInt64.reduceToNat, Int.reduceToNat]
          refine Ow.callFV rfl Tryd.call133 (fun w' hw' => right_spec _ 13 w') ?_
          refine Ow.go rfl ?_
          simp (disch := (first | assumption | omega | (simp only [lenS, lenT, UInt64.reduceToNat]; try omega))) only [↓Sx.S0, Sx.S1, Tryd.fx, uE7_1, Nat.reduceAdd, Nat.reducePow, Int.reducePow, Nat.reduceBEq, ↓reduceIte, UInt8.reduceToNat, UInt16.reduceToNat, UInt32.reduceToNat, UInt64.reduceToNat, Int.reduceToNat]
          refine Ow.callFV rfl Tryd.call133 (fun w' hw' => right_spec _ 22 w') ?_
          refine Ow.go rfl ?_
          simp (disch := (first | assumption | omega | (simp only [lenS, lenT, UInt64.reduceToNat]; try omega))) only [↓Sx.S0, Sx.S1, Tryd.fx, uE7_1, Nat.reduceAdd, Nat.reducePow, Int.reducePow, Nat.reduceBEq, ↓reduceIte, UInt8.reduceToNat, UInt16.reduceToNat, UInt32.reduceToNat, UInt64.reduceToNat, Int.reduceToNat]
          ((try with_reducible refine Cw.go [] ?_); (try simp (disch := (first | assumption | omega | (simp only [lenS, lenT, UInt64.reduceToNat]; try omega))) only [↓Sx.S0, Sx.S1, Tryd.fx, uE7_1, Nat.reduceAdd, Nat.reducePow, Int.reducePow, Nat.reduceBEq, ↓reduceIte, UInt8.reduceToNat, UInt16.reduceToNat, UInt32.reduceToNat, UInt64.reduceToNat, Int.reduceToNat]))
          exact Again.mk (g + 1) (by omega) (by omega) rfl rfl
        · have hg64 : g = 64 := by omega
          subst hg64
          ((try with_reducible refine Cw.go [] ?_); (try simp (disch := (first | assumption | omega | (simp only [lenS, lenT, UInt64.reduceToNat]; try omega))) only [↓Sx.S0, Sx.S1, Tryd.fx, uE7_1, Nat.reduceAdd, Nat.reducePow, Int.reducePow, Nat.reduceBEq, ↓reduceIte, UInt8.reduceToNat, UInt16.reduceToNat, UInt32.reduceToNat, UInt64.reduceToNat, Int.reduceToNat]))
          have hcomp : comp st blk = addPre st (rGo st W 64) 8 := by rw [← hw]; rfl
          rw [hcomp]
          generalize rGo st W 64 = R at *
          rw [addPre_all]
          refine Ow.build (.agg (a32 [st.getD 0 0 + R.getD 0 0, st.getD 1 0 + R.getD 1 0, st.getD 2 0 + R.getD 2 0, st.getD 3 0 + R.getD 3 0, st.getD 4 0 + R.getD 4 0, st.getD 5 0 + R.getD 5 0, st.getD 6 0 + R.getD 6 0, st.getD 7 0 + R.getD 7 0])) rfl (by kernel_rfl) ?_
          refine Ow.go rfl ?_
          simp (disch := (first | assumption | omega | (simp only [lenS, lenT, UInt64.reduceToNat]; try omega))) only [↓Sx.S0, Sx.S1, Tryd.fx, uE7_1, Nat.reduceAdd, Nat.reducePow, Int.reducePow, Nat.reduceBEq, ↓reduceIte, UInt8.reduceToNat, UInt16.reduceToNat, UInt32.reduceToNat, UInt64.reduceToNat, Int.reduceToNat]
          ((try with_reducible refine Cw.go [] ?_); (try simp (disch := (first | assumption | omega | (simp only [lenS, lenT, UInt64.reduceToNat]; try omega))) only [↓Sx.S0, Sx.S1, Tryd.fx, uE7_1, Nat.reduceAdd, Nat.reducePow, Int.reducePow, Nat.reduceBEq, ↓reduceIte, UInt8.reduceToNat, UInt16.reduceToNat, UInt32.reduceToNat, UInt64.reduceToNat, Int.reduceToNat]))
          refine ⟨_, (by simp (disch := (first | assumption | omega | (simp only [lenS, lenT, UInt64.reduceToNat]; try omega))) only [↓Sx.S0, Sx.S1, Tryd.fx, uE7_1, Nat.reduceAdd, Nat.reducePow, Int.reducePow, Nat.reduceBEq, ↓reduceIte, UInt8.reduceToNat, UInt16.reduceToNat, UInt32.reduceToNat, UInt64.reduceToNat, Int.reduceToNat]; rfl), ⟨hw1, hw2, hw3, hw4, trivial⟩, ?_⟩
          rfl
end Go.Proofs
end
section
open Go Go.Proofs Go.Sx Go.Dig
namespace Go.Proofs
set_option maxRecDepth 10000
set_option maxHeartbeats 1000000
set_option linter.unusedSimpArgs false
set_option linter.defProp false
def uE8_1 := @getD_set_same
theorem refSum_spec (m : List UInt8) (hm : m.length < 1099511627776) (w : World) :
    Rets Tryd.prog 67 #[vs m] w (fun v D => v = .agg (a8 (shaR m)) ∧ D = []) := by
  refine Rets.enterV Tryd.func67 rfl (rs := [.cell 2 40]) Tryd.results67 Tryd.ntmps67 ?_
  simp only [List.size_toArray, List.length_cons, List.length_nil, Nat.reduceAdd, Nat.reduceSub, List.replicate_succ, List.replicate_zero, List.cons_append, List.nil_append]
  ((try with_reducible refine Cw.go [] ?_); (try simp (disch := (first | assumption | omega | (simp only [lenS, lenT, UInt64.reduceToNat]; try omega))) only [↓Sx.S0, Sx.S1, Tryd.fx, uE8_1, Nat.reduceAdd, Nat.reducePow, Int.reducePow, Nat.reduceBEq, ↓reduceIte, UInt8.reduceToNat, UInt16.reduceToNat, UInt32.reduceToNat, UInt64.reduceToNat, Int.reduceToNat]))
  refine Ow.alloc rfl rfl Tryd.zr40 fun b1 hb1 hw1 => ?_
  refine Ow.go rfl ?_
  simp (disch := (first | assumption | omega | (simp only [lenS, lenT, UInt64.reduceToNat]; try omega))) only [↓Sx.S0, Sx.S1, Tryd.fx, uE8_1, Nat.reduceAdd, Nat.reducePow, Int.reducePow, Nat.reduceBEq, ↓reduceIte, UInt8.reduceToNat, UInt16.reduceToNat, UInt32.reduceToNat, UInt64.reduceToNat, Int.reduceToNat]
  ((try with_reducible refine Cw.go [] ?_); (try simp (disch := (first | assumption | omega | (simp only [lenS, lenT, UInt64.reduceToNat]; try omega))) only [↓Sx.S0, Sx.S1, Tryd.fx, uE8_1, Nat.reduceAdd, Nat.reducePow, Int.reducePow, Nat.reduceBEq, ↓reduceIte, UInt8.reduceToNat, UInt16.reduceToNat, UInt32.reduceToNat, UInt64.reduceToNat, Int.reduceToNat]))
  refine Ow.callFV rfl Tryd.call108 (fun w' hw' => lengthened_spec m hm w') ?_
  have hp := padR_length m
  unfold shaR
  generalize padR m = p at *
  refine Ow.go rfl ?_
  simp (disch := (first | assumption | omega | (simp only [lenS, lenT, UInt64.reduceToNat]; try omega))) only [↓Sx.S0, Sx.S1, Tryd.fx, uE8_1, Nat.reduceAdd, Nat.reducePow, Int.reducePow, Nat.reduceBEq, ↓reduceIte, UInt8.reduceToNat, UInt16.reduceToNat, UInt32.reduceToNat, UInt64.reduceToNat, Int.reduceToNat]
  ((try with_reducible refine Cw.go [] ?_); (try simp (disch := (first | assumption | omega | (simp only [lenS, lenT, UInt64.reduceToNat]; try omega))) only [↓Sx.S0, Sx.S1, Tryd.fx, uE8_1, Nat.reduceAdd, Nat.reducePow, Int.reducePow, Nat.reduceBEq, ↓reduceIte, UInt8.reduceToNat, UInt16.reduceToNat, UInt32.reduceToNat, UInt64.reduceToNat, Int.reduceToNat]))
  refine Ow.build (.agg (a32 initL)) rfl (by kernel_rfl) ?_
  refine Ow.go rfl ?_
  simp (disch := (first | assumption | omega | (simp only [lenS, lenT, UInt64.reduceToNat]; try omega))) only [↓Sx.S0, Sx.S1, Tryd.fx, uE8_1, Nat.reduceAdd, Nat.reducePow, Int.reducePow, Nat.reduceBEq, ↓reduceIte, UInt8.reduceToNat, UInt16.reduceToNat, UInt32.reduceToNat, UInt64.reduceToNat, Int.reduceToNat]
  refine Ow.alloc rfl rfl Tryd.zr161 fun b2 hb2 hw2 => ?_
  obtain ⟨h12, -⟩ := hb2
  have hil : initL.length = 8 := rfl
  refine Ow.go rfl ?_
  simp (disch := (first | assumption | omega | (simp only [lenS, lenT, UInt64.reduceToNat]; try omega))) only [↓Sx.S0, Sx.S1, Tryd.fx, uE8_1, Nat.reduceAdd, Nat.reducePow, Int.reducePow, Nat.reduceBEq, ↓reduceIte, UInt8.reduceToNat, UInt16.reduceToNat, UInt32.reduceToNat, UInt64.reduceToNat, Int.reduceToNat]
  ((try with_reducible refine Cw.go [] ?_); (try simp (disch := (first | assumption | omega | (simp only [lenS, lenT, UInt64.reduceToNat]; try omega))) only [↓Sx.S0, Sx.S1, Tryd.fx, uE8_1, Nat.reduceAdd, Nat.reducePow, Int.reducePow, Nat.reduceBEq, ↓reduceIte, UInt8.reduceToNat, UInt16.reduceToNat, UInt32.reduceToNat, UInt64.reduceToNat, Int.reduceToNat]))
  rw [show a32 initL = a32 (comps initL p 0) from rfl]
  refine Cw.loopG (G := Nat) [11, 12, 13, 14, 17, 18, 19, 20, 21, 22, 23, 15, 16, 5] (fun g => [(5, vi (64 * g))]) (fun g => [(b1, .cells (a8 (List.replicate 32 0)) 40 (0, 0)), (b2, .cells (a32 (comps initL p g)) 161 (0, 0))]) (fun g => 64 * g ≤ p.length) (fun g => p.length - 64 * g) 0 rfl rfl ?_ ?_
  · omega
  intro g j hg
  simp only [overFrom, pin, setF_0, setF_s, List.contains_cons, List.contains_nil, Nat.reduceBEq, Bool.or_false, Bool.false_or, Bool.or_true, Bool.true_or, Nat.reduceAdd, ↓reduceIte, Bool.false_eq_true]
  have hcl := comps_length initL p g rfl
  by_cases hlt : 64 * g < p.length
  · ((try with_reducible refine Cw.go [] ?_); (try simp (disch := (first | assumption | omega | (simp only [lenS, lenT, UInt64.reduceToNat]; try omega))) only [↓Sx.S0, Sx.S1, Tryd.fx, uE8_1, Nat.reduceAdd, Nat.reducePow, Int.reducePow, Nat.reduceBEq, ↓reduceIte, UInt8.reduceToNat, UInt16.reduceToNat, UInt32.reduceToNat, UInt64.reduceToNat, Int.reduceToNat]))
    refine Cw.regionO [1, 2, 3, 4, 5, 0, 6, 7] [7] rfl (by kernel_rfl) (by kernel_rfl) ?_
    simp only [nl_cons, ↓pickL_nil, ↓pickL_cons, ↓nthO_0, ↓nthO_s, consO_some]
    refine Ow.goQ ?_
    simp (disch := (first | assumption | omega | (simp only [lenS, lenT, UInt64.reduceToNat]; try omega))) only [↓Sx.S0, Sx.S1, Tryd.fx, uE8_1, Nat.reduceAdd, Nat.reducePow, Int.reducePow, Nat.reduceBEq, ↓reduceIte, UInt8.reduceToNat, UInt16.reduceToNat, UInt32.reduceToNat, UInt64.reduceToNat, Int.reduceToNat]
    rw [show List.drop (64 * g) (List.take (64 * g + 64) p) = (p.drop (64 * g)).take 64 from by rw [List.drop_take]; congr 1; omega]
    refine Ow.callFV rfl Tryd.call109 (fun w' hw' => block_spec _ _ hcl (by simp; omega) w') ?_
    have hcl2 := comp_length (comps initL p g) ((p.drop (64 * g)).take 64)
    refine Ow.goQ ?_
    simp (disch := (first | assumption | omega | (simp only [lenS, lenT, UInt64.reduceToNat]; try omega))) only [↓Sx.S0, Sx.S1, Tryd.fx, uE8_1, Nat.reduceAdd, Nat.reducePow, Int.reducePow, Nat.reduceBEq, ↓reduceIte, UInt8.reduceToNat, UInt16.reduceToNat, UInt32.reduceToNat, UInt64.reduceToNat, Int.reduceToNat]
    refine Ow.store rfl rfl rfl (by simp (disch := (first | assumption | omega | (simp only [lenS, lenT, UInt64.reduceToNat]; try omega))) only [↓Sx.S0, Sx.S1, Tryd.fx, uE8_1, Nat.reduceAdd, Nat.reducePow, Int.reducePow, Nat.reduceBEq, ↓reduceIte, UInt8.reduceToNat, UInt16.reduceToNat, UInt32.reduceToNat, UInt64.reduceToNat, Int.reduceToNat]; rfl) ?_
    refine Ow.go rfl ?_
    simp (disch := (first | assumption | omega | (simp only [lenS, lenT, UInt64.reduceToNat]; try omega))) only [↓Sx.S0, Sx.S1, Tryd.fx, uE8_1, Nat.reduceAdd, Nat.reducePow, Int.reducePow, Nat.reduceBEq, ↓reduceIte, UInt8.reduceToNat, UInt16.reduceToNat, UInt32.reduceToNat, UInt64.reduceToNat, Int.reduceToNat]
    ((try with_reducible refine Cw.go [] ?_); (try simp (disch := (first | assumption | omega | (simp only [lenS, lenT, UInt64.reduceToNat]; try omega))) only [↓Sx.S0, Sx.S1, Tryd.fx, uE8_1, Nat.reduceAdd, Nat.reducePow, Int.reducePow, Nat.reduceBEq, ↓reduceIte, UInt8.reduceToNat, UInt16.reduceToNat, UInt32.reduceToNat, UInt64.reduceToNat, Int.reduceToNat]))
    exact Again.mk (g + 1) (by omega) (by omega) rfl (by rw [show 64 * ((g + 1 : Nat) : Int) = 64 * (g : Int) + 64 from by omega]; rfl)
  · have hge : g = p.length / 64 := by omega
    ((try with_reducible refine Cw.go [] ?_); (try simp (disch := (first | assumption | omega | (simp only [lenS, lenT, UInt64.reduceToNat]; try omega))) only [↓Sx.S0, Sx.S1, Tryd.fx, uE8_1, Nat.reduceAdd, Nat.reducePow, Int.reducePow, Nat.reduceBEq, ↓reduceIte, UInt8.reduceToNat, UInt16.reduceToNat, UInt32.reduceToNat, UInt64.reduceToNat, Int.reduceToNat]))
    rw [← hge]
    refine Ow.alloc rfl rfl Tryd.zr40 fun b3 hb3 hw3 => ?_
    obtain ⟨h13, h23, -⟩ := hb3
    refine Ow.go rfl ?_
    simp (disch := (first | assumption | omega | (simp only [lenS, lenT, UInt64.reduceToNat]; try omega))) only [↓Sx.S0, Sx.S1, Tryd.fx, uE8_1, Nat.reduceAdd, Nat.reducePow, Int.reducePow, Nat.reduceBEq, ↓reduceIte, UInt8.reduceToNat, UInt16.reduceToNat, UInt32.reduceToNat, UInt64.reduceToNat, Int.reduceToNat]
    ((try with_reducible refine Cw.go [] ?_); (try simp (disch := (first | assumption | omega | (simp only [lenS, lenT, UInt64.reduceToNat]; try omega))) only [↓Sx.S0, Sx.S1, Tryd.fx, uE8_1, Nat.reduceAdd, Nat.reducePow, Int.reducePow, Nat.reduceBEq, ↓reduceIte, UInt8.reduceToNat, UInt16.reduceToNat, UInt32.reduceToNat, UInt64.reduceToNat, Int.reduceToNat]))
    generalize comps initL p g = S at *
    rw [show [(b1, Obj.cells (a8 (List.replicate 32 0)) 40 (0, 0)), (b2, .cells (a32 S) 161 (0, 0)), (b3, .cells (a8 (List.replicate 32 0)) 40 (0, 0))] = [(b1, Obj.cells (a8 (List.replicate 32 0)) 40 (0, 0)), (b2, .cells (a32 S) 161 (0, 0)), (b3, .cells (a8 (outPre S 0)) 40 (0, 0))] from by rw [outPre_zero]]
    refine Cw.loopG (G := Nat) [24, 25, 28, 29, 30, 31, 32, 33, 34, 35, 36, 37, 38, 39, 40, 26, 27, 7] (fun k => [(7, vi k)]) (fun k => [(b1, .cells (a8 (List.replicate 32 0)) 40 (0, 0)), (b2, .cells (a32 S) 161 (0, 0)), (b3, .cells (a8 (outPre S k)) 40 (0, 0))]) (fun k => k ≤ 32) (fun k => 32 - k) 0 rfl rfl ?_ ?_
    · omega
    intro k jk hk
    simp only [overFrom, pin, setF_0, setF_s, List.contains_cons, List.contains_nil, Nat.reduceBEq, Bool.or_false, Bool.false_or, Bool.or_true, Bool.true_or, Nat.reduceAdd, ↓reduceIte, Bool.false_eq_true]
    have hol := outPre_length S k
    by_cases hk : k < 32
    · ((try with_reducible refine Cw.go [] ?_); (try simp (disch := (first | assumption | omega | (simp only [lenS, lenT, UInt64.reduceToNat]; try omega))) only [↓Sx.S0, Sx.S1, Tryd.fx, uE8_1, Nat.reduceAdd, Nat.reducePow, Int.reducePow, Nat.reduceBEq, ↓reduceIte, UInt8.reduceToNat, UInt16.reduceToNat, UInt32.reduceToNat, UInt64.reduceToNat, Int.reduceToNat]))
      refine Again.mk (k + 1) (by omega) (by omega) ?_ rfl
      have e : (UInt64.ofInt (24 - 8 * ((k : Int) % 4))).toNat = 24 - 8 * (k % 4) := by
        rw [show (24 - 8 * ((k : Int) % 4)) = ((24 - 8 * (k % 4) : Nat) : Int) from by omega, ofInt_nat, UInt64.toNat_ofNat', Nat.mod_eq_of_lt (by omega)]
      rw [e, ← outPre_succ]; rfl
    · have hke : k = 32 := by omega
      subst hke
      ((try with_reducible refine Cw.go [] ?_); (try simp (disch := (first | assumption | omega | (simp only [lenS, lenT, UInt64.reduceToNat]; try omega))) only [↓Sx.S0, Sx.S1, Tryd.fx, uE8_1, Nat.reduceAdd, Nat.reducePow, Int.reducePow, Nat.reduceBEq, ↓reduceIte, UInt8.reduceToNat, UInt16.reduceToNat, UInt32.reduceToNat, UInt64.reduceToNat, Int.reduceToNat]))
      refine ⟨_, (by simp (disch := (first | assumption | omega | (simp only [lenS, lenT, UInt64.reduceToNat]; try omega))) only [↓Sx.S0, Sx.S1, Tryd.fx, uE8_1, Nat.reduceAdd, Nat.reducePow, Int.reducePow, Nat.reduceBEq, ↓reduceIte, UInt8.reduceToNat, UInt16.reduceToNat, UInt32.reduceToNat, UInt64.reduceToNat, Int.reduceToNat]; rfl), ⟨hw1, hw2, hw3, trivial⟩, ?_⟩
      rfl
end Go.Proofs
end
namespace Go.Dig
open Go.Sx
structure Inv (s : Hs) (p : List UInt8) : Prop where
  ok : s.Ok
  st : s.st = comps initL p (p.length / 64)
  many : s.many = p.length % 64
  rest : s.rest.take s.many = p.drop (64 * (p.length / 64))
theorem Inv.put {s : Hs} {p : List UInt8} (h : Inv s p) (x : UInt8) : Inv (hput s x) (p ++ [x]) := by
  obtain ⟨hok, hst, hmany, hrest⟩ := h
  have hk := hput_ok x hok
  have hm64 := hok.many
  have hrl := hok.rest
  have hle : 64 * (p.length / 64) ≤ p.length := by omega
  have htake : (s.rest.set s.many x).take (s.many + 1) = p.drop (64 * (p.length / 64)) ++ [x] := by
    rw [List.take_add_one, List.take_set, ← hrest]
    congr 1
    · rw [List.set_eq_of_length_le (by simp only [List.length_take]; exact Nat.min_le_left _ _)]
    · simp [hrl, hm64]
  have hlen : (p ++ [x]).length = p.length + 1 := by simp
  have hc : comps initL (p ++ [x]) (p.length / 64) = comps initL p (p.length / 64) := comps_append _ _ _ _ hle
  by_cases h64 : s.many + 1 = 64
  · have e : hput s x = ⟨comp s.st (s.rest.set s.many x), s.rest.set s.many x, 0⟩ := by unfold hput; rw [if_pos h64]
    have hd : (p.length + 1) / 64 = p.length / 64 + 1 := by omega
    have hr : (s.rest.set s.many x) = p.drop (64 * (p.length / 64)) ++ [x] := by
      rw [← htake, h64, List.take_of_length_le (by simp [hrl])]
    refine ⟨hk, ?_, ?_, ?_⟩
    · rw [e, hlen, hd]
      show comp s.st _ = comp (comps initL (p ++ [x]) (p.length / 64)) _
      rw [hc, ← hst, hr, List.drop_append_of_le_length hle, List.take_of_length_le (by simp; omega)]
    · rw [e, hlen]; show 0 = _; omega
    · rw [e, hlen]
      show List.take 0 _ = _
      rw [List.take_zero, List.drop_of_length_le (by rw [hlen]; omega)]
  · have e : hput s x = ⟨s.st, s.rest.set s.many x, s.many + 1⟩ := by unfold hput; rw [if_neg h64]
    have hd : (p.length + 1) / 64 = p.length / 64 := by omega
    refine ⟨hk, ?_, ?_, ?_⟩
    · rw [e, hlen, hd, hc]; exact hst
    · rw [e, hlen]; show s.many + 1 = _; omega
    · rw [e, hlen, hd]
      show List.take (s.many + 1) (s.rest.set s.many x) = _
      rw [htake, List.drop_append_of_le_length hle]
theorem Inv.puts {s : Hs} {p : List UInt8} (h : Inv s p) (l : List UInt8) : Inv (hputs s l) (p ++ l) := by
  induction l generalizing s p with
  | nil => rw [List.append_nil]; exact h
  | cons x r ih =>
    have := ih (h.put x)
    rw [List.append_assoc] at this
    exact this
theorem Inv.zero : Inv H0 [] := ⟨H0_ok, rfl, rfl, rfl⟩
theorem hputs_st (p : List UInt8) : (hputs H0 p).st = comps initL p (p.length / 64) := (Inv.zero.puts p).st
theorem takenL_eq (l : List (List UInt8)) (n : Nat) : takenL (UInt64.ofNat n) l = UInt64.ofNat (n + l.flatten.length) := by
  induction l generalizing n with
  | nil => rfl
  | cons a r ih =>
    show takenL (UInt64.ofNat n + UInt64.ofNat a.length) r = _
    rw [← UInt64.ofNat_add, ih, List.flatten_cons, List.length_append, Nat.add_assoc]
theorem hsum_eq (m : List UInt8) : hsum (hputs H0 m) (UInt64.ofNat m.length) = shaR m := by
  unfold hsum shaR
  rw [← hputs_st]
  suffices h : padded (hputs H0 m) (UInt64.ofNat m.length) = hputs H0 (padR m) by rw [h]
  have hmany : (hput (hputs H0 m) 128).many = (m.length + 1) % 64 := by
    have := ((Inv.zero.puts m).put 128).many
    rw [this]; simp
  unfold padded padR
  rw [hmany, hputs_append, hputs_append, hputs_append, show hputs (hputs H0 m) [128] = hput (hputs H0 m) 128 from rfl]
theorem sumV_eq (l : List (List UInt8)) : sumV l = shaR l.flatten := by
  unfold sumV
  have := takenL_eq l 0
  rw [Nat.zero_add] at this
  rw [show (0 : UInt64) = UInt64.ofNat 0 from rfl, this, hsum_eq]
end Go.Dig
section
open Go Go.Proofs Go.Sx Go.StP
namespace Go.Proofs
set_option maxRecDepth 10000
set_option maxHeartbeats 400000
set_option linter.unusedSimpArgs false
/-! ### Ids of objects -/
theorem GlobE.new {w0 w : World} {L : Heap} (hg : GlobE w0) (h : Hp w0 L w) (hn : New w0.heap.size L) : GlobE w := by
  obtain ⟨e0, e1, f0, f1, h0, h1⟩ := id hg
  have : 2 < w0.heap.size := (Array.getElem?_eq_some_iff.1 h1).1
  exact hg.of h fun b hb => by have := hn.le b hb; omega
theorem frameB_lenR {k : Int} {t : List UInt8} (h : RdOk k t = true) : (frameB k t).length < 100000 := by
  obtain ⟨h1, h2, h3⟩ := RdOk_in h
  have hh : (headB k).length ≤ 4 := by unfold headB; simp only [List.length_drop, List.length_take, List.length_cons, List.length_nil]; omega
  have := numL_clamp_len (t.length : Int)
  unfold frameB textL
  rw [List.length_append, List.length_append]
  omega
theorem shaR_len (m : List UInt8) : (Dig.shaR m).length = 32 := Dig.outPre_length _ _
set_option linter.defProp false
def uRA_1 := And.intro (And.intro (And.intro (@load_ob) (@load_ob0)) (And.intro (@load_ob1) (@store_ob))) (And.intro (And.intro (@Sx.tup2_0) (@Sx.tup2_1)) (And.intro (@rdIn_v8) (@rdIn_vi)))
def idV (k : Int) (t : List UInt8) : IdL := if RdOk k t then ⟨Dig.shaR (frameB k t), shaR_len _⟩ else id0
theorem build_idZ : buildV (plcT Tryd.prog 40) (zeroV Tryd.prog 40) [] = some (.agg (a8 id0.l)) := id (by kernel_rfl)
theorem IdO_spec (k : Int) (t : List UInt8) (w : World) (hG : GlobE w) : Rets Tryd.prog 17 #[obV k t] w (fun v D => v = .tuple #[.agg (a8 (idV k t).l), .bool (RdOk k t)] ∧ D = []) := by
  refine Rets.enterV Tryd.func17 rfl (rs := [.cell 2 40, .tmp 3]) Tryd.results17 Tryd.ntmps17 ?_
  simp only [List.size_toArray, List.length_cons, List.length_nil, Nat.reduceAdd, Nat.reduceSub, List.replicate_succ, List.replicate_zero, List.cons_append, List.nil_append]
  ((try with_reducible refine Cw.go [] ?_); (try simp (disch := (first | assumption | omega | (simp only [lenS, lenT, UInt64.reduceToNat]; try omega))) only [↓Sx.S0, Sx.S1, Tryd.fx, uRA_1, Nat.reduceAdd, Nat.reducePow, Int.reducePow, Nat.reduceBEq, ↓reduceIte, UInt8.reduceToNat, UInt16.reduceToNat, UInt32.reduceToNat, UInt64.reduceToNat, Int.reduceToNat]))
  refine Ow.box rfl rfl fun b1 hb1 hw1 => ?_
  simp only [ev_tmp, getF_0, getF_s, cells_agg, List.nil_append]
  refine Ow.go rfl ?_
  simp (disch := (first | assumption | omega | (simp only [lenS, lenT, UInt64.reduceToNat]; try omega))) only [↓Sx.S0, Sx.S1, Tryd.fx, uRA_1, Nat.reduceAdd, Nat.reducePow, Int.reducePow, Nat.reduceBEq, ↓reduceIte, UInt8.reduceToNat, UInt16.reduceToNat, UInt32.reduceToNat, UInt64.reduceToNat, Int.reduceToNat]
  refine Ow.alloc rfl rfl zrIdE fun b2 hb2 hw2 => ?_
  simp only [cells_agg, List.nil_append, List.cons_append]
  have h12 : b1 < b2 := above_to hb2 (by simp [keys])
  have hi0 := id0.h
  refine Ow.go rfl ?_
  simp (disch := (first | assumption | omega | (simp only [lenS, lenT, UInt64.reduceToNat]; try omega))) only [↓Sx.S0, Sx.S1, Tryd.fx, uRA_1, Nat.reduceAdd, Nat.reducePow, Int.reducePow, Nat.reduceBEq, ↓reduceIte, UInt8.reduceToNat, UInt16.reduceToNat, UInt32.reduceToNat, UInt64.reduceToNat, Int.reduceToNat]
  refine Ow.callC rfl rfl Tryd.call16 (fun w' hw' => FrameO_spec k t w') (fun B v D hA hB hN hS => ?_)
  have hD : New w.heap.size D := New.mono hB hN
  unfold idV
  cases hr : RdOk k t
  · rw [hr, if_neg (by decide)] at hS
    subst hS
    have e : ((1 : Int) != 0) = true := rfl
    refine Ow.go rfl ?_
    simp (disch := (first | assumption | omega | (simp only [lenS, lenT, UInt64.reduceToNat]; try omega))) only [↓Sx.S0, Sx.S1, Tryd.fx, uRA_1, Nat.reduceAdd, Nat.reducePow, Int.reducePow, Nat.reduceBEq, ↓reduceIte, UInt8.reduceToNat, UInt16.reduceToNat, UInt32.reduceToNat, UInt64.reduceToNat, Int.reduceToNat]
    ((try with_reducible refine Cw.go [] ?_); (try simp (disch := (first | assumption | omega | (simp only [lenS, lenT, UInt64.reduceToNat]; try omega))) only [↓Sx.S0, Sx.S1, Tryd.fx, uRA_1, Nat.reduceAdd, Nat.reducePow, Int.reducePow, Nat.reduceBEq, ↓reduceIte, UInt8.reduceToNat, UInt16.reduceToNat, UInt32.reduceToNat, UInt64.reduceToNat, Int.reduceToNat, e]))
    refine Ow.build (.agg (a8 id0.l)) rfl build_idZ ?_
    refine Ow.go rfl ?_
    simp (disch := (first | assumption | omega | (simp only [lenS, lenT, UInt64.reduceToNat]; try omega))) only [↓Sx.S0, Sx.S1, Tryd.fx, uRA_1, Nat.reduceAdd, Nat.reducePow, Int.reducePow, Nat.reduceBEq, ↓reduceIte, UInt8.reduceToNat, UInt16.reduceToNat, UInt32.reduceToNat, UInt64.reduceToNat, Int.reduceToNat]
    ((try with_reducible refine Cw.go [] ?_); (try simp (disch := (first | assumption | omega | (simp only [lenS, lenT, UInt64.reduceToNat]; try omega))) only [↓Sx.S0, Sx.S1, Tryd.fx, uRA_1, Nat.reduceAdd, Nat.reducePow, Int.reducePow, Nat.reduceBEq, ↓reduceIte, UInt8.reduceToNat, UInt16.reduceToNat, UInt32.reduceToNat, UInt64.reduceToNat, Int.reduceToNat]))
    refine ⟨_, (by simp (disch := (first | assumption | omega | (simp only [lenS, lenT, UInt64.reduceToNat]; try omega))) only [↓Sx.S0, Sx.S1, Tryd.fx, uRA_1, Nat.reduceAdd, Nat.reducePow, Int.reducePow, Nat.reduceBEq, ↓reduceIte, UInt8.reduceToNat, UInt16.reduceToNat, UInt32.reduceToNat, UInt64.reduceToNat, Int.reduceToNat]; rfl), ⟨hw1, hw2, hD⟩, ?_⟩
    rfl
  · rw [hr, if_pos rfl] at hS
    subst hS
    have e : ((0 : Int) != 0) = false := rfl
    have hfl := frameB_lenR hr
    have hzl : ∀ i, i < [frameB k t].length → ([frameB k t].getD i []).length < 1099511627776 := fun i hi => by
      obtain rfl : i = 0 := by simpa using hi
      show (frameB k t).length < _; omega
    refine Ow.go rfl ?_
    simp (disch := (first | assumption | omega | (simp only [lenS, lenT, UInt64.reduceToNat]; try omega))) only [↓Sx.S0, Sx.S1, Tryd.fx, uRA_1, Nat.reduceAdd, Nat.reducePow, Int.reducePow, Nat.reduceBEq, ↓reduceIte, UInt8.reduceToNat, UInt16.reduceToNat, UInt32.reduceToNat, UInt64.reduceToNat, Int.reduceToNat]
    ((try with_reducible refine Cw.go [] ?_); (try simp (disch := (first | assumption | omega | (simp only [lenS, lenT, UInt64.reduceToNat]; try omega))) only [↓Sx.S0, Sx.S1, Tryd.fx, uRA_1, Nat.reduceAdd, Nat.reducePow, Int.reducePow, Nat.reduceBEq, ↓reduceIte, UInt8.reduceToNat, UInt16.reduceToNat, UInt32.reduceToNat, UInt64.reduceToNat, Int.reduceToNat, e]))
    refine Ow.buildSlice (e := 9) #[vs (frameB k t)] rfl rfl (by kernel_rfl) fun b15 hb15 hw15 => ?_
    refine Ow.go rfl ?_
    simp (disch := (first | assumption | omega | (simp only [lenS, lenT, UInt64.reduceToNat]; try omega))) only [↓Sx.S0, Sx.S1, Tryd.fx, uRA_1, Nat.reduceAdd, Nat.reducePow, Int.reducePow, Nat.reduceBEq, ↓reduceIte, UInt8.reduceToNat, UInt16.reduceToNat, UInt32.reduceToNat, UInt64.reduceToNat, Int.reduceToNat]
    refine Ow.callFV rfl Tryd.call63 (fun w' hw' => dsum_spec _ b15 0 [frameB k t] _ _ _ w' (hG.new hw' (by exact ⟨hw1, hw2, New.app hD ⟨hw15, trivial⟩⟩)) (StrS.lit [frameB k t] rfl rfl (hw'.has _ (.cells #[vs (frameB k t)] 9 (0, 0)) (by simp))) (by show (1 : Nat) < 1099511627776; omega) hzl) ?_
    rw [Dig.sumV_eq, show ([frameB k t] : List (List UInt8)).flatten = frameB k t by simp]
    have hsl := shaR_len (frameB k t)
    refine Ow.go rfl ?_
    simp (disch := (first | assumption | omega | (simp only [lenS, lenT, UInt64.reduceToNat]; try omega))) only [↓Sx.S0, Sx.S1, Tryd.fx, uRA_1, Nat.reduceAdd, Nat.reducePow, Int.reducePow, Nat.reduceBEq, ↓reduceIte, UInt8.reduceToNat, UInt16.reduceToNat, UInt32.reduceToNat, UInt64.reduceToNat, Int.reduceToNat]
    ((try with_reducible refine Cw.go [] ?_); (try simp (disch := (first | assumption | omega | (simp only [lenS, lenT, UInt64.reduceToNat]; try omega))) only [↓Sx.S0, Sx.S1, Tryd.fx, uRA_1, Nat.reduceAdd, Nat.reducePow, Int.reducePow, Nat.reduceBEq, ↓reduceIte, UInt8.reduceToNat, UInt16.reduceToNat, UInt32.reduceToNat, UInt64.reduceToNat, Int.reduceToNat]))
    refine ⟨_, (by simp (disch := (first | assumption | omega | (simp only [lenS, lenT, UInt64.reduceToNat]; try omega))) only [↓Sx.S0, Sx.S1, Tryd.fx, uRA_1, Nat.reduceAdd, Nat.reducePow, Int.reducePow, Nat.reduceBEq, ↓reduceIte, UInt8.reduceToNat, UInt16.reduceToNat, UInt32.reduceToNat, UInt64.reduceToNat, Int.reduceToNat]; rfl), ⟨hw1, hw2, hD.app ⟨hw15, trivial⟩⟩, ?_⟩
    rfl
/-! ### The law's frames and ids -/
def frameL (k : Int) (t : List UInt8) : List UInt8 := (if k = 3 then [99] else if k = 2 then [116] else [98]) ++ textL t
theorem frameL_eq {k : Int} {t : List UInt8} (h : RdOk k t = true) : frameL k t = frameB k t := by
  obtain ⟨h1, h2, -⟩ := RdOk_in h
  unfold frameL frameB
  rcases (show k = 1 ∨ k = 2 ∨ k = 3 by omega) with rfl | rfl | rfl <;> rfl
theorem FrameL_spec (k : Int) (t : List UInt8) (w : World) (ht : t.length < 100000) : Rets Tryd.prog 24 #[obV k t] w (fun v D => v = vs (frameL k t) ∧ D = []) := by
  have tl := textL_len (s := t) (by omega)
  refine Rets.enterV Tryd.func24 rfl (rs := [.tmp 2]) Tryd.results24 Tryd.ntmps24 ?_
  simp only [List.size_toArray, List.length_cons, List.length_nil, Nat.reduceAdd, Nat.reduceSub, List.replicate_succ, List.replicate_zero, List.cons_append, List.nil_append]
  ((try with_reducible refine Cw.go [] ?_); (try simp (disch := (first | assumption | omega | (simp only [lenS, lenT, UInt64.reduceToNat]; try omega))) only [↓Sx.S0, Sx.S1, Tryd.fx, uRA_1, Nat.reduceAdd, Nat.reducePow, Int.reducePow, Nat.reduceBEq, ↓reduceIte, UInt8.reduceToNat, UInt16.reduceToNat, UInt32.reduceToNat, UInt64.reduceToNat, Int.reduceToNat]))
  refine Ow.box rfl rfl fun b1 hb1 hw1 => ?_
  simp only [ev_tmp, getF_0, getF_s, cells_agg, List.nil_append]
  unfold frameL
  by_cases h3 : k = 3
  · have e2 : (k == 2) = false := beq_eq_false_iff_ne.2 (by omega)
    have e3 : (k == 3) = true := by simp [h3]
    rw [if_pos h3]
    refine Ow.go rfl ?_
    simp (disch := (first | assumption | omega | (simp only [lenS, lenT, UInt64.reduceToNat]; try omega))) only [↓Sx.S0, Sx.S1, Tryd.fx, uRA_1, Nat.reduceAdd, Nat.reducePow, Int.reducePow, Nat.reduceBEq, ↓reduceIte, UInt8.reduceToNat, UInt16.reduceToNat, UInt32.reduceToNat, UInt64.reduceToNat, Int.reduceToNat, e2, e3]
    ((try with_reducible refine Cw.go [] ?_); (try simp (disch := (first | assumption | omega | (simp only [lenS, lenT, UInt64.reduceToNat]; try omega))) only [↓Sx.S0, Sx.S1, Tryd.fx, uRA_1, Nat.reduceAdd, Nat.reducePow, Int.reducePow, Nat.reduceBEq, ↓reduceIte, UInt8.reduceToNat, UInt16.reduceToNat, UInt32.reduceToNat, UInt64.reduceToNat, Int.reduceToNat, e2, e3]))
    refine Ow.callFV rfl Tryd.call66 (fun w' hw' => TextR_spec t w' (by omega)) ?_
    refine Ow.go rfl ?_
    simp (disch := (first | assumption | omega | (simp only [lenS, lenT, UInt64.reduceToNat]; try omega))) only [↓Sx.S0, Sx.S1, Tryd.fx, uRA_1, Nat.reduceAdd, Nat.reducePow, Int.reducePow, Nat.reduceBEq, ↓reduceIte, UInt8.reduceToNat, UInt16.reduceToNat, UInt32.reduceToNat, UInt64.reduceToNat, Int.reduceToNat]
    ((try with_reducible refine Cw.go [] ?_); (try simp (disch := (first | assumption | omega | (simp only [lenS, lenT, UInt64.reduceToNat]; try omega))) only [↓Sx.S0, Sx.S1, Tryd.fx, uRA_1, Nat.reduceAdd, Nat.reducePow, Int.reducePow, Nat.reduceBEq, ↓reduceIte, UInt8.reduceToNat, UInt16.reduceToNat, UInt32.reduceToNat, UInt64.reduceToNat, Int.reduceToNat]))
    refine ⟨_, (by simp (disch := (first | assumption | omega | (simp only [lenS, lenT, UInt64.reduceToNat]; try omega))) only [↓Sx.S0, Sx.S1, Tryd.fx, uRA_1, Nat.reduceAdd, Nat.reducePow, Int.reducePow, Nat.reduceBEq, ↓reduceIte, UInt8.reduceToNat, UInt16.reduceToNat, UInt32.reduceToNat, UInt64.reduceToNat, Int.reduceToNat]; rfl), ⟨hw1, trivial⟩, ?_⟩
    rfl
  · have e3 : (k == 3) = false := by simpa using h3
    rw [if_neg h3]
    by_cases h2 : k = 2
    · have e2 : (k == 2) = true := by simp [h2]
      rw [if_pos h2]
      refine Ow.go rfl ?_
      simp (disch := (first | assumption | omega | (simp only [lenS, lenT, UInt64.reduceToNat]; try omega))) only [↓Sx.S0, Sx.S1, Tryd.fx, uRA_1, Nat.reduceAdd, Nat.reducePow, Int.reducePow, Nat.reduceBEq, ↓reduceIte, UInt8.reduceToNat, UInt16.reduceToNat, UInt32.reduceToNat, UInt64.reduceToNat, Int.reduceToNat, e2, e3]
      ((try with_reducible refine Cw.go [] ?_); (try simp (disch := (first | assumption | omega | (simp only [lenS, lenT, UInt64.reduceToNat]; try omega))) only [↓Sx.S0, Sx.S1, Tryd.fx, uRA_1, Nat.reduceAdd, Nat.reducePow, Int.reducePow, Nat.reduceBEq, ↓reduceIte, UInt8.reduceToNat, UInt16.reduceToNat, UInt32.reduceToNat, UInt64.reduceToNat, Int.reduceToNat, e2, e3]))
      refine Ow.callFV rfl Tryd.call66 (fun w' hw' => TextR_spec t w' (by omega)) ?_
      refine Ow.go rfl ?_
      simp (disch := (first | assumption | omega | (simp only [lenS, lenT, UInt64.reduceToNat]; try omega))) only [↓Sx.S0, Sx.S1, Tryd.fx, uRA_1, Nat.reduceAdd, Nat.reducePow, Int.reducePow, Nat.reduceBEq, ↓reduceIte, UInt8.reduceToNat, UInt16.reduceToNat, UInt32.reduceToNat, UInt64.reduceToNat, Int.reduceToNat]
      ((try with_reducible refine Cw.go [] ?_); (try simp (disch := (first | assumption | omega | (simp only [lenS, lenT, UInt64.reduceToNat]; try omega))) only [↓Sx.S0, Sx.S1, Tryd.fx, uRA_1, Nat.reduceAdd, Nat.reducePow, Int.reducePow, Nat.reduceBEq, ↓reduceIte, UInt8.reduceToNat, UInt16.reduceToNat, UInt32.reduceToNat, UInt64.reduceToNat, Int.reduceToNat]))
      refine ⟨_, (by simp (disch := (first | assumption | omega | (simp only [lenS, lenT, UInt64.reduceToNat]; try omega))) only [↓Sx.S0, Sx.S1, Tryd.fx, uRA_1, Nat.reduceAdd, Nat.reducePow, Int.reducePow, Nat.reduceBEq, ↓reduceIte, UInt8.reduceToNat, UInt16.reduceToNat, UInt32.reduceToNat, UInt64.reduceToNat, Int.reduceToNat]; rfl), ⟨hw1, trivial⟩, ?_⟩
      rfl
    · have e2 : (k == 2) = false := by simpa using h2
      rw [if_neg h2]
      refine Ow.go rfl ?_
      simp (disch := (first | assumption | omega | (simp only [lenS, lenT, UInt64.reduceToNat]; try omega))) only [↓Sx.S0, Sx.S1, Tryd.fx, uRA_1, Nat.reduceAdd, Nat.reducePow, Int.reducePow, Nat.reduceBEq, ↓reduceIte, UInt8.reduceToNat, UInt16.reduceToNat, UInt32.reduceToNat, UInt64.reduceToNat, Int.reduceToNat, e2, e3]
      ((try with_reducible refine Cw.go [] ?_); (try simp (disch := (first | assumption | omega | (simp only [lenS, lenT, UInt64.reduceToNat]; try omega))) only [↓Sx.S0, Sx.S1, Tryd.fx, uRA_1, Nat.reduceAdd, Nat.reducePow, Int.reducePow, Nat.reduceBEq, ↓reduceIte, UInt8.reduceToNat, UInt16.reduceToNat, UInt32.reduceToNat, UInt64.reduceToNat, Int.reduceToNat, e2, e3]))
      refine Ow.callFV rfl Tryd.call66 (fun w' hw' => TextR_spec t w' (by omega)) ?_
      refine Ow.go rfl ?_
      simp (disch := (first | assumption | omega | (simp only [lenS, lenT, UInt64.reduceToNat]; try omega))) only [↓Sx.S0, Sx.S1, Tryd.fx, uRA_1, Nat.reduceAdd, Nat.reducePow, Int.reducePow, Nat.reduceBEq, ↓reduceIte, UInt8.reduceToNat, UInt16.reduceToNat, UInt32.reduceToNat, UInt64.reduceToNat, Int.reduceToNat]
      ((try with_reducible refine Cw.go [] ?_); (try simp (disch := (first | assumption | omega | (simp only [lenS, lenT, UInt64.reduceToNat]; try omega))) only [↓Sx.S0, Sx.S1, Tryd.fx, uRA_1, Nat.reduceAdd, Nat.reducePow, Int.reducePow, Nat.reduceBEq, ↓reduceIte, UInt8.reduceToNat, UInt16.reduceToNat, UInt32.reduceToNat, UInt64.reduceToNat, Int.reduceToNat]))
      refine ⟨_, (by simp (disch := (first | assumption | omega | (simp only [lenS, lenT, UInt64.reduceToNat]; try omega))) only [↓Sx.S0, Sx.S1, Tryd.fx, uRA_1, Nat.reduceAdd, Nat.reducePow, Int.reducePow, Nat.reduceBEq, ↓reduceIte, UInt8.reduceToNat, UInt16.reduceToNat, UInt32.reduceToNat, UInt64.reduceToNat, Int.reduceToNat]; rfl), ⟨hw1, trivial⟩, ?_⟩
      rfl
theorem IdL_spec (k : Int) (t : List UInt8) (w : World) (ht : t.length < 100000) : Rets Tryd.prog 25 #[obV k t] w (fun v D => v = .agg (a8 (Dig.shaR (frameL k t))) ∧ D = []) := by
  have tl := textL_len (s := t) (by omega)
  have fl : (frameL k t).length < 1099511627776 := by
    have nl := numL_clamp_len (t.length : Int)
    unfold frameL textL; rw [List.length_append, List.length_append]
    have : ((if k = 3 then [99] else if k = 2 then [116] else [98] : List UInt8)).length = 1 := by split <;> (try split) <;> rfl
    omega
  have hsl := shaR_len (frameL k t)
  refine Rets.enterV Tryd.func25 rfl (rs := [.cell 2 40]) Tryd.results25 Tryd.ntmps25 ?_
  simp only [List.size_toArray, List.length_cons, List.length_nil, Nat.reduceAdd, Nat.reduceSub, List.replicate_succ, List.replicate_zero, List.cons_append, List.nil_append]
  ((try with_reducible refine Cw.go [] ?_); (try simp (disch := (first | assumption | omega | (simp only [lenS, lenT, UInt64.reduceToNat]; try omega))) only [↓Sx.S0, Sx.S1, Tryd.fx, uRA_1, Nat.reduceAdd, Nat.reducePow, Int.reducePow, Nat.reduceBEq, ↓reduceIte, UInt8.reduceToNat, UInt16.reduceToNat, UInt32.reduceToNat, UInt64.reduceToNat, Int.reduceToNat]))
  refine Ow.box rfl rfl fun b1 hb1 hw1 => ?_
  simp only [ev_tmp, getF_0, getF_s, cells_agg, List.nil_append]
  refine Ow.go rfl ?_
  simp (disch := (first | assumption | omega | (simp only [lenS, lenT, UInt64.reduceToNat]; try omega))) only [↓Sx.S0, Sx.S1, Tryd.fx, uRA_1, Nat.reduceAdd, Nat.reducePow, Int.reducePow, Nat.reduceBEq, ↓reduceIte, UInt8.reduceToNat, UInt16.reduceToNat, UInt32.reduceToNat, UInt64.reduceToNat, Int.reduceToNat]
  refine Ow.alloc rfl rfl zrIdE fun b2 hb2 hw2 => ?_
  simp only [cells_agg, List.nil_append, List.cons_append]
  have h12 : b1 < b2 := above_to hb2 (by simp [keys])
  have hi0 := id0.h
  refine Ow.go rfl ?_
  simp (disch := (first | assumption | omega | (simp only [lenS, lenT, UInt64.reduceToNat]; try omega))) only [↓Sx.S0, Sx.S1, Tryd.fx, uRA_1, Nat.reduceAdd, Nat.reducePow, Int.reducePow, Nat.reduceBEq, ↓reduceIte, UInt8.reduceToNat, UInt16.reduceToNat, UInt32.reduceToNat, UInt64.reduceToNat, Int.reduceToNat]
  refine Ow.callFV rfl Tryd.call24 (fun w' hw' => FrameL_spec k t w' ht) ?_
  refine Ow.go rfl ?_
  simp (disch := (first | assumption | omega | (simp only [lenS, lenT, UInt64.reduceToNat]; try omega))) only [↓Sx.S0, Sx.S1, Tryd.fx, uRA_1, Nat.reduceAdd, Nat.reducePow, Int.reducePow, Nat.reduceBEq, ↓reduceIte, UInt8.reduceToNat, UInt16.reduceToNat, UInt32.reduceToNat, UInt64.reduceToNat, Int.reduceToNat]
  refine Ow.callFV rfl Tryd.call67 (fun w' hw' => refSum_spec _ fl w') ?_
  refine Ow.go rfl ?_
  simp (disch := (first | assumption | omega | (simp only [lenS, lenT, UInt64.reduceToNat]; try omega))) only [↓Sx.S0, Sx.S1, Tryd.fx, uRA_1, Nat.reduceAdd, Nat.reducePow, Int.reducePow, Nat.reduceBEq, ↓reduceIte, UInt8.reduceToNat, UInt16.reduceToNat, UInt32.reduceToNat, UInt64.reduceToNat, Int.reduceToNat]
  ((try with_reducible refine Cw.go [] ?_); (try simp (disch := (first | assumption | omega | (simp only [lenS, lenT, UInt64.reduceToNat]; try omega))) only [↓Sx.S0, Sx.S1, Tryd.fx, uRA_1, Nat.reduceAdd, Nat.reducePow, Int.reducePow, Nat.reduceBEq, ↓reduceIte, UInt8.reduceToNat, UInt16.reduceToNat, UInt32.reduceToNat, UInt64.reduceToNat, Int.reduceToNat]))
  refine ⟨_, (by simp (disch := (first | assumption | omega | (simp only [lenS, lenT, UInt64.reduceToNat]; try omega))) only [↓Sx.S0, Sx.S1, Tryd.fx, uRA_1, Nat.reduceAdd, Nat.reducePow, Int.reducePow, Nat.reduceBEq, ↓reduceIte, UInt8.reduceToNat, UInt16.reduceToNat, UInt32.reduceToNat, UInt64.reduceToNat, Int.reduceToNat]; rfl), ⟨hw1, hw2, trivial⟩, ?_⟩
  rfl
instance : DecidableEq ChildL := fun a b => if h : a.id.l = b.id.l ∧ a.kind = b.kind then .isTrue (by cases a; cases b; simp only at h; obtain ⟨h3, rfl⟩ := h; rw [IdL.ext' h3]) else .isFalse (fun e => h (by rw [e]; exact ⟨rfl, rfl⟩))
theorem ChildL.ext' {a b : ChildL} (h : (a.id.l == b.id.l && a.kind == b.kind) = true) : a = b := by
  simp only [Bool.and_eq_true, beq_iff_eq] at h
  cases a; cases b; simp only at h; obtain ⟨h3, rfl⟩ := h; rw [IdL.ext' h3]
set_option linter.defProp false
def uRA_2 := And.intro (And.intro (And.intro (@load_chd0) (@load_chd1)) (And.intro (@load_chd) (@store_chdr))) (And.intro (And.intro (@cells_chd) (@rdIn_v8)) (And.intro (@rdIn_vi) (@neChd)))
theorem SameChildren_spec (v1 v2 : Value) (l1 l2 : List ChildL) (w : World) (hv1 : ChdS w v1 l1) (hv2 : ChdS w v2 l2) (hl1 : l1.length < 1000000) (_hl2 : l2.length < 1000000) :
    Rets Tryd.prog 26 #[v1, v2] w (fun v' D => v' = .bool (decide (l1 = l2)) ∧ D = []) := by
  obtain ⟨b1, off1, arr1, E1, fz1, hr1⟩ := hv1.row
  obtain ⟨b2, off2, arr2, E2, fz2, hr2⟩ := hv2.row
  have ln1 := hv1.len
  have ln2 := hv2.len
  refine Rets.enterV Tryd.func26 rfl (rs := [.tmp 4]) Tryd.results26 Tryd.ntmps26 ?_
  simp only [List.size_toArray, List.length_cons, List.length_nil, Nat.reduceAdd, Nat.reduceSub, List.replicate_succ, List.replicate_zero, List.cons_append, List.nil_append]
  by_cases hl : l1.length = l2.length
  · ((try with_reducible refine Cw.go [] ?_); (try simp (disch := (first | assumption | omega | (simp only [lenS, lenT, UInt64.reduceToNat]; try omega))) only [↓Sx.S0, Sx.S1, Tryd.fx, uRA_2, Nat.reduceAdd, Nat.reducePow, Int.reducePow, Nat.reduceBEq, ↓reduceIte, UInt8.reduceToNat, UInt16.reduceToNat, UInt32.reduceToNat, UInt64.reduceToNat, Int.reduceToNat, ln1, ln2]))
    refine Cw.loopG (G := Nat) [11, 12, 13, 14, 17, 18, 19, 20, 21, 22, 23, 24, 25, 4, 15, 16, 5] (fun g => [(5, vi g)]) (fun g => []) (fun g => g ≤ l1.length ∧ l1.take g = l2.take g) (fun g => l1.length - g) 0 rfl rfl ?_ ?_
    · exact ⟨Nat.zero_le _, rfl⟩
    · intro k jk hk
      simp only [overFrom, pin, setF_0, setF_s, List.contains_cons, List.contains_nil, Nat.reduceBEq, Bool.or_false, Bool.false_or, Bool.or_true, Bool.true_or, Nat.reduceAdd, ↓reduceIte, Bool.false_eq_true]
      obtain ⟨h1, h2⟩ := hk
      by_cases hk : k < l1.length
      · have h0 : 0 < l1.length := by omega
        have ra := hr1.has h0
        have rb := hr2.has (show 0 < l2.length by omega)
        have ia := hr1.idx true k hk
        have ib := hr2.idx true k (show k < l2.length by omega)
        have la := row_chd hr1 hk
        have lb := row_chd hr2 (show k < l2.length by omega)
        ((try with_reducible refine Cw.go [] ?_); (try simp (disch := (first | assumption | omega | (simp only [lenS, lenT, UInt64.reduceToNat]; try omega))) only [↓Sx.S0, Sx.S1, Tryd.fx, uRA_2, Nat.reduceAdd, Nat.reducePow, Int.reducePow, Nat.reduceBEq, ↓reduceIte, UInt8.reduceToNat, UInt16.reduceToNat, UInt32.reduceToNat, UInt64.reduceToNat, Int.reduceToNat, ln1]))
        refine Cw.regionS [b1, b2] [0, 1, 2, 4, 5, 6, 3, 7, 8] [] (by kernel_rfl) (by kernel_rfl) (by kernel_rfl) ?_
        simp only [nl_cons, ↓pickL_nil, ↓pickL_cons, ↓nthO_0, ↓nthO_s, consO_some]
        refine Ow.goQ ?_
        simp (disch := (first | assumption | omega | (simp only [lenS, lenT, UInt64.reduceToNat]; try omega))) only [↓Sx.S0, Sx.S1, Tryd.fx, uRA_2, Nat.reduceAdd, Nat.reducePow, Int.reducePow, Nat.reduceBEq, ↓reduceIte, UInt8.reduceToNat, UInt16.reduceToNat, UInt32.reduceToNat, UInt64.reduceToNat, Int.reduceToNat, ra, rb, ia, ib, la, lb]
        cases hq : ((l1.getD k chd0).id.l == (l2.getD k chd0).id.l && (l1.getD k chd0).kind == (l2.getD k chd0).kind)
        · have : decide (l1 = l2) = false := decide_eq_false (fun e => by rw [e] at hq; simp at hq)
          rw [this]
          ((try with_reducible refine Cw.go [] ?_); (try simp (disch := (first | assumption | omega | (simp only [lenS, lenT, UInt64.reduceToNat]; try omega))) only [↓Sx.S0, Sx.S1, Tryd.fx, uRA_2, Nat.reduceAdd, Nat.reducePow, Int.reducePow, Nat.reduceBEq, ↓reduceIte, UInt8.reduceToNat, UInt16.reduceToNat, UInt32.reduceToNat, UInt64.reduceToNat, Int.reduceToNat, hq]))
          refine ⟨_, (by simp (disch := (first | assumption | omega | (simp only [lenS, lenT, UInt64.reduceToNat]; try omega))) only [↓Sx.S0, Sx.S1, Tryd.fx, uRA_2, Nat.reduceAdd, Nat.reducePow, Int.reducePow, Nat.reduceBEq, ↓reduceIte, UInt8.reduceToNat, UInt16.reduceToNat, UInt32.reduceToNat, UInt64.reduceToNat, Int.reduceToNat]; rfl), trivial, ?_⟩
          rfl
        · ((try with_reducible refine Cw.go [] ?_); (try simp (disch := (first | assumption | omega | (simp only [lenS, lenT, UInt64.reduceToNat]; try omega))) only [↓Sx.S0, Sx.S1, Tryd.fx, uRA_2, Nat.reduceAdd, Nat.reducePow, Int.reducePow, Nat.reduceBEq, ↓reduceIte, UInt8.reduceToNat, UInt16.reduceToNat, UInt32.reduceToNat, UInt64.reduceToNat, Int.reduceToNat, hq]))
          refine Again.mk (k + 1) (by omega) ⟨by omega, ?_⟩ rfl rfl
          have e : l1.getD k chd0 = l2.getD k chd0 := ChildL.ext' hq
          rw [take_snoc (z := chd0) hk, take_snoc (z := chd0) (show k < l2.length by omega), h2, e]
      · obtain rfl : k = l1.length := by omega
        rw [List.take_length, hl, List.take_length] at h2
        have : decide (l1 = l2) = true := decide_eq_true h2
        rw [this]
        ((try with_reducible refine Cw.go [] ?_); (try simp (disch := (first | assumption | omega | (simp only [lenS, lenT, UInt64.reduceToNat]; try omega))) only [↓Sx.S0, Sx.S1, Tryd.fx, uRA_2, Nat.reduceAdd, Nat.reducePow, Int.reducePow, Nat.reduceBEq, ↓reduceIte, UInt8.reduceToNat, UInt16.reduceToNat, UInt32.reduceToNat, UInt64.reduceToNat, Int.reduceToNat, ln1]))
        refine ⟨_, (by simp (disch := (first | assumption | omega | (simp only [lenS, lenT, UInt64.reduceToNat]; try omega))) only [↓Sx.S0, Sx.S1, Tryd.fx, uRA_2, Nat.reduceAdd, Nat.reducePow, Int.reducePow, Nat.reduceBEq, ↓reduceIte, UInt8.reduceToNat, UInt16.reduceToNat, UInt32.reduceToNat, UInt64.reduceToNat, Int.reduceToNat]; rfl), trivial, ?_⟩
        rfl
  · have : decide (l1 = l2) = false := decide_eq_false (fun e => hl (by rw [e]))
    rw [this]
    have d1 : (((l1.length : Int)) != (l2.length : Int)) = true := bne_iff_ne.2 (by omega)
    ((try with_reducible refine Cw.go [] ?_); (try simp (disch := (first | assumption | omega | (simp only [lenS, lenT, UInt64.reduceToNat]; try omega))) only [↓Sx.S0, Sx.S1, Tryd.fx, uRA_2, Nat.reduceAdd, Nat.reducePow, Int.reducePow, Nat.reduceBEq, ↓reduceIte, UInt8.reduceToNat, UInt16.reduceToNat, UInt32.reduceToNat, UInt64.reduceToNat, Int.reduceToNat, ln1, ln2, d1]))
    refine ⟨_, (by simp (disch := (first | assumption | omega | (simp only [lenS, lenT, UInt64.reduceToNat]; try omega))) only [↓Sx.S0, Sx.S1, Tryd.fx, uRA_2, Nat.reduceAdd, Nat.reducePow, Int.reducePow, Nat.reduceBEq, ↓reduceIte, UInt8.reduceToNat, UInt16.reduceToNat, UInt32.reduceToNat, UInt64.reduceToNat, Int.reduceToNat]; rfl), trivial, ?_⟩
    rfl
end Go.Proofs
end
section
open Go Go.Proofs Go.Sx Go.StP
namespace Go.Proofs
set_option maxRecDepth 10000
set_option maxHeartbeats 1000000
set_option linter.unusedSimpArgs false
/-! ### Children, as the law tells them -/
theorem readE_of {t : List UInt8} (h : RdOk 2 t = true) : readE t = some (entsE t).1 := by
  rw [RdOk_right] at h
  unfold rightL at h
  split at h
  · cases h
  · rw [if_pos rfl] at h
    unfold readE at h ⊢
    split at h
    · rw [if_pos (by assumption)]
    · cases h
theorem readC_of {t : List UInt8} (h : RdOk 3 t = true) : readC t = some (comE t).1 := by
  rw [RdOk_right] at h
  unfold rightL at h
  split at h
  · cases h
  · rw [if_neg (by decide), if_pos rfl] at h
    unfold readC at h ⊢
    split at h
    · rw [if_pos (by assumption)]
    · cases h
theorem ents_of {t : List UInt8} (h : RdOk 2 t = true) : entsOk (entsE t).1 = true := by
  have := h
  unfold RdOk at this
  rw [if_pos (RdOk_in h), if_neg (by decide), if_pos rfl] at this
  simp only [Bool.and_eq_true] at this
  exact this.2
set_option linter.defProp false
def uRB_1 := And.intro (And.intro (And.intro (And.intro (@load_ob) (@load_ob0)) (And.intro (@load_ob1) (And.intro (@store_ob) (@Sx.tup2_0)))) (And.intro (And.intro (@Sx.tup2_1) (@load_com0)) (And.intro (@load_com1) (And.intro (@load_com2) (@load_com))))) (And.intro (And.intro (And.intro (@cells_com) (@load_ent0)) (And.intro (@load_ent1) (And.intro (@load_ent2) (@load_ent)))) (And.intro (And.intro (@store_entr) (@cells_ent)) (And.intro (@load_idb) (And.intro (@rdIn_v8) (@rdIn_vi)))))
theorem ChildrenL_spec (k : Int) (t : List UInt8) (w : World) (hr : RdOk k t = true) : Rets Tryd.prog 27 #[obV k t] w (XS w [] (fun v D => Gr D 110 33 v (childL k t).length ((childL k t).map chdC).flatten)) := by
  obtain ⟨hk1, hk3, ht⟩ := RdOk_in hr
  refine Rets.enterX Tryd.func27 rfl (rs := [.tmp 2]) Tryd.results27 Tryd.ntmps27 (fun p hp => by cases hp) (by simp [keys]) ?_
  simp only [List.size_toArray, List.length_cons, List.length_nil, Nat.reduceAdd, Nat.reduceSub, List.replicate_succ, List.replicate_zero, List.cons_append, List.nil_append]
  ((try with_reducible refine Cw.go [] ?_); (try simp (disch := (first | assumption | omega | (simp only [lenS, lenT, UInt64.reduceToNat]; try omega))) only [↓Sx.S0, Sx.S1, Tryd.fx, uRB_1, Nat.reduceAdd, Nat.reducePow, Int.reducePow, Nat.reduceBEq, ↓reduceIte, UInt8.reduceToNat, UInt16.reduceToNat, UInt32.reduceToNat, UInt64.reduceToNat, Int.reduceToNat]))
  refine Ow.box rfl rfl fun b1 hb1 hw1 => ?_
  simp only [ev_tmp, getF_0, getF_s, cells_agg, List.nil_append]
  rcases (show k = 1 ∨ k = 2 ∨ k = 3 by omega) with rfl | rfl | rfl
  · have e2 : ((1 : Int) == 2) = false := rfl
    have e3 : ((1 : Int) == 3) = false := rfl
    refine Ow.go rfl ?_
    simp (disch := (first | assumption | omega | (simp only [lenS, lenT, UInt64.reduceToNat]; try omega))) only [↓Sx.S0, Sx.S1, Tryd.fx, uRB_1, Nat.reduceAdd, Nat.reducePow, Int.reducePow, Nat.reduceBEq, ↓reduceIte, UInt8.reduceToNat, UInt16.reduceToNat, UInt32.reduceToNat, UInt64.reduceToNat, Int.reduceToNat, e2, e3]
    ((try with_reducible refine Cw.go [] ?_); (try simp (disch := (first | assumption | omega | (simp only [lenS, lenT, UInt64.reduceToNat]; try omega))) only [↓Sx.S0, Sx.S1, Tryd.fx, uRB_1, Nat.reduceAdd, Nat.reducePow, Int.reducePow, Nat.reduceBEq, ↓reduceIte, UInt8.reduceToNat, UInt16.reduceToNat, UInt32.reduceToNat, UInt64.reduceToNat, Int.reduceToNat, e2, e3]))
    refine ⟨_, (by simp (disch := (first | assumption | omega | (simp only [lenS, lenT, UInt64.reduceToNat]; try omega))) only [↓Sx.S0, Sx.S1, Tryd.fx, uRB_1, Nat.reduceAdd, Nat.reducePow, Int.reducePow, Nat.reduceBEq, ↓reduceIte, UInt8.reduceToNat, UInt16.reduceToNat, UInt32.reduceToNat, UInt64.reduceToNat, Int.reduceToNat]; rfl), ?_⟩
    refine ⟨Ext.of_new ⟨hw1, trivial⟩, ?_⟩
    have e : childL 1 t = [] := by unfold childL; rw [hr]; rfl
    rw [e]; exact Gr.nl
  · have e2 : ((2 : Int) == 2) = true := rfl
    have e3 : ((2 : Int) == 3) = false := rfl
    refine Ow.go rfl ?_
    simp (disch := (first | assumption | omega | (simp only [lenS, lenT, UInt64.reduceToNat]; try omega))) only [↓Sx.S0, Sx.S1, Tryd.fx, uRB_1, Nat.reduceAdd, Nat.reducePow, Int.reducePow, Nat.reduceBEq, ↓reduceIte, UInt8.reduceToNat, UInt16.reduceToNat, UInt32.reduceToNat, UInt64.reduceToNat, Int.reduceToNat, e2, e3]
    ((try with_reducible refine Cw.go [] ?_); (try simp (disch := (first | assumption | omega | (simp only [lenS, lenT, UInt64.reduceToNat]; try omega))) only [↓Sx.S0, Sx.S1, Tryd.fx, uRB_1, Nat.reduceAdd, Nat.reducePow, Int.reducePow, Nat.reduceBEq, ↓reduceIte, UInt8.reduceToNat, UInt16.reduceToNat, UInt32.reduceToNat, UInt64.reduceToNat, Int.reduceToNat, e2, e3]))
    refine Ow.callC rfl rfl Tryd.call28 (fun w' hw' => EntriesR_spec t w' (by omega)) (fun B v D hA hB hN hS => ?_)
    unfold ReadES at hS
    rw [readE_of hr] at hS
    obtain ⟨v1, rfl, hG1⟩ := hS
    have hl32 := (entsOk_short (ents_of hr)).1
    have hcl : childL 2 t = (entsE t).1.map chOfE := by unfold childL; rw [hr, if_pos rfl, if_pos rfl]
    rw [hcl]
    generalize (entsE t).1 = l at *
    obtain ⟨h1B, -⟩ := hA
    have ln1 := hG1.len
    have hD : New w.heap.size D := New.mono hB hN
    refine Ow.go rfl ?_
    simp (disch := (first | assumption | omega | (simp only [lenS, lenT, UInt64.reduceToNat]; try omega))) only [↓Sx.S0, Sx.S1, Tryd.fx, uRB_1, Nat.reduceAdd, Nat.reducePow, Int.reducePow, Nat.reduceBEq, ↓reduceIte, UInt8.reduceToNat, UInt16.reduceToNat, UInt32.reduceToNat, UInt64.reduceToNat, Int.reduceToNat]
    ((try with_reducible refine Cw.go [] ?_); (try simp (disch := (first | assumption | omega | (simp only [lenS, lenT, UInt64.reduceToNat]; try omega))) only [↓Sx.S0, Sx.S1, Tryd.fx, uRB_1, Nat.reduceAdd, Nat.reducePow, Int.reducePow, Nat.reduceBEq, ↓reduceIte, UInt8.reduceToNat, UInt16.reduceToNat, UInt32.reduceToNat, UInt64.reduceToNat, Int.reduceToNat, ln1]))
    refine Cw.permL (M := (b1, Obj.cells #[vi 2, vs t] 45 (0, 0)) :: (D ++ [])) (by rw [List.append_nil]) ?_
    refine Cw.loopG (G := ChG) [19, 20, 21, 22, 25, 26, 27, 28, 29, 30, 31, 32, 33, 34, 35, 36, 37, 38, 3, 23, 24, 6] (fun q => [(3, q.v), (6, vi q.g)]) (fun q => (b1, Obj.cells #[vi 2, vs t] 45 (0, 0)) :: (D ++ q.D)) (fun q => q.g ≤ l.length ∧ New w.heap.size q.D ∧ SepK b1 D q.D ∧ Gr q.D 110 33 q.v ((l.take q.g).map chOfE).length (((l.take q.g).map chOfE).map chdC).flatten) (fun q => l.length - q.g) ⟨0, .slice none 0 0, []⟩ rfl rfl ?_ ?_
    · exact ⟨Nat.zero_le _, trivial, SepK.nil, Gr.nl⟩
    · intro q jq hq
      simp only [overFrom, pin, setF_0, setF_s, List.contains_cons, List.contains_nil, Nat.reduceBEq, Bool.or_false, Bool.false_or, Bool.or_true, Bool.true_or, Nat.reduceAdd, ↓reduceIte, Bool.false_eq_true]
      obtain ⟨g, v, D2⟩ := q
      simp only at hq ⊢
      obtain ⟨hgl, hN2, hSp, hG⟩ := hq
      by_cases hlt : g < l.length
      · obtain ⟨c, cc, rest, rfl, hlc⟩ := Gr.rows hG1 (by omega)
        have hcD := key_of_look hlc
        have hcb := hN.le c hcD
        have hc1 : b1 ≠ c := by omega
        have hc2 : c ∉ keys D2 := fun hm => by have := (hSp c hm).2 c hcD; omega
        have rdc : ∀ M, readB w (D ++ M) c = some (entO rest l) := fun M => read_look (look_app hlc)
        have ldc1 : ∀ n, loadV (some (false, n)) (some (entO rest l)) (g * 34 + 1) = some (vi (l.getD g ent0).kind) := fun n => by
          obtain ⟨A, C, e, hAl, -⟩ := row_split (z := ent0) (rest := rest) entC_len hlt
          show loadV (some (false, n)) (some (.cells ((l.map entC).flatten ++ rest).toArray 108 (0, 0))) (g * 34 + 1) = _
          rw [e]
          generalize l.getD g ent0 = x
          rw [show A ++ (entC x ++ C) = (A ++ [vs x.name]) ++ ([vi x.kind] ++ (x.id.l.map v8 ++ C)) by unfold entC; simp only [List.append_assoc]]
          exact load_one _ _ _ n _ _ (by simp [hAl])
        have ldc2 : loadV (some (true, 32)) (some (entO rest l)) (g * 34 + 2) = some (.agg (a8 (l.getD g ent0).id.l)) := by
          obtain ⟨A, C, e, hAl, -⟩ := row_split (z := ent0) (rest := rest) entC_len hlt
          show loadV (some (true, 32)) (some (.cells ((l.map entC).flatten ++ rest).toArray 108 (0, 0))) (g * 34 + 2) = _
          rw [e]
          generalize l.getD g ent0 = x
          rw [show A ++ (entC x ++ C) = (A ++ ([vs x.name] ++ [vi x.kind])) ++ (x.id.l.map v8 ++ C) by unfold entC; simp only [List.append_assoc]]
          exact load_agg _ _ _ _ _ (by simp [hAl]) (by simp [x.id.h])
        have hml := map_take_succ chOfE ent0 hlt
        have hmll : ((l.take g).map chOfE).length = g := by rw [List.length_map, List.length_take]; omega
        generalize hx : l.getD g ent0 = x at ldc1 ldc2 hml
        ((try with_reducible refine Cw.go [6] ?_); (try simp (disch := (first | assumption | omega | (simp only [lenS, lenT, UInt64.reduceToNat]; try omega))) only [↓Sx.S0, Sx.S1, Tryd.fx, uRB_1, Nat.reduceAdd, Nat.reducePow, Int.reducePow, Nat.reduceBEq, ↓reduceIte, UInt8.reduceToNat, UInt16.reduceToNat, UInt32.reduceToNat, UInt64.reduceToNat, Int.reduceToNat]))
        refine Cw.regionS [c] [0, 1, 2, 3, 4, 6, 7, 8, 9, 5, 10, 11, 12, 13, 14] [] (by kernel_rfl) (by kernel_rfl) (by kernel_rfl) ?_
        simp only [nl_cons, ↓pickL_nil, ↓pickL_cons, ↓nthO_0, ↓nthO_s, consO_some]
        refine Ow.goQ ?_
        simp (disch := (first | assumption | omega | (simp only [lenS, lenT, UInt64.reduceToNat]; try omega))) only [↓Sx.S0, Sx.S1, Tryd.fx, uRB_1, Nat.reduceAdd, Nat.reducePow, Int.reducePow, Nat.reduceBEq, ↓reduceIte, UInt8.reduceToNat, UInt16.reduceToNat, UInt32.reduceToNat, UInt64.reduceToNat, Int.reduceToNat, rdc, ldc1, ldc2]
        refine Ow.build (.agg (chdC (chOfE x)).toArray) rfl (build_chd (chOfE x)) ?_
        refine Ow.goQ ?_
        simp (disch := (first | assumption | omega | (simp only [lenS, lenT, UInt64.reduceToNat]; try omega))) only [↓Sx.S0, Sx.S1, Tryd.fx, uRB_1, Nat.reduceAdd, Nat.reducePow, Int.reducePow, Nat.reduceBEq, ↓reduceIte, UInt8.reduceToNat, UInt16.reduceToNat, UInt32.reduceToNat, UInt64.reduceToNat, Int.reduceToNat]
        refine Ow.soft rfl rfl rfl ?_
        refine Ow.buildSlice (e := 110) (chdC (chOfE x)).toArray rfl rfl (slice_one Tryd.underlying57 aggChd zrChd (by decide) (chdC_len _)) fun b13 hb13 hw13 => ?_
        with_reducible refine Ow.nil ?_
        refine ⟨fun q hq => by rw [List.mem_singleton.1 hq]; exact readB_app (by simp only [keys, List.map_cons, List.map_append, List.mem_cons, List.mem_append] at hcD ⊢; simp [hcD]), ?_⟩
        try simp only [List.cons_append, List.append_assoc]
        refine Ow.soft rfl rfl rfl ?_
        refine Ow.permL (M := D2 ++ ((b1, Obj.cells #[vi 2, vs t] 45 (0, 0)) :: (D ++ [(b13, Obj.cells (chdC (chOfE x)).toArray 110 (0, 0))]))) (by classical exact List.perm_iff_count.2 fun a => by simp only [List.count_append, List.count_cons, List.count_nil] <;> omega) ?_
        refine Ow.appendX (e := 110) (k := 1) (new := chdC (chOfE x)) (X := D2) v rfl rfl rfl rfl Tryd.underlying57 aggChd (by kernel_rfl) zrChd (by rw [cells_chd, List.size_toArray, chdC_len]) Tryd.underlying57 (by intro k h; cases h) hG (fun w' hw' => AppX.one1 (hw'.has b13 (.cells (chdC (chOfE x)).toArray 110 (0, 0)) (by simp)) (chdC_len _) (chdC_one _)) (by omega) (by rw [hmll]; omega) (fun B2 v4 D4 hA4 hB4 hbuf hk1 hk2 hlk4 => ?_)
        have hN4 : New w.heap.size D4 := New.of_le fun q hq => by
          rcases hk2 q hq with h | h
          · exact hN2.le q h
          · omega
        have hSp4' : SepK b1 D D4 := hSp.grow hk2 (above_to hA4 (by simp [keys_app, keys])) fun d hd => above_to hA4 (by simp only [keys, List.map_cons, List.map_nil, List.map_append, List.mem_cons, List.mem_append] at hd ⊢; simp [hd])
        have hc4 : c ∉ keys D4 := fun hm => by have := (hSp4' c hm).2 c hcD; omega
        have hSp4 : SepK b1 D (D4 ++ [(b13, Obj.cells (chdC (chOfE x)).toArray 110 (0, 0))]) := by
          refine hSp4'.app ?_
          exact SepK.nil.cons (above_to hb13 (by simp [keys])) fun d hd => above_to hb13 (by simp only [keys, List.map_cons, List.map_nil, List.map_append, List.mem_cons, List.mem_append] at hd ⊢; simp [hd])
        with_reducible refine Ow.nil ?_
        refine ⟨fun q hq => ?_, ?_⟩
        · rw [List.mem_singleton.1 hq, readB_appr hc4]
          simp (disch := omega) only [read_other]
          rw [rdc, rdc]
        refine Ow.goQ ?_
        simp (disch := (first | assumption | omega | (simp only [lenS, lenT, UInt64.reduceToNat]; try omega))) only [↓Sx.S0, Sx.S1, Tryd.fx, uRB_1, Nat.reduceAdd, Nat.reducePow, Int.reducePow, Nat.reduceBEq, ↓reduceIte, UInt8.reduceToNat, UInt16.reduceToNat, UInt32.reduceToNat, UInt64.reduceToNat, Int.reduceToNat]
        refine Cw.permL (M := (b1, Obj.cells #[vi 2, vs t] 45 (0, 0)) :: (D ++ (D4 ++ [(b13, Obj.cells (chdC (chOfE x)).toArray 110 (0, 0))]))) (by classical exact List.perm_iff_count.2 fun a => by simp only [List.count_append, List.count_cons, List.count_nil] <;> omega) ?_
        ((try with_reducible refine Cw.go [] ?_); (try simp (disch := (first | assumption | omega | (simp only [lenS, lenT, UInt64.reduceToNat]; try omega))) only [↓Sx.S0, Sx.S1, Tryd.fx, uRB_1, Nat.reduceAdd, Nat.reducePow, Int.reducePow, Nat.reduceBEq, ↓reduceIte, UInt8.reduceToNat, UInt16.reduceToNat, UInt32.reduceToNat, UInt64.reduceToNat, Int.reduceToNat]))
        refine Again.mk (ChG.mk (g + 1) v4 (D4 ++ [(b13, Obj.cells (chdC (chOfE x)).toArray 110 (0, 0))])) (by show l.length - (g + 1) < l.length - g; omega) ⟨by show g + 1 ≤ l.length; omega, hN4.app ⟨hw13, trivial⟩, hSp4, ?_⟩ rfl rfl
        show Gr _ _ _ _ ((l.take (g + 1)).map chOfE).length (((l.take (g + 1)).map chOfE).map chdC).flatten
        rw [hml]
        exact Gr.app (Gr.snoc rfl hbuf)
      · obtain rfl : g = l.length := by omega
        rw [List.take_length] at hG
        ((try with_reducible refine Cw.go [] ?_); (try simp (disch := (first | assumption | omega | (simp only [lenS, lenT, UInt64.reduceToNat]; try omega))) only [↓Sx.S0, Sx.S1, Tryd.fx, uRB_1, Nat.reduceAdd, Nat.reducePow, Int.reducePow, Nat.reduceBEq, ↓reduceIte, UInt8.reduceToNat, UInt16.reduceToNat, UInt32.reduceToNat, UInt64.reduceToNat, Int.reduceToNat, e3, ln1]))
        refine ⟨_, (by simp (disch := (first | assumption | omega | (simp only [lenS, lenT, UInt64.reduceToNat]; try omega))) only [↓Sx.S0, Sx.S1, Tryd.fx, uRB_1, Nat.reduceAdd, Nat.reducePow, Int.reducePow, Nat.reduceBEq, ↓reduceIte, UInt8.reduceToNat, UInt16.reduceToNat, UInt32.reduceToNat, UInt64.reduceToNat, Int.reduceToNat]; rfl), ?_⟩
        refine ⟨Ext.of_new ⟨hw1, hD.app hN2⟩, ?_⟩
        exact hG.keep fun b o hb ho => hSp.look ho
  · have e2 : ((3 : Int) == 2) = false := rfl
    have e3 : ((3 : Int) == 3) = true := rfl
    refine Ow.go rfl ?_
    simp (disch := (first | assumption | omega | (simp only [lenS, lenT, UInt64.reduceToNat]; try omega))) only [↓Sx.S0, Sx.S1, Tryd.fx, uRB_1, Nat.reduceAdd, Nat.reducePow, Int.reducePow, Nat.reduceBEq, ↓reduceIte, UInt8.reduceToNat, UInt16.reduceToNat, UInt32.reduceToNat, UInt64.reduceToNat, Int.reduceToNat, e2, e3]
    ((try with_reducible refine Cw.go [] ?_); (try simp (disch := (first | assumption | omega | (simp only [lenS, lenT, UInt64.reduceToNat]; try omega))) only [↓Sx.S0, Sx.S1, Tryd.fx, uRB_1, Nat.reduceAdd, Nat.reducePow, Int.reducePow, Nat.reduceBEq, ↓reduceIte, UInt8.reduceToNat, UInt16.reduceToNat, UInt32.reduceToNat, UInt64.reduceToNat, Int.reduceToNat, e2, e3]))
    refine Ow.callC rfl rfl Tryd.call30 (fun w' hw' => CommitRd_spec t w' (by omega)) (fun B v D hA hB hN hS => ?_)
    unfold ReadCS at hS
    rw [readC_of hr] at hS
    obtain ⟨p, rfl, hgp⟩ := hS
    have hpl := comE_par t
    have hcl : childL 3 t = ⟨(comE t).1.tree, 2⟩ :: (comE t).1.par.map chOfP := by
      unfold childL
      rw [hr, if_pos rfl, if_neg (by decide), if_pos rfl]
    rw [hcl]
    generalize (comE t).1.par = pl at *
    generalize (comE t).1.tree = T at *
    generalize (comE t).1.text = tx at *
    have lnp := hgp.len
    have hD : New w.heap.size D := New.mono hB hN
    have st7 : ∀ a E, storeV (some (a, 34)) (some (.cells (comC id0 (.slice none 0 0) []).toArray E (0, 0))) 0 (.agg (comC T p tx).toArray) = some (.cells (comC T p tx).toArray E (0, 0)) := fun a E => store_com _ _ _ _ a E (by rw [List.size_toArray, comC_len]) hgp.cell.1
    refine Ow.go rfl ?_
    simp (disch := (first | assumption | omega | (simp only [lenS, lenT, UInt64.reduceToNat]; try omega))) only [↓Sx.S0, Sx.S1, Tryd.fx, uRB_1, Nat.reduceAdd, Nat.reducePow, Int.reducePow, Nat.reduceBEq, ↓reduceIte, UInt8.reduceToNat, UInt16.reduceToNat, UInt32.reduceToNat, UInt64.reduceToNat, Int.reduceToNat]
    refine Ow.alloc rfl rfl zrCom fun b7 hb7 hw7 => ?_
    simp only [cells_agg, List.nil_append, List.cons_append]
    have h17 : b1 < b7 := above_to hb7 (by simp [keys])
    have hB7 : ∀ d, d ∈ keys D → d < b7 := fun d hd => above_to hb7 (by simp only [keys, List.map_cons, List.map_append, List.mem_cons, List.mem_append] at hd ⊢; simp [hd])
    refine Ow.permL (M := (b7, Obj.cells (comC id0 (.slice none 0 0) []).toArray 54 (0, 0)) :: (b1, Obj.cells #[vi 3, vs t] 45 (0, 0)) :: D) (by classical exact List.perm_iff_count.2 fun a => by simp only [List.count_append, List.count_cons, List.count_nil] <;> omega) ?_
    refine Ow.go rfl ?_
    simp (disch := (first | assumption | omega | (simp only [lenS, lenT, UInt64.reduceToNat]; try omega))) only [↓Sx.S0, Sx.S1, Tryd.fx, uRB_1, Nat.reduceAdd, Nat.reducePow, Int.reducePow, Nat.reduceBEq, ↓reduceIte, UInt8.reduceToNat, UInt16.reduceToNat, UInt32.reduceToNat, UInt64.reduceToNat, Int.reduceToNat, st7]
    ((try with_reducible refine Cw.go [] ?_); (try simp (disch := (first | assumption | omega | (simp only [lenS, lenT, UInt64.reduceToNat]; try omega))) only [↓Sx.S0, Sx.S1, Tryd.fx, uRB_1, Nat.reduceAdd, Nat.reducePow, Int.reducePow, Nat.reduceBEq, ↓reduceIte, UInt8.reduceToNat, UInt16.reduceToNat, UInt32.reduceToNat, UInt64.reduceToNat, Int.reduceToNat]))
    refine Ow.build (.agg (chdC ⟨T, 2⟩).toArray) rfl (build_chd ⟨T, 2⟩) ?_
    refine Ow.go rfl ?_
    simp (disch := (first | assumption | omega | (simp only [lenS, lenT, UInt64.reduceToNat]; try omega))) only [↓Sx.S0, Sx.S1, Tryd.fx, uRB_1, Nat.reduceAdd, Nat.reducePow, Int.reducePow, Nat.reduceBEq, ↓reduceIte, UInt8.reduceToNat, UInt16.reduceToNat, UInt32.reduceToNat, UInt64.reduceToNat, Int.reduceToNat]
    refine Ow.buildSlice (e := 110) (chdC ⟨T, 2⟩).toArray rfl rfl (slice_one Tryd.underlying57 aggChd zrChd (by decide) (chdC_len _)) fun b13 hb13 hw13 => ?_
    have h713 : b7 < b13 := above_to hb13 (by simp [keys])
    have h113 : b1 < b13 := above_to hb13 (by simp [keys])
    have hB13 : ∀ d, d ∈ keys D → d < b13 := fun d hd => by have := hB7 d hd; omega
    refine Ow.permL (M := [] ++ ((b13, Obj.cells (chdC ⟨T, 2⟩).toArray 110 (0, 0)) :: (b7, Obj.cells (comC T p tx).toArray 54 (0, 0)) :: (b1, Obj.cells #[vi 3, vs t] 45 (0, 0)) :: D)) (by classical exact List.perm_iff_count.2 fun a => by simp only [List.count_append, List.count_cons, List.count_nil] <;> omega) ?_
    refine Ow.appendX (e := 110) (n := 0) (cs := []) (k := 1) (new := chdC ⟨T, 2⟩) (X := []) (.slice none 0 0) rfl rfl rfl rfl Tryd.underlying57 aggChd (by kernel_rfl) zrChd (by rw [cells_chd, List.size_toArray, chdC_len]) Tryd.underlying57 (by intro k h; cases h) Gr.nl (fun w' hw' => AppX.one1 (hw'.has b13 (.cells (chdC ⟨T, 2⟩).toArray 110 (0, 0)) (by simp)) (chdC_len _) (chdC_one _)) (by omega) (by omega) (fun B2 v4 D4 hA4 hB4 hbuf hk1 hk2 hlk4 => ?_)
    have hN4 : New w.heap.size D4 := New.of_le fun q hq => by
      rcases hk2 q hq with h | h
      · cases h
      · omega
    have hSp4 : SepK b7 ((b1, Obj.cells #[vi 3, vs t] 45 (0, 0)) :: D) (D4 ++ [(b13, Obj.cells (chdC ⟨T, 2⟩).toArray 110 (0, 0))]) := by
      refine SepK.app (SepK.nil.grow hk2 (above_to hA4 (by simp [keys])) fun d hd => above_to hA4 (by simp only [keys, List.map_cons, List.map_append, List.nil_append, List.mem_cons, List.mem_append] at hd ⊢; rcases hd with hd | hd <;> simp [hd])) (SepK.nil.cons h713 fun d hd => ?_)
      simp only [keys, List.map_cons, List.mem_cons] at hd
      rcases hd with hd | hd
      · omega
      · exact hB13 d hd
    refine Ow.permL (M := (b7, Obj.cells (comC T p tx).toArray 54 (0, 0)) :: ((b1, Obj.cells #[vi 3, vs t] 45 (0, 0)) :: D ++ (D4 ++ [(b13, Obj.cells (chdC ⟨T, 2⟩).toArray 110 (0, 0))]))) (by classical exact List.perm_iff_count.2 fun a => by simp only [List.count_append, List.count_cons, List.count_nil] <;> omega) ?_
    have hG4 : Gr (D4 ++ [(b13, Obj.cells (chdC ⟨T, 2⟩).toArray 110 (0, 0))]) 110 33 v4 (⟨T, 2⟩ :: (pl.take 0).map chOfP : List ChildL).length ((⟨T, 2⟩ :: (pl.take 0).map chOfP : List ChildL).map chdC).flatten := by
      have := Gr.snoc (l := ([] : List ChildL)) (x := ⟨T, 2⟩) rfl (by simpa using hbuf)
      exact this.app
    have hN5 := hN4.app (show New w.heap.size [(b13, Obj.cells (chdC ⟨T, 2⟩).toArray 110 (0, 0))] from ⟨hw13, trivial⟩)
    generalize D4 ++ [(b13, Obj.cells (chdC ⟨T, 2⟩).toArray 110 (0, 0))] = D5 at hSp4 hG4 hN5 ⊢
    refine Ow.go rfl ?_
    simp (disch := (first | assumption | omega | (simp only [lenS, lenT, UInt64.reduceToNat]; try omega))) only [↓Sx.S0, Sx.S1, Tryd.fx, uRB_1, Nat.reduceAdd, Nat.reducePow, Int.reducePow, Nat.reduceBEq, ↓reduceIte, UInt8.reduceToNat, UInt16.reduceToNat, UInt32.reduceToNat, UInt64.reduceToNat, Int.reduceToNat]
    ((try with_reducible refine Cw.go [] ?_); (try simp (disch := (first | assumption | omega | (simp only [lenS, lenT, UInt64.reduceToNat]; try omega))) only [↓Sx.S0, Sx.S1, Tryd.fx, uRB_1, Nat.reduceAdd, Nat.reducePow, Int.reducePow, Nat.reduceBEq, ↓reduceIte, UInt8.reduceToNat, UInt16.reduceToNat, UInt32.reduceToNat, UInt64.reduceToNat, Int.reduceToNat]))
    refine Cw.loopG (G := ChG) [54, 55, 56, 57, 58, 61, 62, 63, 64, 65, 66, 67, 68, 69, 3, 59, 60, 9] (fun q => [(3, q.v), (9, vi q.g)]) (fun q => (b7, Obj.cells (comC T p tx).toArray 54 (0, 0)) :: ((b1, Obj.cells #[vi 3, vs t] 45 (0, 0)) :: D ++ q.D)) (fun q => q.g ≤ pl.length ∧ New w.heap.size q.D ∧ SepK b7 ((b1, Obj.cells #[vi 3, vs t] 45 (0, 0)) :: D) q.D ∧ Gr q.D 110 33 q.v (⟨T, 2⟩ :: (pl.take q.g).map chOfP : List ChildL).length ((⟨T, 2⟩ :: (pl.take q.g).map chOfP : List ChildL).map chdC).flatten) (fun q => pl.length - q.g) ⟨0, v4, D5⟩ rfl rfl ?_ ?_
    · exact ⟨Nat.zero_le _, hN5, hSp4, hG4⟩
    · intro q jq hq
      simp only [overFrom, pin, setF_0, setF_s, List.contains_cons, List.contains_nil, Nat.reduceBEq, Bool.or_false, Bool.false_or, Bool.or_true, Bool.true_or, Nat.reduceAdd, ↓reduceIte, Bool.false_eq_true]
      obtain ⟨g, v, D2⟩ := q
      simp only at hq ⊢
      obtain ⟨hgl, hN2, hSp, hG⟩ := hq
      by_cases hlt : g < pl.length
      · obtain ⟨c, cc, rest, rfl, hlc⟩ := Gr.rows hgp (by omega)
        have hcD := key_of_look hlc
        have hcb := hN.le c hcD
        have hc1 : b1 ≠ c := by have := hA.1; omega
        have hc7 : b7 ≠ c := by have := hB7 c hcD; omega
        have rdc : ∀ M, readB w (D ++ M) c = some (idRO rest pl) := fun M => read_look (look_app hlc)
        have ldc := load_idRO (rest := rest) g hlt
        have hml := map_take_succ chOfP id0 hlt
        have hmll : ((pl.take g).map chOfP).length = g := by rw [List.length_map, List.length_take]; omega
        generalize hx : pl.getD g id0 = x at ldc hml
        have hxl := x.h
        have d9 : decide (((g : Nat) : Int) < ((pl.length : Nat) : Int)) = true := decide_eq_true (by omega)
        ((try with_reducible refine Cw.go [] ?_); (try simp (disch := (first | assumption | omega | (simp only [lenS, lenT, UInt64.reduceToNat]; try omega))) only [↓Sx.S0, Sx.S1, Tryd.fx, uRB_1, Nat.reduceAdd, Nat.reducePow, Int.reducePow, Nat.reduceBEq, ↓reduceIte, UInt8.reduceToNat, UInt16.reduceToNat, UInt32.reduceToNat, UInt64.reduceToNat, Int.reduceToNat, rdc, ldc, d9]))
        refine Ow.build (.agg (chdC (chOfP x)).toArray) rfl (build_chd (chOfP x)) ?_
        refine Ow.go rfl ?_
        simp (disch := (first | assumption | omega | (simp only [lenS, lenT, UInt64.reduceToNat]; try omega))) only [↓Sx.S0, Sx.S1, Tryd.fx, uRB_1, Nat.reduceAdd, Nat.reducePow, Int.reducePow, Nat.reduceBEq, ↓reduceIte, UInt8.reduceToNat, UInt16.reduceToNat, UInt32.reduceToNat, UInt64.reduceToNat, Int.reduceToNat]
        refine Ow.buildSlice (e := 110) (chdC (chOfP x)).toArray rfl rfl (slice_one Tryd.underlying57 aggChd zrChd (by decide) (chdC_len _)) fun b14 hb14 hw14 => ?_
        refine Ow.permL (M := D2 ++ ((b7, Obj.cells (comC T (vsl c 0 pl.length cc) tx).toArray 54 (0, 0)) :: (b14, Obj.cells (chdC (chOfP x)).toArray 110 (0, 0)) :: (b1, Obj.cells #[vi 3, vs t] 45 (0, 0)) :: D)) (by classical exact List.perm_iff_count.2 fun a => by simp only [List.count_append, List.count_cons, List.count_nil] <;> omega) ?_
        refine Ow.appendX (e := 110) (k := 1) (new := chdC (chOfP x)) (X := D2) v rfl rfl rfl rfl Tryd.underlying57 aggChd (by kernel_rfl) zrChd (by rw [cells_chd, List.size_toArray, chdC_len]) Tryd.underlying57 (by intro k h; cases h) hG (fun w' hw' => AppX.one1 (hw'.has b14 (.cells (chdC (chOfP x)).toArray 110 (0, 0)) (by simp)) (chdC_len _) (chdC_one _)) (by omega) (by rw [List.length_cons, hmll]; omega) (fun B3 v6 D6 hA6 hB6 hbuf hk1' hk2' hlk6 => ?_)
        have hN6 : New w.heap.size D6 := New.of_le fun q hq => by
          rcases hk2' q hq with h | h
          · exact hN2.le q h
          · omega
        have hSp6 : SepK b7 ((b1, Obj.cells #[vi 3, vs t] 45 (0, 0)) :: D) (D6 ++ [(b14, Obj.cells (chdC (chOfP x)).toArray 110 (0, 0))]) := by
          refine SepK.app (hSp.grow hk2' (above_to hA6 (by simp [keys])) fun d hd => above_to hA6 (by simp only [keys, List.map_cons, List.map_append, List.mem_cons, List.mem_append] at hd ⊢; rcases hd with hd | hd <;> simp [hd])) (SepK.nil.cons (above_to hb14 (by simp [keys])) fun d hd => above_to hb14 ?_)
          simp only [keys, List.map_cons, List.map_append, List.mem_cons, List.mem_append] at hd ⊢
          rcases hd with hd | hd <;> simp [hd]
        refine Ow.permL (M := (b7, Obj.cells (comC T (vsl c 0 pl.length cc) tx).toArray 54 (0, 0)) :: ((b1, Obj.cells #[vi 3, vs t] 45 (0, 0)) :: D ++ (D6 ++ [(b14, Obj.cells (chdC (chOfP x)).toArray 110 (0, 0))]))) (by classical exact List.perm_iff_count.2 fun a => by simp only [List.count_append, List.count_cons, List.count_nil] <;> omega) ?_
        refine Ow.go rfl ?_
        simp (disch := (first | assumption | omega | (simp only [lenS, lenT, UInt64.reduceToNat]; try omega))) only [↓Sx.S0, Sx.S1, Tryd.fx, uRB_1, Nat.reduceAdd, Nat.reducePow, Int.reducePow, Nat.reduceBEq, ↓reduceIte, UInt8.reduceToNat, UInt16.reduceToNat, UInt32.reduceToNat, UInt64.reduceToNat, Int.reduceToNat]
        ((try with_reducible refine Cw.go [] ?_); (try simp (disch := (first | assumption | omega | (simp only [lenS, lenT, UInt64.reduceToNat]; try omega))) only [↓Sx.S0, Sx.S1, Tryd.fx, uRB_1, Nat.reduceAdd, Nat.reducePow, Int.reducePow, Nat.reduceBEq, ↓reduceIte, UInt8.reduceToNat, UInt16.reduceToNat, UInt32.reduceToNat, UInt64.reduceToNat, Int.reduceToNat]))
        refine Again.mk (ChG.mk (g + 1) v6 (D6 ++ [(b14, Obj.cells (chdC (chOfP x)).toArray 110 (0, 0))])) (by show pl.length - (g + 1) < pl.length - g; omega) ⟨by show g + 1 ≤ pl.length; omega, hN6.app ⟨hw14, trivial⟩, hSp6, ?_⟩ rfl rfl
        show Gr _ _ _ _ (⟨T, 2⟩ :: (pl.take (g + 1)).map chOfP : List ChildL).length ((⟨T, 2⟩ :: (pl.take (g + 1)).map chOfP : List ChildL).map chdC).flatten
        rw [hml]
        exact Gr.app (Gr.snoc (l := (⟨T, 2⟩ :: (pl.take g).map chOfP : List ChildL)) rfl hbuf)
      · obtain rfl : g = pl.length := by omega
        rw [List.take_length] at hG
        have d9 : decide (((pl.length : Nat) : Int) < ((pl.length : Nat) : Int)) = false := decide_eq_false (by omega)
        ((try with_reducible refine Cw.go [] ?_); (try simp (disch := (first | assumption | omega | (simp only [lenS, lenT, UInt64.reduceToNat]; try omega))) only [↓Sx.S0, Sx.S1, Tryd.fx, uRB_1, Nat.reduceAdd, Nat.reducePow, Int.reducePow, Nat.reduceBEq, ↓reduceIte, UInt8.reduceToNat, UInt16.reduceToNat, UInt32.reduceToNat, UInt64.reduceToNat, Int.reduceToNat, lnp, d9]))
        refine ⟨_, (by simp (disch := (first | assumption | omega | (simp only [lenS, lenT, UInt64.reduceToNat]; try omega))) only [↓Sx.S0, Sx.S1, Tryd.fx, uRB_1, Nat.reduceAdd, Nat.reducePow, Int.reducePow, Nat.reduceBEq, ↓reduceIte, UInt8.reduceToNat, UInt16.reduceToNat, UInt32.reduceToNat, UInt64.reduceToNat, Int.reduceToNat]; rfl), ?_⟩
        refine ⟨Ext.of_new ⟨hw7, New.app (show New w.heap.size ((b1, Obj.cells #[vi 3, vs t] 45 (0, 0)) :: D) from ⟨hw1, hD⟩) hN2⟩, ?_⟩
        exact hG.keep fun b o hb ho => hSp.look ho
end Go.Proofs
end
section
open Go Go.Proofs Go.Sx Go.StP
namespace Go.Proofs
set_option maxRecDepth 10000
set_option maxHeartbeats 1000000
set_option linter.unusedSimpArgs false
def com0 : ComL := ⟨id0, [], []⟩
theorem com0_S (w : World) : ComS w (.agg (comC id0 (.slice none 0 0) []).toArray) com0 := ⟨.slice none 0 0, rfl, SlV.nil w⟩
theorem nlL (m : Bool × Nat) : lenV (.sl m) (.slice none 0 0) = some (vi 0) := (rfl)
theorem childL_len {k : Int} {t : List UInt8} : (childL k t).length ≤ 40 := by
  unfold childL
  cases hr : RdOk k t
  · simp
  · rw [if_pos rfl]
    split
    · rename_i h
      subst h
      rw [List.length_map]
      have := (entsOk_short (ents_of hr)).1
      omega
    · split
      · have := comE_par t
        simp only [List.length_cons, List.length_map]; omega
      · simp
theorem comEq_selfR (c : ComL) : comEq c c = true := by unfold comEq; simp
set_option linter.defProp false
def uRC_1 := And.intro (And.intro (And.intro (And.intro (@load_ob) (@load_ob0)) (And.intro (@load_ob1) (And.intro (@store_ob) (@Sx.tup2_0)))) (And.intro (And.intro (@Sx.tup2_1) (And.intro (@load_com0) (@load_com1))) (And.intro (@load_com2) (And.intro (@load_com) (@cells_com))))) (And.intro (And.intro (And.intro (@eqIdA) (@neIdA)) (And.intro (@load_idb) (And.intro (@Bool.and_true) (@Bool.true_and)))) (And.intro (And.intro (@Bool.and_false) (And.intro (@Bool.false_and) (@Bool.not_true))) (And.intro (@Bool.not_false) (And.intro (@rdIn_v8) (@rdIn_vi)))))
theorem ObjectRights_spec (w : World) (hGl : GlobE w) (k : Int) (t : List UInt8) : Rets Tryd.prog 5 #[obV k t] w (fun v D => v = .bool true ∧ D = []) := by
  refine Rets.enterV Tryd.func5 rfl (rs := [.tmp 2]) Tryd.results5 Tryd.ntmps5 ?_
  simp only [List.size_toArray, List.length_cons, List.length_nil, Nat.reduceAdd, Nat.reduceSub, List.replicate_succ, List.replicate_zero, List.cons_append, List.nil_append]
  ((try with_reducible refine Cw.go [1000012] ?_); (try simp (disch := (first | assumption | omega | (simp only [lenS, lenT, UInt64.reduceToNat]; try omega))) only [↓Sx.S0, Sx.S1, Tryd.fx, uRC_1, Nat.reduceAdd, Nat.reducePow, Int.reducePow, Nat.reduceBEq, ↓reduceIte, UInt8.reduceToNat, UInt16.reduceToNat, UInt32.reduceToNat, UInt64.reduceToNat, Int.reduceToNat]))
  refine Ow.box rfl rfl fun b1 hb1 hw1 => ?_
  simp only [ev_tmp, getF_0, getF_s, cells_agg, List.nil_append]
  refine Ow.go rfl ?_
  simp (disch := (first | assumption | omega | (simp only [lenS, lenT, UInt64.reduceToNat]; try omega))) only [↓Sx.S0, Sx.S1, Tryd.fx, uRC_1, Nat.reduceAdd, Nat.reducePow, Int.reducePow, Nat.reduceBEq, ↓reduceIte, UInt8.reduceToNat, UInt16.reduceToNat, UInt32.reduceToNat, UInt64.reduceToNat, Int.reduceToNat]
  refine Ow.callFV rfl Tryd.call15 (fun w' hw' => alive_spec w') ?_
  refine Ow.go rfl ?_
  simp (disch := (first | assumption | omega | (simp only [lenS, lenT, UInt64.reduceToNat]; try omega))) only [↓Sx.S0, Sx.S1, Tryd.fx, uRC_1, Nat.reduceAdd, Nat.reducePow, Int.reducePow, Nat.reduceBEq, ↓reduceIte, UInt8.reduceToNat, UInt16.reduceToNat, UInt32.reduceToNat, UInt64.reduceToNat, Int.reduceToNat]
  by_cases h6 : 6000 < t.length
  · have d1 : decide ((6000 : Int) < (t.length : Int)) = true := decide_eq_true (by omega)
    ((try with_reducible refine Cw.go [] ?_); (try simp (disch := (first | assumption | omega | (simp only [lenS, lenT, UInt64.reduceToNat]; try omega))) only [↓Sx.S0, Sx.S1, Tryd.fx, uRC_1, Nat.reduceAdd, Nat.reducePow, Int.reducePow, Nat.reduceBEq, ↓reduceIte, UInt8.reduceToNat, UInt16.reduceToNat, UInt32.reduceToNat, UInt64.reduceToNat, Int.reduceToNat, d1]))
    refine Ow.callFV rfl Tryd.call15 (fun w' hw' => alive_spec w') ?_
    refine Ow.go rfl ?_
    simp (disch := (first | assumption | omega | (simp only [lenS, lenT, UInt64.reduceToNat]; try omega))) only [↓Sx.S0, Sx.S1, Tryd.fx, uRC_1, Nat.reduceAdd, Nat.reducePow, Int.reducePow, Nat.reduceBEq, ↓reduceIte, UInt8.reduceToNat, UInt16.reduceToNat, UInt32.reduceToNat, UInt64.reduceToNat, Int.reduceToNat]
    ((try with_reducible refine Cw.go [] ?_); (try simp (disch := (first | assumption | omega | (simp only [lenS, lenT, UInt64.reduceToNat]; try omega))) only [↓Sx.S0, Sx.S1, Tryd.fx, uRC_1, Nat.reduceAdd, Nat.reducePow, Int.reducePow, Nat.reduceBEq, ↓reduceIte, UInt8.reduceToNat, UInt16.reduceToNat, UInt32.reduceToNat, UInt64.reduceToNat, Int.reduceToNat]))
    refine ⟨_, (by simp (disch := (first | assumption | omega | (simp only [lenS, lenT, UInt64.reduceToNat]; try omega))) only [↓Sx.S0, Sx.S1, Tryd.fx, uRC_1, Nat.reduceAdd, Nat.reducePow, Int.reducePow, Nat.reduceBEq, ↓reduceIte, UInt8.reduceToNat, UInt16.reduceToNat, UInt32.reduceToNat, UInt64.reduceToNat, Int.reduceToNat]; rfl), ⟨hw1, trivial⟩, ?_⟩
    rfl
  have d1 : decide ((6000 : Int) < (t.length : Int)) = false := decide_eq_false (by omega)
  ((try with_reducible refine Cw.go [] ?_); (try simp (disch := (first | assumption | omega | (simp only [lenS, lenT, UInt64.reduceToNat]; try omega))) only [↓Sx.S0, Sx.S1, Tryd.fx, uRC_1, Nat.reduceAdd, Nat.reducePow, Int.reducePow, Nat.reduceBEq, ↓reduceIte, UInt8.reduceToNat, UInt16.reduceToNat, UInt32.reduceToNat, UInt64.reduceToNat, Int.reduceToNat, d1]))
  refine Ow.callC rfl rfl Tryd.call16 (fun w' hw' => FrameO_spec k t w') (fun B1 v1 D1 hA1 hB1 hN1 hS1 => ?_)
  have hD1 : New w.heap.size D1 := New.mono hB1 hN1
  obtain ⟨fr, fe, rfl, hfr⟩ : ∃ fr fe, v1 = .tuple #[vs fr, vi fe] ∧ (if RdOk k t = true then fr = frameB k t ∧ fe = 0 else fr = [] ∧ fe = 1) := by
    cases hr : RdOk k t
    · rw [hr, if_neg (by decide)] at hS1; exact ⟨_, _, hS1, by simp⟩
    · rw [hr, if_pos rfl] at hS1; exact ⟨_, _, hS1, by simp⟩
  refine Ow.go rfl ?_
  simp (disch := (first | assumption | omega | (simp only [lenS, lenT, UInt64.reduceToNat]; try omega))) only [↓Sx.S0, Sx.S1, Tryd.fx, uRC_1, Nat.reduceAdd, Nat.reducePow, Int.reducePow, Nat.reduceBEq, ↓reduceIte, UInt8.reduceToNat, UInt16.reduceToNat, UInt32.reduceToNat, UInt64.reduceToNat, Int.reduceToNat]
  ((try with_reducible refine Cw.go [] ?_); (try simp (disch := (first | assumption | omega | (simp only [lenS, lenT, UInt64.reduceToNat]; try omega))) only [↓Sx.S0, Sx.S1, Tryd.fx, uRC_1, Nat.reduceAdd, Nat.reducePow, Int.reducePow, Nat.reduceBEq, ↓reduceIte, UInt8.reduceToNat, UInt16.reduceToNat, UInt32.reduceToNat, UInt64.reduceToNat, Int.reduceToNat]))
  refine Ow.callFV rfl Tryd.call17 (fun w' hw' => IdO_spec k t w' (hGl.new hw' (by exact ⟨hw1, hD1⟩))) ?_
  obtain ⟨X, hX⟩ : ∃ X, X = idV k t := ⟨_, rfl⟩
  rw [← hX]
  have hxl := X.h
  have hi0 := id0.h
  refine Ow.go rfl ?_
  simp (disch := (first | assumption | omega | (simp only [lenS, lenT, UInt64.reduceToNat]; try omega))) only [↓Sx.S0, Sx.S1, Tryd.fx, uRC_1, Nat.reduceAdd, Nat.reducePow, Int.reducePow, Nat.reduceBEq, ↓reduceIte, UInt8.reduceToNat, UInt16.reduceToNat, UInt32.reduceToNat, UInt64.reduceToNat, Int.reduceToNat]
  refine Ow.alloc rfl rfl zrIdE fun b5 hb5 hw5 => ?_
  simp only [cells_agg, List.nil_append, List.cons_append]
  have h15 : b1 < b5 := above_to hb5 (by simp [keys])
  refine Ow.permL (M := (b1, Obj.cells #[vi k, vs t] 45 (0, 0)) :: (b5, Obj.cells (a8 id0.l) 40 (0, 0)) :: D1) (by classical exact List.perm_iff_count.2 fun a => by simp only [List.count_append, List.count_cons, List.count_nil] <;> omega) ?_
  refine Ow.go rfl ?_
  simp (disch := (first | assumption | omega | (simp only [lenS, lenT, UInt64.reduceToNat]; try omega))) only [↓Sx.S0, Sx.S1, Tryd.fx, uRC_1, Nat.reduceAdd, Nat.reducePow, Int.reducePow, Nat.reduceBEq, ↓reduceIte, UInt8.reduceToNat, UInt16.reduceToNat, UInt32.reduceToNat, UInt64.reduceToNat, Int.reduceToNat]
  ((try with_reducible refine Cw.go [] ?_); (try simp (disch := (first | assumption | omega | (simp only [lenS, lenT, UInt64.reduceToNat]; try omega))) only [↓Sx.S0, Sx.S1, Tryd.fx, uRC_1, Nat.reduceAdd, Nat.reducePow, Int.reducePow, Nat.reduceBEq, ↓reduceIte, UInt8.reduceToNat, UInt16.reduceToNat, UInt32.reduceToNat, UInt64.reduceToNat, Int.reduceToNat]))
  refine Ow.callC rfl rfl Tryd.call18 (fun w' hw' => EntriesO_spec k t w') (fun B2 v2 D2 hA2 hB2 hN2 hS2 => ?_)
  have hD2 : New w.heap.size D2 := New.mono hB2 hN2
  obtain ⟨v7, e7, rfl, hE2⟩ : ∃ v7 e7, v2 = .tuple #[v7, vi e7] ∧ (if RdOk k t = true ∧ k = 2 then Gr D2 108 34 v7 (entsE t).1.length ((entsE t).1.map entC).flatten ∧ e7 = 0 else v7 = .slice none 0 0 ∧ e7 = 1) := by
    unfold EntsS at hS2
    by_cases hc : RdOk k t = true ∧ k = 2
    · rw [if_pos hc] at hS2
      obtain ⟨q, rfl, hq⟩ := hS2
      exact ⟨q, 0, rfl, by rw [if_pos hc]; exact ⟨hq, rfl⟩⟩
    · rw [if_neg hc] at hS2
      exact ⟨_, _, hS2, by rw [if_neg hc]; exact ⟨rfl, rfl⟩⟩
  refine Ow.go rfl ?_
  simp (disch := (first | assumption | omega | (simp only [lenS, lenT, UInt64.reduceToNat]; try omega))) only [↓Sx.S0, Sx.S1, Tryd.fx, uRC_1, Nat.reduceAdd, Nat.reducePow, Int.reducePow, Nat.reduceBEq, ↓reduceIte, UInt8.reduceToNat, UInt16.reduceToNat, UInt32.reduceToNat, UInt64.reduceToNat, Int.reduceToNat]
  ((try with_reducible refine Cw.go [] ?_); (try simp (disch := (first | assumption | omega | (simp only [lenS, lenT, UInt64.reduceToNat]; try omega))) only [↓Sx.S0, Sx.S1, Tryd.fx, uRC_1, Nat.reduceAdd, Nat.reducePow, Int.reducePow, Nat.reduceBEq, ↓reduceIte, UInt8.reduceToNat, UInt16.reduceToNat, UInt32.reduceToNat, UInt64.reduceToNat, Int.reduceToNat]))
  refine Ow.callC rfl rfl Tryd.call19 (fun w' hw' => CommitsO_spec k t w') (fun B3 v3 D3 hA3 hB3 hN3 hS3 => ?_)
  have hD3 : New w.heap.size D3 := New.mono hB3 hN3
  obtain ⟨T, p, tx, e10, rfl, hp1, hE3⟩ : ∃ T p tx e10, v3 = .tuple #[.agg (comC T p tx).toArray, vi e10] ∧ Value.oneCell' p = true ∧ (if RdOk k t = true ∧ k = 3 then T = (comE t).1.tree ∧ tx = (comE t).1.text ∧ Gr D3 40 32 p (comE t).1.par.length ((comE t).1.par.map idLC).flatten ∧ e10 = 0 else T = id0 ∧ p = .slice none 0 0 ∧ tx = [] ∧ e10 = 1) := by
    unfold ComsS at hS3
    by_cases hc : RdOk k t = true ∧ k = 3
    · rw [if_pos hc] at hS3
      obtain ⟨q, rfl, hq⟩ := hS3
      exact ⟨_, q, _, 0, rfl, hq.cell.1, by rw [if_pos hc]; exact ⟨rfl, rfl, hq, rfl⟩⟩
    · rw [if_neg hc] at hS3
      exact ⟨_, _, _, _, hS3, rfl, by rw [if_neg hc]; exact ⟨rfl, rfl, rfl, rfl⟩⟩
  have st9 : ∀ a E, storeV (some (a, 34)) (some (.cells (comC id0 (.slice none 0 0) []).toArray E (0, 0))) 0 (.agg (comC T p tx).toArray) = some (.cells (comC T p tx).toArray E (0, 0)) := fun a E => store_com _ _ _ _ a E (by rw [List.size_toArray, comC_len]) hp1
  refine Ow.go rfl ?_
  simp (disch := (first | assumption | omega | (simp only [lenS, lenT, UInt64.reduceToNat]; try omega))) only [↓Sx.S0, Sx.S1, Tryd.fx, uRC_1, Nat.reduceAdd, Nat.reducePow, Int.reducePow, Nat.reduceBEq, ↓reduceIte, UInt8.reduceToNat, UInt16.reduceToNat, UInt32.reduceToNat, UInt64.reduceToNat, Int.reduceToNat]
  refine Ow.alloc rfl rfl zrCom fun b9 hb9 hw9 => ?_
  simp only [cells_agg, List.nil_append, List.cons_append]
  have h19 : b1 < b9 := above_to hb9 (by simp [keys])
  have h59 : b5 < b9 := above_to hb9 (by simp [keys])
  refine Ow.permL (M := (b1, Obj.cells #[vi k, vs t] 45 (0, 0)) :: (b5, Obj.cells (a8 X.l) 40 (0, 0)) :: (b9, Obj.cells (comC id0 (.slice none 0 0) []).toArray 54 (0, 0)) :: (D1 ++ (D2 ++ D3))) (by classical exact List.perm_iff_count.2 fun a => by simp only [List.count_append, List.count_cons, List.count_nil] <;> omega) ?_
  refine Ow.go rfl ?_
  simp (disch := (first | assumption | omega | (simp only [lenS, lenT, UInt64.reduceToNat]; try omega))) only [↓Sx.S0, Sx.S1, Tryd.fx, uRC_1, Nat.reduceAdd, Nat.reducePow, Int.reducePow, Nat.reduceBEq, ↓reduceIte, UInt8.reduceToNat, UInt16.reduceToNat, UInt32.reduceToNat, UInt64.reduceToNat, Int.reduceToNat, st9]
  ((try with_reducible refine Cw.go [] ?_); (try simp (disch := (first | assumption | omega | (simp only [lenS, lenT, UInt64.reduceToNat]; try omega))) only [↓Sx.S0, Sx.S1, Tryd.fx, uRC_1, Nat.reduceAdd, Nat.reducePow, Int.reducePow, Nat.reduceBEq, ↓reduceIte, UInt8.reduceToNat, UInt16.reduceToNat, UInt32.reduceToNat, UInt64.reduceToNat, Int.reduceToNat]))
  refine Ow.callC rfl rfl Tryd.call20 (fun w' hw' => ChildrenO_spec k t w') (fun B4 v4 D4 hA4 hB4 hN4 hG4 => ?_)
  have hD4 : New w.heap.size D4 := New.mono hB4 hN4
  have ln4 := hG4.len
  have hNe : New w.heap.size ((b1, Obj.cells #[vi k, vs t] 45 (0, 0)) :: (b5, Obj.cells (a8 X.l) 40 (0, 0)) :: (b9, Obj.cells (comC T p tx).toArray 54 (0, 0)) :: (D1 ++ (D2 ++ (D3 ++ D4)))) := ⟨hw1, hw5, hw9, hD1.app (hD2.app (hD3.app hD4))⟩
  refine Ow.go rfl ?_
  simp (disch := (first | assumption | omega | (simp only [lenS, lenT, UInt64.reduceToNat]; try omega))) only [↓Sx.S0, Sx.S1, Tryd.fx, uRC_1, Nat.reduceAdd, Nat.reducePow, Int.reducePow, Nat.reduceBEq, ↓reduceIte, UInt8.reduceToNat, UInt16.reduceToNat, UInt32.reduceToNat, UInt64.reduceToNat, Int.reduceToNat]
  ((try with_reducible refine Cw.go [] ?_); (try simp (disch := (first | assumption | omega | (simp only [lenS, lenT, UInt64.reduceToNat]; try omega))) only [↓Sx.S0, Sx.S1, Tryd.fx, uRC_1, Nat.reduceAdd, Nat.reducePow, Int.reducePow, Nat.reduceBEq, ↓reduceIte, UInt8.reduceToNat, UInt16.reduceToNat, UInt32.reduceToNat, UInt64.reduceToNat, Int.reduceToNat]))
  refine Ow.callFV rfl Tryd.call21 (fun w' hw' => RightL_spec k t w') ?_
  rw [← RdOk_right]
  simp only [List.append_assoc, List.cons_append]
  cases hr : RdOk k t
  · rw [hr, if_neg (by decide)] at hfr
    rw [hr, if_neg (by simp)] at hE2 hE3
    obtain ⟨rfl, rfl⟩ := hfr
    obtain ⟨rfl, rfl⟩ := hE2
    obtain ⟨rfl, rfl, rfl, rfl⟩ := hE3
    have hX0 : X = id0 := by rw [hX]; unfold idV; rw [hr]; rfl
    subst hX0
    have hc0 : childL k t = [] := by unfold childL; rw [hr]; rfl
    rw [hc0] at ln4
    have e1 : (id0.l == id0.l) = true := by simp
    have e2 : (([] : List UInt8) == []) = true := rfl
    have e3 : (((([] : List ChildL).length : Nat) : Int) == 0) = true := rfl
    refine Ow.go rfl ?_
    simp (disch := (first | assumption | omega | (simp only [lenS, lenT, UInt64.reduceToNat]; try omega))) only [↓Sx.S0, Sx.S1, Tryd.fx, uRC_1, Nat.reduceAdd, Nat.reducePow, Int.reducePow, Nat.reduceBEq, ↓reduceIte, UInt8.reduceToNat, UInt16.reduceToNat, UInt32.reduceToNat, UInt64.reduceToNat, Int.reduceToNat]
    ((try with_reducible refine Cw.go [] ?_); (try simp (disch := (first | assumption | omega | (simp only [lenS, lenT, UInt64.reduceToNat]; try omega))) only [↓Sx.S0, Sx.S1, Tryd.fx, uRC_1, Nat.reduceAdd, Nat.reducePow, Int.reducePow, Nat.reduceBEq, ↓reduceIte, UInt8.reduceToNat, UInt16.reduceToNat, UInt32.reduceToNat, UInt64.reduceToNat, Int.reduceToNat]))
    refine Ow.callFV rfl Tryd.call15 (fun w' hw' => alive_spec w') ?_
    refine Ow.go rfl ?_
    simp (disch := (first | assumption | omega | (simp only [lenS, lenT, UInt64.reduceToNat]; try omega))) only [↓Sx.S0, Sx.S1, Tryd.fx, uRC_1, Nat.reduceAdd, Nat.reducePow, Int.reducePow, Nat.reduceBEq, ↓reduceIte, UInt8.reduceToNat, UInt16.reduceToNat, UInt32.reduceToNat, UInt64.reduceToNat, Int.reduceToNat]
    refine Ow.callFV rfl Tryd.call22 (fun w' hw' => RightO_spec k t w') ?_
    rw [hr]
    refine Ow.go rfl ?_
    simp (disch := (first | assumption | omega | (simp only [lenS, lenT, UInt64.reduceToNat]; try omega))) only [↓Sx.S0, Sx.S1, Tryd.fx, uRC_1, Nat.reduceAdd, Nat.reducePow, Int.reducePow, Nat.reduceBEq, ↓reduceIte, UInt8.reduceToNat, UInt16.reduceToNat, UInt32.reduceToNat, UInt64.reduceToNat, Int.reduceToNat, e1, e2]
    refine Ow.build (.agg (a8 id0.l)) rfl build_idZ ?_
    refine Ow.go rfl ?_
    simp (disch := (first | assumption | omega | (simp only [lenS, lenT, UInt64.reduceToNat]; try omega))) only [↓Sx.S0, Sx.S1, Tryd.fx, uRC_1, Nat.reduceAdd, Nat.reducePow, Int.reducePow, Nat.reduceBEq, ↓reduceIte, UInt8.reduceToNat, UInt16.reduceToNat, UInt32.reduceToNat, UInt64.reduceToNat, Int.reduceToNat, e1, e2, nlL]
    refine Ow.build (.agg (comC id0 (.slice none 0 0) []).toArray) rfl build_com0 ?_
    refine Ow.go rfl ?_
    simp (disch := (first | assumption | omega | (simp only [lenS, lenT, UInt64.reduceToNat]; try omega))) only [↓Sx.S0, Sx.S1, Tryd.fx, uRC_1, Nat.reduceAdd, Nat.reducePow, Int.reducePow, Nat.reduceBEq, ↓reduceIte, UInt8.reduceToNat, UInt16.reduceToNat, UInt32.reduceToNat, UInt64.reduceToNat, Int.reduceToNat, e1, e2]
    refine Ow.callFV rfl Tryd.call23 (fun w' hw' => SameCommit_spec _ _ com0 com0 w' (com0_S w') (com0_S w') (by decide) (by decide)) ?_
    rw [comEq_selfR]
    refine Ow.go rfl ?_
    simp (disch := (first | assumption | omega | (simp only [lenS, lenT, UInt64.reduceToNat]; try omega))) only [↓Sx.S0, Sx.S1, Tryd.fx, uRC_1, Nat.reduceAdd, Nat.reducePow, Int.reducePow, Nat.reduceBEq, ↓reduceIte, UInt8.reduceToNat, UInt16.reduceToNat, UInt32.reduceToNat, UInt64.reduceToNat, Int.reduceToNat, ln4, e3]
    ((try with_reducible refine Cw.go [] ?_); (try simp (disch := (first | assumption | omega | (simp only [lenS, lenT, UInt64.reduceToNat]; try omega))) only [↓Sx.S0, Sx.S1, Tryd.fx, uRC_1, Nat.reduceAdd, Nat.reducePow, Int.reducePow, Nat.reduceBEq, ↓reduceIte, UInt8.reduceToNat, UInt16.reduceToNat, UInt32.reduceToNat, UInt64.reduceToNat, Int.reduceToNat]))
    refine ⟨_, (by simp (disch := (first | assumption | omega | (simp only [lenS, lenT, UInt64.reduceToNat]; try omega))) only [↓Sx.S0, Sx.S1, Tryd.fx, uRC_1, Nat.reduceAdd, Nat.reducePow, Int.reducePow, Nat.reduceBEq, ↓reduceIte, UInt8.reduceToNat, UInt16.reduceToNat, UInt32.reduceToNat, UInt64.reduceToNat, Int.reduceToNat]; rfl), hNe, ?_⟩
    rfl
  · rw [hr, if_pos rfl] at hfr
    obtain ⟨rfl, rfl⟩ := hfr
    have hXl : X.l = Dig.shaR (frameB k t) := by rw [hX]; unfold idV; rw [hr]; rfl
    have hfl := frameL_eq hr
    have hcn := childL_len (k := k) (t := t)
    refine Ow.go rfl ?_
    simp (disch := (first | assumption | omega | (simp only [lenS, lenT, UInt64.reduceToNat]; try omega))) only [↓Sx.S0, Sx.S1, Tryd.fx, uRC_1, Nat.reduceAdd, Nat.reducePow, Int.reducePow, Nat.reduceBEq, ↓reduceIte, UInt8.reduceToNat, UInt16.reduceToNat, UInt32.reduceToNat, UInt64.reduceToNat, Int.reduceToNat]
    refine Cw.cut (G := Heap) 175 (fun g => [(1, vp b1 0), (2, .bool false), (7, v7), (8, vi e7), (9, vp b9 0), (10, vi e10)]) (fun g => (b1, Obj.cells #[vi k, vs t] 45 (0, 0)) :: (b5, Obj.cells (a8 X.l) 40 (0, 0)) :: (b9, Obj.cells (comC T p tx).toArray 54 (0, 0)) :: (D1 ++ (D2 ++ (D3 ++ (D4 ++ g))))) (fun g => New w.heap.size g) ?_ ?_
    · ((try with_reducible refine Cw.go [] ?_); (try simp (disch := (first | assumption | omega | (simp only [lenS, lenT, UInt64.reduceToNat]; try omega))) only [↓Sx.S0, Sx.S1, Tryd.fx, uRC_1, Nat.reduceAdd, Nat.reducePow, Int.reducePow, Nat.reduceBEq, ↓reduceIte, UInt8.reduceToNat, UInt16.reduceToNat, UInt32.reduceToNat, UInt64.reduceToNat, Int.reduceToNat]))
      refine Cw.regionS [b1, b5] [0, 1, 2, 3, 4, 5, 6, 7, 8, 9, 10, 11, 12, 13, 14, 15, 16, 17, 18, 19, 20, 21, 22, 23, 24, 25, 26, 27, 28, 29, 30, 31, 32, 33] [] (by kernel_rfl) (by kernel_rfl) (by kernel_rfl) ?_
      simp only [nl_cons, ↓pickL_nil, ↓pickL_cons, ↓nthO_0, ↓nthO_s, consO_some]
      refine Ow.goQ ?_
      simp (disch := (first | assumption | omega | (simp only [lenS, lenT, UInt64.reduceToNat]; try omega))) only [↓Sx.S0, Sx.S1, Tryd.fx, uRC_1, Nat.reduceAdd, Nat.reducePow, Int.reducePow, Nat.reduceBEq, ↓reduceIte, UInt8.reduceToNat, UInt16.reduceToNat, UInt32.reduceToNat, UInt64.reduceToNat, Int.reduceToNat]
      refine Ow.callFV rfl Tryd.call15 (fun w' hw' => alive_spec w') ?_
      refine Ow.goQ ?_
      simp (disch := (first | assumption | omega | (simp only [lenS, lenT, UInt64.reduceToNat]; try omega))) only [↓Sx.S0, Sx.S1, Tryd.fx, uRC_1, Nat.reduceAdd, Nat.reducePow, Int.reducePow, Nat.reduceBEq, ↓reduceIte, UInt8.reduceToNat, UInt16.reduceToNat, UInt32.reduceToNat, UInt64.reduceToNat, Int.reduceToNat]
      refine Ow.callFV rfl Tryd.call22 (fun w' hw' => RightO_spec k t w') ?_
      rw [hr]
      have e0 : ((0 : Int) != 0) = false := rfl
      refine Ow.goQ ?_
      simp (disch := (first | assumption | omega | (simp only [lenS, lenT, UInt64.reduceToNat]; try omega))) only [↓Sx.S0, Sx.S1, Tryd.fx, uRC_1, Nat.reduceAdd, Nat.reducePow, Int.reducePow, Nat.reduceBEq, ↓reduceIte, UInt8.reduceToNat, UInt16.reduceToNat, UInt32.reduceToNat, UInt64.reduceToNat, Int.reduceToNat, e0]
      refine Ow.callFV rfl Tryd.call24 (fun w' hw' => FrameL_spec k t w' (by omega)) ?_
      rw [hfl]
      have e1 : (frameB k t != frameB k t) = false := by simp
      refine Ow.goQ ?_
      simp (disch := (first | assumption | omega | (simp only [lenS, lenT, UInt64.reduceToNat]; try omega))) only [↓Sx.S0, Sx.S1, Tryd.fx, uRC_1, Nat.reduceAdd, Nat.reducePow, Int.reducePow, Nat.reduceBEq, ↓reduceIte, UInt8.reduceToNat, UInt16.reduceToNat, UInt32.reduceToNat, UInt64.reduceToNat, Int.reduceToNat, e0, e1]
      refine Ow.callFV rfl Tryd.call25 (fun w' hw' => IdL_spec k t w' (by omega)) ?_
      rw [hfl, ← hXl]
      have e2 : (X.l == X.l) = true := by simp
      refine Ow.goQ ?_
      simp (disch := (first | assumption | omega | (simp only [lenS, lenT, UInt64.reduceToNat]; try omega))) only [↓Sx.S0, Sx.S1, Tryd.fx, uRC_1, Nat.reduceAdd, Nat.reducePow, Int.reducePow, Nat.reduceBEq, ↓reduceIte, UInt8.reduceToNat, UInt16.reduceToNat, UInt32.reduceToNat, UInt64.reduceToNat, Int.reduceToNat, e2]
      refine Ow.soft rfl rfl rfl ?_
      refine Ow.callC rfl rfl Tryd.call27 (fun w' hw' => ChildrenL_spec k t w' hr) (fun B5 v5 D5 hA5 hB5 hN5 hG5 => ?_)
      have hD5 : New w.heap.size D5 := New.mono hB5 hN5
      with_reducible refine Ow.nil ?_
      refine ⟨readB_appR (by simp [keys]), ?_⟩
      try simp only [List.cons_append, List.append_assoc]
      refine Ow.goQ ?_
      simp (disch := (first | assumption | omega | (simp only [lenS, lenT, UInt64.reduceToNat]; try omega))) only [↓Sx.S0, Sx.S1, Tryd.fx, uRC_1, Nat.reduceAdd, Nat.reducePow, Int.reducePow, Nat.reduceBEq, ↓reduceIte, UInt8.reduceToNat, UInt16.reduceToNat, UInt32.reduceToNat, UInt64.reduceToNat, Int.reduceToNat]
      refine Ow.callFV rfl Tryd.call26 (fun w' hw' => SameChildren_spec v4 v5 (childL k t) (childL k t) w' (hG4.slM (fun b o hm => hw'.has b o (by simp [hm])) rfl rfl chdC_len) (hG5.slM (fun b o hm => hw'.has b o (by simp [hm])) rfl rfl chdC_len) (by omega) (by omega)) ?_
      rw [show decide (childL k t = childL k t) = true from decide_eq_true rfl]
      refine Ow.goQ ?_
      simp (disch := (first | assumption | omega | (simp only [lenS, lenT, UInt64.reduceToNat]; try omega))) only [↓Sx.S0, Sx.S1, Tryd.fx, uRC_1, Nat.reduceAdd, Nat.reducePow, Int.reducePow, Nat.reduceBEq, ↓reduceIte, UInt8.reduceToNat, UInt16.reduceToNat, UInt32.reduceToNat, UInt64.reduceToNat, Int.reduceToNat]
      ((try with_reducible refine Cw.go [] ?_); (try simp (disch := (first | assumption | omega | (simp only [lenS, lenT, UInt64.reduceToNat]; try omega))) only [↓Sx.S0, Sx.S1, Tryd.fx, uRC_1, Nat.reduceAdd, Nat.reducePow, Int.reducePow, Nat.reduceBEq, ↓reduceIte, UInt8.reduceToNat, UInt16.reduceToNat, UInt32.reduceToNat, UInt64.reduceToNat, Int.reduceToNat]))
      exact CutM.mk D5 hD5 rfl rfl
    · intro G jG hG
      simp only [allF_s, allF_0, pin, setF_0, setF_s, Nat.reduceAdd]
      have hNg : New w.heap.size ((b1, Obj.cells #[vi k, vs t] 45 (0, 0)) :: (b5, Obj.cells (a8 X.l) 40 (0, 0)) :: (b9, Obj.cells (comC T p tx).toArray 54 (0, 0)) :: (D1 ++ (D2 ++ (D3 ++ (D4 ++ G))))) := ⟨hw1, hw5, hw9, hD1.app (hD2.app (hD3.app (hD4.app hG)))⟩
      obtain ⟨hk1, hk3, ht⟩ := RdOk_in hr
      rcases (show k = 1 ∨ k = 2 ∨ k = 3 by omega) with rfl | rfl | rfl
      · rw [if_neg (by simp)] at hE2 hE3
        obtain ⟨rfl, rfl⟩ := hE2
        obtain ⟨rfl, rfl, rfl, rfl⟩ := hE3
        have e2 : ((1 : Int) == 2) = false := rfl
        have e3 : ((1 : Int) == 3) = false := rfl
        have e4 : ((1 : Int) != 1) = false := rfl
        have e5 : decide ((0 : Int) < 0) = false := rfl
        ((try with_reducible refine Cw.go [] ?_); (try simp (disch := (first | assumption | omega | (simp only [lenS, lenT, UInt64.reduceToNat]; try omega))) only [↓Sx.S0, Sx.S1, Tryd.fx, uRC_1, Nat.reduceAdd, Nat.reducePow, Int.reducePow, Nat.reduceBEq, ↓reduceIte, UInt8.reduceToNat, UInt16.reduceToNat, UInt32.reduceToNat, UInt64.reduceToNat, Int.reduceToNat, e2, e3, e4, e5, nlL]))
        refine Ow.build (.agg (comC id0 (.slice none 0 0) []).toArray) rfl build_com0 ?_
        refine Ow.go rfl ?_
        simp (disch := (first | assumption | omega | (simp only [lenS, lenT, UInt64.reduceToNat]; try omega))) only [↓Sx.S0, Sx.S1, Tryd.fx, uRC_1, Nat.reduceAdd, Nat.reducePow, Int.reducePow, Nat.reduceBEq, ↓reduceIte, UInt8.reduceToNat, UInt16.reduceToNat, UInt32.reduceToNat, UInt64.reduceToNat, Int.reduceToNat]
        refine Ow.callFV rfl Tryd.call23 (fun w' hw' => SameCommit_spec _ _ com0 com0 w' (com0_S w') (com0_S w') (by decide) (by decide)) ?_
        rw [comEq_selfR]
        refine Ow.go rfl ?_
        simp (disch := (first | assumption | omega | (simp only [lenS, lenT, UInt64.reduceToNat]; try omega))) only [↓Sx.S0, Sx.S1, Tryd.fx, uRC_1, Nat.reduceAdd, Nat.reducePow, Int.reducePow, Nat.reduceBEq, ↓reduceIte, UInt8.reduceToNat, UInt16.reduceToNat, UInt32.reduceToNat, UInt64.reduceToNat, Int.reduceToNat]
        ((try with_reducible refine Cw.go [] ?_); (try simp (disch := (first | assumption | omega | (simp only [lenS, lenT, UInt64.reduceToNat]; try omega))) only [↓Sx.S0, Sx.S1, Tryd.fx, uRC_1, Nat.reduceAdd, Nat.reducePow, Int.reducePow, Nat.reduceBEq, ↓reduceIte, UInt8.reduceToNat, UInt16.reduceToNat, UInt32.reduceToNat, UInt64.reduceToNat, Int.reduceToNat]))
        refine ⟨_, (by simp (disch := (first | assumption | omega | (simp only [lenS, lenT, UInt64.reduceToNat]; try omega))) only [↓Sx.S0, Sx.S1, Tryd.fx, uRC_1, Nat.reduceAdd, Nat.reducePow, Int.reducePow, Nat.reduceBEq, ↓reduceIte, UInt8.reduceToNat, UInt16.reduceToNat, UInt32.reduceToNat, UInt64.reduceToNat, Int.reduceToNat]; rfl), hNg, ?_⟩
        rfl
      · rw [if_pos ⟨hr, rfl⟩] at hE2
        rw [if_neg (by simp)] at hE3
        obtain ⟨hG2, rfl⟩ := hE2
        obtain ⟨rfl, rfl, rfl, rfl⟩ := hE3
        have e2 : ((2 : Int) == 2) = true := rfl
        have e3 : ((2 : Int) == 3) = false := rfl
        have e4 : ((1 : Int) == 1) = true := rfl
        have e0 : ((0 : Int) != 0) = false := rfl
        ((try with_reducible refine Cw.go [] ?_); (try simp (disch := (first | assumption | omega | (simp only [lenS, lenT, UInt64.reduceToNat]; try omega))) only [↓Sx.S0, Sx.S1, Tryd.fx, uRC_1, Nat.reduceAdd, Nat.reducePow, Int.reducePow, Nat.reduceBEq, ↓reduceIte, UInt8.reduceToNat, UInt16.reduceToNat, UInt32.reduceToNat, UInt64.reduceToNat, Int.reduceToNat, e2, e3]))
        refine Ow.callC rfl rfl Tryd.call28 (fun w' hw' => EntriesR_spec t w' (by omega)) (fun B6 v6 D6 hA6 hB6 hN6 hS6 => ?_)
        have hD6 : New w.heap.size D6 := New.mono hB6 hN6
        unfold ReadES at hS6
        rw [readE_of hr] at hS6
        obtain ⟨v12, rfl, hG6⟩ := hS6
        have hl32 := (entsOk_short (ents_of hr)).1
        simp only [List.append_assoc, List.cons_append]
        refine Ow.go rfl ?_
        simp (disch := (first | assumption | omega | (simp only [lenS, lenT, UInt64.reduceToNat]; try omega))) only [↓Sx.S0, Sx.S1, Tryd.fx, uRC_1, Nat.reduceAdd, Nat.reducePow, Int.reducePow, Nat.reduceBEq, ↓reduceIte, UInt8.reduceToNat, UInt16.reduceToNat, UInt32.reduceToNat, UInt64.reduceToNat, Int.reduceToNat, e2, e3]
        ((try with_reducible refine Cw.go [] ?_); (try simp (disch := (first | assumption | omega | (simp only [lenS, lenT, UInt64.reduceToNat]; try omega))) only [↓Sx.S0, Sx.S1, Tryd.fx, uRC_1, Nat.reduceAdd, Nat.reducePow, Int.reducePow, Nat.reduceBEq, ↓reduceIte, UInt8.reduceToNat, UInt16.reduceToNat, UInt32.reduceToNat, UInt64.reduceToNat, Int.reduceToNat, e0]))
        refine Ow.callFV rfl Tryd.call29 (fun w' hw' => SameEntries_spec v7 v12 (entsE t).1 (entsE t).1 w' (hG2.slM (fun b o hm => hw'.has b o (by simp [hm])) rfl rfl entC_len) (hG6.slM (fun b o hm => hw'.has b o (by simp [hm])) rfl rfl entC_len) (by omega) (by omega)) ?_
        rw [show decide ((entsE t).1 = (entsE t).1) = true from decide_eq_true rfl]
        refine Ow.go rfl ?_
        simp (disch := (first | assumption | omega | (simp only [lenS, lenT, UInt64.reduceToNat]; try omega))) only [↓Sx.S0, Sx.S1, Tryd.fx, uRC_1, Nat.reduceAdd, Nat.reducePow, Int.reducePow, Nat.reduceBEq, ↓reduceIte, UInt8.reduceToNat, UInt16.reduceToNat, UInt32.reduceToNat, UInt64.reduceToNat, Int.reduceToNat]
        ((try with_reducible refine Cw.go [] ?_); (try simp (disch := (first | assumption | omega | (simp only [lenS, lenT, UInt64.reduceToNat]; try omega))) only [↓Sx.S0, Sx.S1, Tryd.fx, uRC_1, Nat.reduceAdd, Nat.reducePow, Int.reducePow, Nat.reduceBEq, ↓reduceIte, UInt8.reduceToNat, UInt16.reduceToNat, UInt32.reduceToNat, UInt64.reduceToNat, Int.reduceToNat, e3]))
        refine Ow.build (.agg (comC id0 (.slice none 0 0) []).toArray) rfl build_com0 ?_
        refine Ow.go rfl ?_
        simp (disch := (first | assumption | omega | (simp only [lenS, lenT, UInt64.reduceToNat]; try omega))) only [↓Sx.S0, Sx.S1, Tryd.fx, uRC_1, Nat.reduceAdd, Nat.reducePow, Int.reducePow, Nat.reduceBEq, ↓reduceIte, UInt8.reduceToNat, UInt16.reduceToNat, UInt32.reduceToNat, UInt64.reduceToNat, Int.reduceToNat]
        refine Ow.callFV rfl Tryd.call23 (fun w' hw' => SameCommit_spec _ _ com0 com0 w' (com0_S w') (com0_S w') (by decide) (by decide)) ?_
        rw [comEq_selfR]
        refine Ow.go rfl ?_
        simp (disch := (first | assumption | omega | (simp only [lenS, lenT, UInt64.reduceToNat]; try omega))) only [↓Sx.S0, Sx.S1, Tryd.fx, uRC_1, Nat.reduceAdd, Nat.reducePow, Int.reducePow, Nat.reduceBEq, ↓reduceIte, UInt8.reduceToNat, UInt16.reduceToNat, UInt32.reduceToNat, UInt64.reduceToNat, Int.reduceToNat]
        ((try with_reducible refine Cw.go [] ?_); (try simp (disch := (first | assumption | omega | (simp only [lenS, lenT, UInt64.reduceToNat]; try omega))) only [↓Sx.S0, Sx.S1, Tryd.fx, uRC_1, Nat.reduceAdd, Nat.reducePow, Int.reducePow, Nat.reduceBEq, ↓reduceIte, UInt8.reduceToNat, UInt16.reduceToNat, UInt32.reduceToNat, UInt64.reduceToNat, Int.reduceToNat]))
        refine ⟨_, (by simp (disch := (first | assumption | omega | (simp only [lenS, lenT, UInt64.reduceToNat]; try omega))) only [↓Sx.S0, Sx.S1, Tryd.fx, uRC_1, Nat.reduceAdd, Nat.reducePow, Int.reducePow, Nat.reduceBEq, ↓reduceIte, UInt8.reduceToNat, UInt16.reduceToNat, UInt32.reduceToNat, UInt64.reduceToNat, Int.reduceToNat]; rfl), ⟨hw1, hw5, hw9, hD1.app (hD2.app (hD3.app (hD4.app (hG.app hD6))))⟩, ?_⟩
        rfl
      · rw [if_neg (by simp)] at hE2
        rw [if_pos ⟨hr, rfl⟩] at hE3
        obtain ⟨rfl, rfl⟩ := hE2
        obtain ⟨rfl, rfl, hG3, rfl⟩ := hE3
        have hpl := comE_par t
        have e2 : ((3 : Int) == 2) = false := rfl
        have e3 : ((3 : Int) == 3) = true := rfl
        have e4 : ((1 : Int) != 1) = false := rfl
        have e5 : decide ((0 : Int) < 0) = false := rfl
        ((try with_reducible refine Cw.go [] ?_); (try simp (disch := (first | assumption | omega | (simp only [lenS, lenT, UInt64.reduceToNat]; try omega))) only [↓Sx.S0, Sx.S1, Tryd.fx, uRC_1, Nat.reduceAdd, Nat.reducePow, Int.reducePow, Nat.reduceBEq, ↓reduceIte, UInt8.reduceToNat, UInt16.reduceToNat, UInt32.reduceToNat, UInt64.reduceToNat, Int.reduceToNat, e2, e3, e4, e5, nlL]))
        refine Ow.callC rfl rfl Tryd.call30 (fun w' hw' => CommitRd_spec t w' (by omega)) (fun B6 v6 D6 hA6 hB6 hN6 hS6 => ?_)
        have hD6 : New w.heap.size D6 := New.mono hB6 hN6
        unfold ReadCS at hS6
        rw [readC_of hr] at hS6
        obtain ⟨p2, rfl, hG6⟩ := hS6
        have st14 : ∀ a E, storeV (some (a, 34)) (some (.cells (comC id0 (.slice none 0 0) []).toArray E (0, 0))) 0 (.agg (comC (comE t).1.tree p2 (comE t).1.text).toArray) = some (.cells (comC (comE t).1.tree p2 (comE t).1.text).toArray E (0, 0)) := fun a E => store_com _ _ _ _ a E (by rw [List.size_toArray, comC_len]) hG6.cell.1
        refine Ow.go rfl ?_
        simp (disch := (first | assumption | omega | (simp only [lenS, lenT, UInt64.reduceToNat]; try omega))) only [↓Sx.S0, Sx.S1, Tryd.fx, uRC_1, Nat.reduceAdd, Nat.reducePow, Int.reducePow, Nat.reduceBEq, ↓reduceIte, UInt8.reduceToNat, UInt16.reduceToNat, UInt32.reduceToNat, UInt64.reduceToNat, Int.reduceToNat]
        refine Ow.alloc rfl rfl zrCom fun b14 hb14 hw14 => ?_
        simp only [cells_agg, List.nil_append, List.cons_append]
        have h114 : b1 < b14 := above_to hb14 (by simp [keys])
        have h514 : b5 < b14 := above_to hb14 (by simp [keys])
        have h914 : b9 < b14 := above_to hb14 (by simp [keys])
        refine Ow.permL (M := (b1, Obj.cells #[vi 3, vs t] 45 (0, 0)) :: (b5, Obj.cells (a8 X.l) 40 (0, 0)) :: (b9, Obj.cells (comC (comE t).1.tree p (comE t).1.text).toArray 54 (0, 0)) :: (b14, Obj.cells (comC id0 (.slice none 0 0) []).toArray 54 (0, 0)) :: (D1 ++ (D2 ++ (D3 ++ (D4 ++ (G ++ D6)))))) (by classical exact List.perm_iff_count.2 fun a => by simp only [List.count_append, List.count_cons, List.count_nil] <;> omega) ?_
        refine Ow.go rfl ?_
        simp (disch := (first | assumption | omega | (simp only [lenS, lenT, UInt64.reduceToNat]; try omega))) only [↓Sx.S0, Sx.S1, Tryd.fx, uRC_1, Nat.reduceAdd, Nat.reducePow, Int.reducePow, Nat.reduceBEq, ↓reduceIte, UInt8.reduceToNat, UInt16.reduceToNat, UInt32.reduceToNat, UInt64.reduceToNat, Int.reduceToNat, st14]
        ((try with_reducible refine Cw.go [] ?_); (try simp (disch := (first | assumption | omega | (simp only [lenS, lenT, UInt64.reduceToNat]; try omega))) only [↓Sx.S0, Sx.S1, Tryd.fx, uRC_1, Nat.reduceAdd, Nat.reducePow, Int.reducePow, Nat.reduceBEq, ↓reduceIte, UInt8.reduceToNat, UInt16.reduceToNat, UInt32.reduceToNat, UInt64.reduceToNat, Int.reduceToNat]))
        refine Ow.callFV rfl Tryd.call23 (fun w' hw' => SameCommit_spec _ _ (comE t).1 (comE t).1 w' ⟨p, rfl, hG3.slM (fun b o hm => hw'.has b o (by simp [hm])) rfl rfl idLC_len'⟩ ⟨p2, rfl, hG6.slM (fun b o hm => hw'.has b o (by simp [hm])) rfl rfl idLC_len'⟩ (by omega) (by omega)) ?_
        rw [comEq_selfR]
        refine Ow.go rfl ?_
        simp (disch := (first | assumption | omega | (simp only [lenS, lenT, UInt64.reduceToNat]; try omega))) only [↓Sx.S0, Sx.S1, Tryd.fx, uRC_1, Nat.reduceAdd, Nat.reducePow, Int.reducePow, Nat.reduceBEq, ↓reduceIte, UInt8.reduceToNat, UInt16.reduceToNat, UInt32.reduceToNat, UInt64.reduceToNat, Int.reduceToNat]
        ((try with_reducible refine Cw.go [] ?_); (try simp (disch := (first | assumption | omega | (simp only [lenS, lenT, UInt64.reduceToNat]; try omega))) only [↓Sx.S0, Sx.S1, Tryd.fx, uRC_1, Nat.reduceAdd, Nat.reducePow, Int.reducePow, Nat.reduceBEq, ↓reduceIte, UInt8.reduceToNat, UInt16.reduceToNat, UInt32.reduceToNat, UInt64.reduceToNat, Int.reduceToNat]))
        refine ⟨_, (by simp (disch := (first | assumption | omega | (simp only [lenS, lenT, UInt64.reduceToNat]; try omega))) only [↓Sx.S0, Sx.S1, Tryd.fx, uRC_1, Nat.reduceAdd, Nat.reducePow, Int.reducePow, Nat.reduceBEq, ↓reduceIte, UInt8.reduceToNat, UInt16.reduceToNat, UInt32.reduceToNat, UInt64.reduceToNat, Int.reduceToNat]; rfl), ⟨hw1, hw5, hw9, hw14, hD1.app (hD2.app (hD3.app (hD4.app (hG.app hD6))))⟩, ?_⟩
        rfl
end Go.Proofs
end


namespace Go.Sx
open Go Go.ChangeShapes Go.WideShapes Go.RowKit

theorem Hp.same0 {W W' : World} (h : Hp W [] W') {b : Nat} (hb : b < W.heap.size) : W'.heap[b]? = W.heap[b]? := h.old b hb (fun hm => by cases hm)
theorem Hp.kept {W W' : World} (h : Hp W [] W') (may : MemPlace → Prop) : W.keptBut W' may := by
  refine ⟨h.os, h.output, fun i hi => ?_⟩
  rw [h.same0 hi]
  cases ho : W.heap[i]? with
  | none => rfl
  | some o =>
    cases o <;> first
      | exact ⟨rfl, rfl, rfl, fun _ _ => rfl⟩
      | exact .inr ⟨rfl, rfl⟩
      | rfl
theorem Hp.sameAt {W W' : World} (h : Hp W [] W') {p : MemPlace} (hp : p.block < W.heap.size) : W.sameAt W' p := by
  cases p with
  | cell b off =>
    have := h.same0 (b := b) hp
    simp only [World.sameAt, World.cell?, this]
  | map b => exact h.same0 hp
theorem Hp.frozen {W W' : World} (h : Hp W [] W') {a : Addr} (ha : a.block < W.heap.size) : W'.frozen? a = W.frozen? a := by
  simp only [World.frozen?, h.same0 ha]

section
variable {H : Type} {enc : TypeId × Value → H} {P : Program}
theorem trodAll_stays (hl : laidOutB P = true) {W W' : World} {sp : Nat → Bool} (hp : Hp W [] W') : ∀ {ts : List TypeId} {vs : List Value} {ds : List (DataW H)} {ps : List MemPlace},
    (∀ t ∈ ts, P.readableRec t = true ∧ t < P.types.size) → (∀ p ∈ ps, p.block < W.heap.size) → (∀ p ∈ ps, sp p.block = true) →
    DataW.TrodAll enc P W 0 (fun _ => true) true ts vs ds ps → DataW.TrodAll enc P W' 0 sp true ts vs ds ps
  | [], _, _, _, _, _, _, h => by
    obtain ⟨rfl, rfl, rfl⟩ := trodAll_nil h
    exact trodAll_mk0
  | t :: ts, _, _, _, ht, hlt, hs, h => by
    obtain ⟨v, vs, d, ds, p, q, rfl, rfl, rfl, h1, h2⟩ := trodAll_cons h
    have hlt1 : ∀ x ∈ p, x.block < W.heap.size := fun x hx => hlt x (List.mem_append_left _ hx)
    exact trodAll_cons_mk (WideElems.Trod_stays hl (ht t List.mem_cons_self).1 (ht t List.mem_cons_self).2 h1 (fun x hx => hp.sameAt (hlt1 x hx)) (fun x hx => hs x (List.mem_append_left _ hx)))
      (trodAll_stays hl hp (fun u hu => ht u (List.mem_cons_of_mem _ hu)) (fun x hx => hlt x (List.mem_append_right _ hx)) (fun x hx => hs x (List.mem_append_right _ hx)) h2)

/-- WHAT THE ROW OF A LAW ASKS, from 'it answers true and turns nothing that was there'. -/
theorem post_true {f : Func} {s : ChangeSpec} {W W' : World} {args : Array Value} {ds gs : List (DataW H)} {before : List MemPlace} {tb : TypeId} (hl : laidOutB P = true)
    (hW : DataW.Whole enc P f.params.toList s.vars false W args.toList ds gs before) (hv : s.vars = []) (hpar : ∀ t ∈ f.params.toList, P.readableRec t = true ∧ t < P.types.size)
    (hr : f.resultTypes = #[tb]) (htb : P.underlying tb = some .bool) (hfn : s.fn H ds = { results := [.lit (.bool true)], args := ds }) (hp : Hp W [] W') :
    s.post enc P f false true false false W args (.bool true) W' := by
  have hlt := hW.lt
  have hW0 := hW
  obtain ⟨p, q, hA, hV, rfl, hz, hn⟩ := hW
  rw [hv] at hV
  obtain ⟨rfl, rfl⟩ := trodVars_none hV
  rw [List.append_nil] at hW0 hlt hz
  have hargs : ∀ sp : Nat → Bool, (∀ x ∈ p, sp x.block = true) → DataW.TrodAll enc P W' 0 sp true f.params.toList args.toList (s.fn H (ds ++ [])).args p := fun sp hs => by
    rw [List.append_nil, hfn]
    exact trodAll_stays hl hp hpar hlt hs hA
  have hvars : ∀ sp : Nat → Bool, DataW.TrodVars enc P W' sp s.vars (s.fn H (ds ++ [])).vars [] := fun sp => by
    rw [List.append_nil, hfn, hv]; rfl
  have hres : ∀ (b : Nat) (sp : Nat → Bool) (hd : Bool), DataW.TrodAll enc P W' b sp hd f.resultTypes.toList ((Value.bool true).resultList f.resultTypes.size) (s.fn H (ds ++ [])).results [] := fun b sp hd => by
    rw [List.append_nil, hfn, hr]
    exact trodAll_cons_mk (shut_bool htb true) trodAll_mk0
  have hold : ∀ x ∈ p, (fun b => decide (b < W.heap.size)) x.block = true := fun x hx => by simpa using hlt x hx
  refine ⟨ds, [], p, [], p, [], hW0, hres _ _ _, hargs _ hold, hvars _, hp.kept _, fun _ => ?_⟩
  refine ⟨ok_one hr rfl (okWide_bool_mk htb true), _, _, ([] ++ p) ++ [], ⟨[] ++ p, [], trodAll_append (hargs _ (fun _ _ => rfl)) (hres _ _ _), hvars _, rfl, ?_, fun h => by cases h⟩, ?_⟩
  · intro b off hx
    have hx' : MemPlace.cell b off ∈ p := by simpa using hx
    rw [hp.frozen (hlt _ hx')]
    exact hz b off hx'
  · intro x hx _
    simpa using hx
end
section
variable {P : Program} {W : World} {name : String} {k : IntKind} {zs : List Int}
theorem tab_of_vars {t e : TypeId} {g n : Nat} (hg : P.globalNamed name = some g) (hty : (P.globals[g]?).map (·.type) = some t) (ht : P.underlying t = some (.array n e)) (he : P.underlying e = some (.int k)) (hce : P.cellsOf e = 1) (hct : P.cellsOf t = n) :
    ∀ {laid : List (String × DataW Unit)} {ps : List MemPlace}, DataW.LaidVars P W laid ps → (name, Lib.tabData k zs) ∈ laid → Lib.TabIs P W name k zs
  | [], _, _, hm => by cases hm
  | (n', d') :: rest, ps, h, hm => by
    obtain ⟨g', t', cs, fuel, p, q, hg', ht', hvar, hd, hr, -⟩ := h
    rcases List.mem_cons.1 hm with hm | hm
    · cases hm
      obtain rfl := Option.some.inj (hg.symm.trans hg')
      obtain rfl := Option.some.inj (hty.symm.trans ht')
      unfold Lib.TabIs
      rw [hvar, ← Lib.cells_of_tab ht he hce hct hd]
    · exact tab_of_vars hg hty ht he hce hct hr hm
theorem heap_of_tab {g : Nat} (hg : P.globalNamed name = some g) (h : Lib.TabIs P W name k zs) : ∃ e f, W.heap[g]? = some (.cells (zs.map fun z => Value.int k z).toArray e f) := by
  unfold Lib.TabIs at h
  simp only [World.var?, hg, Option.bind_some] at h
  split at h
  · rename_i cs e f hb
    cases h
    exact ⟨e, f, hb⟩
  · cases h
end
section
variable {H : Type} {enc : TypeId × Value → H} {P : Program}
end
end Go.Sx
namespace Go.Sx
open Go
section
variable {P : Program}
end
end Go.Sx
section
open Go Go.Proofs Go.Sx Go.StP Go.ChangeShapes
namespace Go.Proofs
set_option maxRecDepth 10000
set_option maxHeartbeats 400000
/-! ### Arguments, opened -/
theorem open_obj {H : Type} {enc : TypeId × Value → H} {W : World} {r : Reach} {b0 base : Nat} {sp : Nat → Bool} {held : Bool} {v : Value} {d : DataW H} {p : List MemPlace}
    (hval : Value.okWide Tryd.prog W r b0 45 v) (hd : DataW.Trod enc Tryd.prog W base sp held 45 v d p) : ∃ k t, v = obV k t := by
  have hc : (Tryd.prog).cellsOf 45 = 2 := by kernel_rfl
  have hc3 : (Tryd.prog).cellsOf 3 = 1 := by kernel_rfl
  have hcT : (Tryd.prog).cellsOf 9 = 1 := by kernel_rfl
  obtain ⟨fu, hf⟩ := hd
  obtain ⟨y0, y1, n', -, hlen, h0, h1⟩ := ChangeShapes.trod_struct2 Tryd.underlying45 hf
  unfold Value.okWide at hval
  rw [Tryd.underlying45] at hval
  obtain ⟨cs, rfl, hs, ts, hts, -, hcell⟩ := hval
  obtain ⟨cs⟩ := cs
  rw [cells_agg] at h0 h1 hlen
  simp only at h0 h1 hlen
  rw [hc3, List.drop_zero] at h0
  rw [hcT] at h1
  rw [hc] at hlen
  obtain ⟨z, hz, -, -⟩ := DataW.trod_int Tryd.underlying3 h0
  obtain ⟨s, hs2, -, -⟩ := DataW.trod_string Tryd.underlying9 h1
  have hd : cs = cs.take 1 ++ (cs.drop 1).take 1 := by
    rw [show (cs.drop 1).take 1 = cs.drop 1 from List.take_of_length_le (by rw [List.length_drop]; omega), List.take_append_drop]
  rw [hz, hs2] at hd
  exact ⟨z, s.data.toList, by rw [hd]; rfl⟩
end Go.Proofs
end

