/-
  Part 3 of the walk: contracts of the functions that the law reaches, and the calculus they stand on.
  No conditions.
-/
import Derived.Test.YteppologbikipaaN2
section
open Go Go.Proofs Go.Sx Go.StP
namespace Go.Proofs
set_option maxRecDepth 10000
set_option maxHeartbeats 4000000
set_option linter.unusedSimpArgs false
/-! ### Entries that may be -/
/-- May the entry at a place be? -/
def entOk (l : List EntL) (i : Nat) : Bool :=
  nameV (l.getD i ent0).name && ((l.getD i ent0).kind == 1 || (l.getD i ent0).kind == 2) && (i == 0 || ltB (l.getD (i - 1) ent0).name (l.getD i ent0).name)
def entsOk (l : List EntL) : Bool := decide (l.length ≤ 32) && (List.range l.length).all (entOk l)
theorem entsOk_no {l : List EntL} {k : Nat} (hk : k < l.length) (h : entOk l k = false) : entsOk l = false := by
  unfold entsOk
  have : (List.range l.length).all (entOk l) = false := by
    rw [List.all_eq_false]
    exact ⟨k, List.mem_range.2 hk, by simp [h]⟩
  rw [this, Bool.and_false]
theorem entsOk_yes {l : List EntL} (h : ∀ i, i < l.length → entOk l i = true) : entsOk l = decide (l.length ≤ 32) := by
  unfold entsOk
  have : (List.range l.length).all (entOk l) = true := List.all_eq_true.2 fun i hi => h i (List.mem_range.1 hi)
  rw [this, Bool.and_true]
set_option linter.defProp false
def uOK_1 := And.intro (And.intro (And.intro (@load_ent0) (@load_ent1)) (And.intro (@load_ent2) (@load_ent))) (And.intro (And.intro (@store_entr) (@cells_ent)) (And.intro (@rdIn_v8) (@rdIn_vi)))
/-- Names that are not too long to speak of. -/
def ShortE (l : List EntL) : Prop := ∀ i, i < l.length → (l.getD i ent0).name.length < 1099511627776
theorem isNameV_spec (s : List UInt8) (w : World) (hs : s.length < 1099511627776) : Rets Try.prog 59 #[vs s] w (fun v D => v = .bool (nameV s) ∧ D = []) := isName_spec s w hs
theorem bne_beq {a b : Int} {c : Bool} (h : (a != b) = c) : (a == b) = !c := by rw [← h]; simp [bne]
theorem entries_spec (v : Value) (l : List EntL) (w : World) (hv : EntS w v l) (hl : l.length < 1000000) (hsh : ShortE l) :
    Rets Try.prog 36 #[v] w (fun v' D => v' = .bool (entsOk l) ∧ D = []) := by
  obtain ⟨b, off, arr, E, fz, hr⟩ := hv.row
  have ln := hv.len
  refine Rets.enterV Try.func36 rfl (rs := [.tmp 2]) Try.results36 Try.ntmps36 ?_
  simp only [List.size_toArray, List.length_cons, List.length_nil, Nat.reduceAdd, Nat.reduceSub, List.replicate_succ, List.replicate_zero, List.cons_append, List.nil_append]
  ((try with_reducible refine Cw.go [] ?_); (try simp (disch := (first | assumption | omega | (simp only [lenS, lenT, UInt64.reduceToNat]; try omega))) only [↓S0, S1, Try.fx, uOK_1, Nat.reduceAdd, Nat.reducePow, Int.reducePow, Nat.reduceBEq, ↓reduceIte, UInt8.reduceToNat, UInt16.reduceToNat, UInt32.reduceToNat, UInt64.reduceToNat, Int.reduceToNat, ln]))
  refine Cw.loopG (G := Nat) [8, 9, 10, 11, 4, 3, 12, 13, 14, 15, 16, 17, 18, 19, 20, 21, 22, 23, 24, 25, 26, 27, 28, 29, 30, 31, 32, 33, 34, 35, 36, 37, 38, 39, 40, 2, 41, 7] (fun g => [(7, vi g)]) (fun g => []) (fun g => g ≤ l.length ∧ ∀ i, i < g → entOk l i = true) (fun g => l.length - g) 0 rfl rfl ?_ ?_
  · exact ⟨Nat.zero_le _, fun i hi => absurd hi (Nat.not_lt_zero i)⟩
  · intro k jk hk
    simp only [overFrom, pin, setF_0, setF_s, List.contains_cons, List.contains_nil, Nat.reduceBEq, Bool.or_false, Bool.false_or, Bool.or_true, Bool.true_or, Nat.reduceAdd, ↓reduceIte, Bool.false_eq_true]
    obtain ⟨h1, h2⟩ := hk
    by_cases hk : k < l.length
    · have h0 : 0 < l.length := by omega
      have hbl := hr.lt h0
      have r2 := hr.has h0
      have i2 := hr.idx true k hk
      have l2 := row_ent hr hk
      ((try with_reducible refine Cw.go [6] ?_); (try simp (disch := (first | assumption | omega | (simp only [lenS, lenT, UInt64.reduceToNat]; try omega))) only [↓S0, S1, Try.fx, uOK_1, Nat.reduceAdd, Nat.reducePow, Int.reducePow, Nat.reduceBEq, ↓reduceIte, UInt8.reduceToNat, UInt16.reduceToNat, UInt32.reduceToNat, UInt64.reduceToNat, Int.reduceToNat, r2, i2, l2]))
      refine Ow.alloc rfl rfl zrEnt fun b4 hb4 hw4 => ?_
      simp only [cells_agg, List.nil_append, List.cons_append]
      have hn4 : b4 ≠ b := by omega
      refine Ow.go rfl ?_
      simp (disch := (first | assumption | omega | (simp only [lenS, lenT, UInt64.reduceToNat]; try omega))) only [↓S0, S1, Try.fx, uOK_1, Nat.reduceAdd, Nat.reducePow, Int.reducePow, Nat.reduceBEq, ↓reduceIte, UInt8.reduceToNat, UInt16.reduceToNat, UInt32.reduceToNat, UInt64.reduceToNat, Int.reduceToNat]
      have hs := hsh k hk
      refine Cw.regionS [b4, b] [0, 1, 2, 3, 4, 5, 6, 7, 8, 9, 10, 11, 12, 13, 14, 15, 16, 17, 18, 19, 20, 21, 22, 24, 23, 25, 26, 27, 28] [] (by kernel_rfl) (by kernel_rfl) (by kernel_rfl) ?_
      simp only [nl_cons, ↓pickL_nil, ↓pickL_cons, ↓nthO_0, ↓nthO_s, consO_some]
      refine Ow.goQ ?_
      simp (disch := (first | assumption | omega | (simp only [lenS, lenT, UInt64.reduceToNat]; try omega))) only [↓S0, S1, Try.fx, uOK_1, Nat.reduceAdd, Nat.reducePow, Int.reducePow, Nat.reduceBEq, ↓reduceIte, UInt8.reduceToNat, UInt16.reduceToNat, UInt32.reduceToNat, UInt64.reduceToNat, Int.reduceToNat]
      refine Ow.callFV rfl Try.call59 (fun w' hw' => isNameV_spec (l.getD k ent0).name w' hs) ?_
      cases hn : nameV (l.getD k ent0).name
      · have e0 : entOk l k = false := by unfold entOk; rw [hn]; rfl
        rw [entsOk_no hk e0]
        refine Ow.goQ ?_
        simp (disch := (first | assumption | omega | (simp only [lenS, lenT, UInt64.reduceToNat]; try omega))) only [↓S0, S1, Try.fx, uOK_1, Nat.reduceAdd, Nat.reducePow, Int.reducePow, Nat.reduceBEq, ↓reduceIte, UInt8.reduceToNat, UInt16.reduceToNat, UInt32.reduceToNat, UInt64.reduceToNat, Int.reduceToNat]
        refine ⟨_, (by simp (disch := (first | assumption | omega | (simp only [lenS, lenT, UInt64.reduceToNat]; try omega))) only [↓S0, S1, Try.fx, uOK_1, Nat.reduceAdd, Nat.reducePow, Int.reducePow, Nat.reduceBEq, ↓reduceIte, UInt8.reduceToNat, UInt16.reduceToNat, UInt32.reduceToNat, UInt64.reduceToNat, Int.reduceToNat]; rfl), ⟨hw4, trivial⟩, ?_⟩
        rfl
      · cases hk1 : ((l.getD k ent0).kind != 1)
        · have hkk : ((l.getD k ent0).kind == 1 || (l.getD k ent0).kind == 2) = true := by rw [bne_beq hk1]; rfl
          by_cases h0k : k = 0
          · have d1 : decide ((0 : Int) < (k : Int)) = false := decide_eq_false (by omega)
            have e1 : entOk l k = true := by unfold entOk; rw [hn, hkk, h0k]; rfl
            refine Ow.goQ ?_
            simp (disch := (first | assumption | omega | (simp only [lenS, lenT, UInt64.reduceToNat]; try omega))) only [↓S0, S1, Try.fx, uOK_1, Nat.reduceAdd, Nat.reducePow, Int.reducePow, Nat.reduceBEq, ↓reduceIte, UInt8.reduceToNat, UInt16.reduceToNat, UInt32.reduceToNat, UInt64.reduceToNat, Int.reduceToNat, hk1, d1]
            refine Cw.forgetN [] (by exact ⟨hw4, trivial⟩) (by intro p hp; simp only [List.mem_cons, List.not_mem_nil, or_false] at hp ⊢; all_goals (first | (rcases hp with rfl | hp <;> simp_all) | (subst hp; simp) | simp_all)) (by simp [keys] <;> omega) ?_
            ((try with_reducible refine Cw.go [] ?_); (try simp (disch := (first | assumption | omega | (simp only [lenS, lenT, UInt64.reduceToNat]; try omega))) only [↓S0, S1, Try.fx, uOK_1, Nat.reduceAdd, Nat.reducePow, Int.reducePow, Nat.reduceBEq, ↓reduceIte, UInt8.reduceToNat, UInt16.reduceToNat, UInt32.reduceToNat, UInt64.reduceToNat, Int.reduceToNat]))
            exact Again.mk (k + 1) (by omega) ⟨by omega, fun i hi => by
              rcases Nat.lt_succ_iff_lt_or_eq.1 hi with h | rfl
              · exact h2 i h
              · exact e1⟩ rfl rfl
          · have d1 : decide ((0 : Int) < (k : Int)) = true := decide_eq_true (by omega)
            have i3 : indexAddrV (.sl (true, 34)) v (some ((k : Int) - 1)) = some (vp b (off + (k - 1) * 34)) := by
              rw [show (k : Int) - 1 = ((k - 1 : Nat) : Int) by omega]; exact hr.idx true (k - 1) (by omega)
            have l3 : ∀ n, loadV (some (false, n)) (some (.cells arr E fz)) (off + (k - 1) * 34) = some (vs (l.getD (k - 1) ent0).name) := fun n => row_ent0 hr (show k - 1 < l.length by omega) n
            have ek : (k == 0) = false := beq_eq_false_iff_ne.2 h0k
            cases hl3 : Op.bytesLess (l.getD (k - 1) ent0).name (l.getD k ent0).name
            · have e1 : entOk l k = false := by unfold entOk; rw [hn, hkk, ek]; exact hl3
              rw [entsOk_no hk e1]
              refine Ow.goQ ?_
              simp (disch := (first | assumption | omega | (simp only [lenS, lenT, UInt64.reduceToNat]; try omega))) only [↓S0, S1, Try.fx, uOK_1, Nat.reduceAdd, Nat.reducePow, Int.reducePow, Nat.reduceBEq, ↓reduceIte, UInt8.reduceToNat, UInt16.reduceToNat, UInt32.reduceToNat, UInt64.reduceToNat, Int.reduceToNat, hk1, d1, i3, r2, l3, hl3]
              refine ⟨_, (by simp (disch := (first | assumption | omega | (simp only [lenS, lenT, UInt64.reduceToNat]; try omega))) only [↓S0, S1, Try.fx, uOK_1, Nat.reduceAdd, Nat.reducePow, Int.reducePow, Nat.reduceBEq, ↓reduceIte, UInt8.reduceToNat, UInt16.reduceToNat, UInt32.reduceToNat, UInt64.reduceToNat, Int.reduceToNat]; rfl), ⟨hw4, trivial⟩, ?_⟩
              rfl
            · have e1 : entOk l k = true := by unfold entOk; rw [hn, hkk, ek]; exact hl3
              refine Ow.goQ ?_
              simp (disch := (first | assumption | omega | (simp only [lenS, lenT, UInt64.reduceToNat]; try omega))) only [↓S0, S1, Try.fx, uOK_1, Nat.reduceAdd, Nat.reducePow, Int.reducePow, Nat.reduceBEq, ↓reduceIte, UInt8.reduceToNat, UInt16.reduceToNat, UInt32.reduceToNat, UInt64.reduceToNat, Int.reduceToNat, hk1, d1, i3, r2, l3, hl3]
              refine Cw.forgetN [] (by exact ⟨hw4, trivial⟩) (by intro p hp; simp only [List.mem_cons, List.not_mem_nil, or_false] at hp ⊢; all_goals (first | (rcases hp with rfl | hp <;> simp_all) | (subst hp; simp) | simp_all)) (by simp [keys] <;> omega) ?_
              ((try with_reducible refine Cw.go [] ?_); (try simp (disch := (first | assumption | omega | (simp only [lenS, lenT, UInt64.reduceToNat]; try omega))) only [↓S0, S1, Try.fx, uOK_1, Nat.reduceAdd, Nat.reducePow, Int.reducePow, Nat.reduceBEq, ↓reduceIte, UInt8.reduceToNat, UInt16.reduceToNat, UInt32.reduceToNat, UInt64.reduceToNat, Int.reduceToNat]))
              exact Again.mk (k + 1) (by omega) ⟨by omega, fun i hi => by
                rcases Nat.lt_succ_iff_lt_or_eq.1 hi with h | rfl
                · exact h2 i h
                · exact e1⟩ rfl rfl
        · cases hk2 : ((l.getD k ent0).kind != 2)
          · have hkk : ((l.getD k ent0).kind == 1 || (l.getD k ent0).kind == 2) = true := by rw [bne_beq hk2]; simp
            by_cases h0k : k = 0
            · have d1 : decide ((0 : Int) < (k : Int)) = false := decide_eq_false (by omega)
              have e1 : entOk l k = true := by unfold entOk; rw [hn, hkk, h0k]; rfl
              refine Ow.goQ ?_
              simp (disch := (first | assumption | omega | (simp only [lenS, lenT, UInt64.reduceToNat]; try omega))) only [↓S0, S1, Try.fx, uOK_1, Nat.reduceAdd, Nat.reducePow, Int.reducePow, Nat.reduceBEq, ↓reduceIte, UInt8.reduceToNat, UInt16.reduceToNat, UInt32.reduceToNat, UInt64.reduceToNat, Int.reduceToNat, hk1, hk2, d1]
              refine Cw.forgetN [] (by exact ⟨hw4, trivial⟩) (by intro p hp; simp only [List.mem_cons, List.not_mem_nil, or_false] at hp ⊢; all_goals (first | (rcases hp with rfl | hp <;> simp_all) | (subst hp; simp) | simp_all)) (by simp [keys] <;> omega) ?_
              ((try with_reducible refine Cw.go [] ?_); (try simp (disch := (first | assumption | omega | (simp only [lenS, lenT, UInt64.reduceToNat]; try omega))) only [↓S0, S1, Try.fx, uOK_1, Nat.reduceAdd, Nat.reducePow, Int.reducePow, Nat.reduceBEq, ↓reduceIte, UInt8.reduceToNat, UInt16.reduceToNat, UInt32.reduceToNat, UInt64.reduceToNat, Int.reduceToNat]))
              exact Again.mk (k + 1) (by omega) ⟨by omega, fun i hi => by
                rcases Nat.lt_succ_iff_lt_or_eq.1 hi with h | rfl
                · exact h2 i h
                · exact e1⟩ rfl rfl
            · have d1 : decide ((0 : Int) < (k : Int)) = true := decide_eq_true (by omega)
              have i3 : indexAddrV (.sl (true, 34)) v (some ((k : Int) - 1)) = some (vp b (off + (k - 1) * 34)) := by
                rw [show (k : Int) - 1 = ((k - 1 : Nat) : Int) by omega]; exact hr.idx true (k - 1) (by omega)
              have l3 : ∀ n, loadV (some (false, n)) (some (.cells arr E fz)) (off + (k - 1) * 34) = some (vs (l.getD (k - 1) ent0).name) := fun n => row_ent0 hr (show k - 1 < l.length by omega) n
              have ek : (k == 0) = false := beq_eq_false_iff_ne.2 h0k
              cases hl3 : Op.bytesLess (l.getD (k - 1) ent0).name (l.getD k ent0).name
              · have e1 : entOk l k = false := by unfold entOk; rw [hn, hkk, ek]; exact hl3
                rw [entsOk_no hk e1]
                refine Ow.goQ ?_
                simp (disch := (first | assumption | omega | (simp only [lenS, lenT, UInt64.reduceToNat]; try omega))) only [↓S0, S1, Try.fx, uOK_1, Nat.reduceAdd, Nat.reducePow, Int.reducePow, Nat.reduceBEq, ↓reduceIte, UInt8.reduceToNat, UInt16.reduceToNat, UInt32.reduceToNat, UInt64.reduceToNat, Int.reduceToNat, hk1, hk2, d1, i3, r2, l3, hl3]
                refine ⟨_, (by simp (disch := (first | assumption | omega | (simp only [lenS, lenT, UInt64.reduceToNat]; try omega))) only [↓S0, S1, Try.fx, uOK_1, Nat.reduceAdd, Nat.reducePow, Int.reducePow, Nat.reduceBEq, ↓reduceIte, UInt8.reduceToNat, UInt16.reduceToNat, UInt32.reduceToNat, UInt64.reduceToNat, Int.reduceToNat]; rfl), ⟨hw4, trivial⟩, ?_⟩
                rfl
              · have e1 : entOk l k = true := by unfold entOk; rw [hn, hkk, ek]; exact hl3
                refine Ow.goQ ?_
                simp (disch := (first | assumption | omega | (simp only [lenS, lenT, UInt64.reduceToNat]; try omega))) only [↓S0, S1, Try.fx, uOK_1, Nat.reduceAdd, Nat.reducePow, Int.reducePow, Nat.reduceBEq, ↓reduceIte, UInt8.reduceToNat, UInt16.reduceToNat, UInt32.reduceToNat, UInt64.reduceToNat, Int.reduceToNat, hk1, hk2, d1, i3, r2, l3, hl3]
                refine Cw.forgetN [] (by exact ⟨hw4, trivial⟩) (by intro p hp; simp only [List.mem_cons, List.not_mem_nil, or_false] at hp ⊢; all_goals (first | (rcases hp with rfl | hp <;> simp_all) | (subst hp; simp) | simp_all)) (by simp [keys] <;> omega) ?_
                ((try with_reducible refine Cw.go [] ?_); (try simp (disch := (first | assumption | omega | (simp only [lenS, lenT, UInt64.reduceToNat]; try omega))) only [↓S0, S1, Try.fx, uOK_1, Nat.reduceAdd, Nat.reducePow, Int.reducePow, Nat.reduceBEq, ↓reduceIte, UInt8.reduceToNat, UInt16.reduceToNat, UInt32.reduceToNat, UInt64.reduceToNat, Int.reduceToNat]))
                exact Again.mk (k + 1) (by omega) ⟨by omega, fun i hi => by
                  rcases Nat.lt_succ_iff_lt_or_eq.1 hi with h | rfl
                  · exact h2 i h
                  · exact e1⟩ rfl rfl
          · have e0 : entOk l k = false := by
              unfold entOk
              rw [hn, bne_beq hk1, bne_beq hk2]; rfl
            rw [entsOk_no hk e0]
            refine Ow.goQ ?_
            simp (disch := (first | assumption | omega | (simp only [lenS, lenT, UInt64.reduceToNat]; try omega))) only [↓S0, S1, Try.fx, uOK_1, Nat.reduceAdd, Nat.reducePow, Int.reducePow, Nat.reduceBEq, ↓reduceIte, UInt8.reduceToNat, UInt16.reduceToNat, UInt32.reduceToNat, UInt64.reduceToNat, Int.reduceToNat, hk1, hk2]
            refine ⟨_, (by simp (disch := (first | assumption | omega | (simp only [lenS, lenT, UInt64.reduceToNat]; try omega))) only [↓S0, S1, Try.fx, uOK_1, Nat.reduceAdd, Nat.reducePow, Int.reducePow, Nat.reduceBEq, ↓reduceIte, UInt8.reduceToNat, UInt16.reduceToNat, UInt32.reduceToNat, UInt64.reduceToNat, Int.reduceToNat]; rfl), ⟨hw4, trivial⟩, ?_⟩
            rfl
    · obtain rfl : k = l.length := by omega
      rw [entsOk_yes h2]
      ((try with_reducible refine Cw.go [] ?_); (try simp (disch := (first | assumption | omega | (simp only [lenS, lenT, UInt64.reduceToNat]; try omega))) only [↓S0, S1, Try.fx, uOK_1, Nat.reduceAdd, Nat.reducePow, Int.reducePow, Nat.reduceBEq, ↓reduceIte, UInt8.reduceToNat, UInt16.reduceToNat, UInt32.reduceToNat, UInt64.reduceToNat, Int.reduceToNat, ln]))
      refine ⟨_, (by simp (disch := (first | assumption | omega | (simp only [lenS, lenT, UInt64.reduceToNat]; try omega))) only [↓S0, S1, Try.fx, uOK_1, Nat.reduceAdd, Nat.reducePow, Int.reducePow, Nat.reduceBEq, ↓reduceIte, UInt8.reduceToNat, UInt16.reduceToNat, UInt32.reduceToNat, UInt64.reduceToNat, Int.reduceToNat]; rfl), trivial, ?_⟩
      exact congrArg Value.bool (decide_eq_decide.2 (by omega))
end Go.Proofs
end
section
open Go Go.Proofs Go.Sx Go.StP
namespace Go.Proofs
set_option maxRecDepth 10000
set_option maxHeartbeats 4000000
set_option linter.unusedSimpArgs false
set_option linter.defProp false
def uOL_1 := And.intro (And.intro (And.intro (@load_ent0) (@load_ent1)) (And.intro (@load_ent2) (@load_ent))) (And.intro (And.intro (@store_entr) (@cells_ent)) (And.intro (@rdIn_v8) (@rdIn_vi)))
theorem leq_ltB (a b : List UInt8) : (Op.bytesLess a b || a == b) = !ltB b a := by rw [← gtr_ltB, Bool.not_not]
theorem TreeRight_spec (v : Value) (l : List EntL) (w : World) (hv : EntS w v l) (hl : l.length < 1000000) (hsh : ShortE l) :
    Rets Try.prog 14 #[v] w (fun v' D => v' = .bool (entsOk l) ∧ D = []) := by
  obtain ⟨b, off, arr, E, fz, hr⟩ := hv.row
  have ln := hv.len
  refine Rets.enterV Try.func14 rfl (rs := [.tmp 2]) Try.results14 Try.ntmps14 ?_
  simp only [List.size_toArray, List.length_cons, List.length_nil, Nat.reduceAdd, Nat.reduceSub, List.replicate_succ, List.replicate_zero, List.cons_append, List.nil_append]
  by_cases h32 : 32 < l.length
  · ((try with_reducible refine Cw.go [] ?_); (try simp (disch := (first | assumption | omega | (simp only [lenS, lenT, UInt64.reduceToNat]; try omega))) only [↓S0, S1, Try.fx, uOL_1, Nat.reduceAdd, Nat.reducePow, Int.reducePow, Nat.reduceBEq, ↓reduceIte, UInt8.reduceToNat, UInt16.reduceToNat, UInt32.reduceToNat, UInt64.reduceToNat, Int.reduceToNat, ln]))
    have : entsOk l = false := by unfold entsOk; rw [decide_eq_false (by omega), Bool.false_and]
    rw [this]
    refine ⟨_, (by simp (disch := (first | assumption | omega | (simp only [lenS, lenT, UInt64.reduceToNat]; try omega))) only [↓S0, S1, Try.fx, uOL_1, Nat.reduceAdd, Nat.reducePow, Int.reducePow, Nat.reduceBEq, ↓reduceIte, UInt8.reduceToNat, UInt16.reduceToNat, UInt32.reduceToNat, UInt64.reduceToNat, Int.reduceToNat]; rfl), trivial, ?_⟩
    rfl
  · ((try with_reducible refine Cw.go [] ?_); (try simp (disch := (first | assumption | omega | (simp only [lenS, lenT, UInt64.reduceToNat]; try omega))) only [↓S0, S1, Try.fx, uOL_1, Nat.reduceAdd, Nat.reducePow, Int.reducePow, Nat.reduceBEq, ↓reduceIte, UInt8.reduceToNat, UInt16.reduceToNat, UInt32.reduceToNat, UInt64.reduceToNat, Int.reduceToNat, ln]))
    refine Cw.loopG (G := Nat) [7, 8, 9, 10, 13, 14, 15, 16, 17, 18, 19, 20, 21, 22, 23, 24, 25, 26, 27, 28, 29, 30, 31, 32, 33, 34, 35, 2, 36, 37, 38, 39, 40, 41, 42, 43, 44, 45, 46, 47, 48, 49, 50, 51, 11, 12, 3] (fun g => [(3, vi g)]) (fun g => []) (fun g => g ≤ l.length ∧ ∀ i, i < g → entOk l i = true) (fun g => l.length - g) 0 rfl rfl ?_ ?_
    · exact ⟨Nat.zero_le _, fun i hi => absurd hi (Nat.not_lt_zero i)⟩
    · intro k jk hk
      simp only [overFrom, pin, setF_0, setF_s, List.contains_cons, List.contains_nil, Nat.reduceBEq, Bool.or_false, Bool.false_or, Bool.or_true, Bool.true_or, Nat.reduceAdd, ↓reduceIte, Bool.false_eq_true]
      obtain ⟨h1, h2⟩ := hk
      by_cases hk : k < l.length
      · have h0 : 0 < l.length := by omega
        have hbl := hr.lt h0
        have r2 := hr.has h0
        have i2 := hr.idx true k hk
        have m0 : ∀ n, loadV (some (false, n)) (some (.cells arr E fz)) (off + k * 34) = some (vs (l.getD k ent0).name) := fun n => row_ent0 hr hk n
        have m1 : ∀ n, loadV (some (false, n)) (some (.cells arr E fz)) (off + k * 34 + 1) = some (vi (l.getD k ent0).kind) := fun n => row_ent1 hr hk n
        have hs := hsh k hk
        ((try with_reducible refine Cw.go [] ?_); (try simp (disch := (first | assumption | omega | (simp only [lenS, lenT, UInt64.reduceToNat]; try omega))) only [↓S0, S1, Try.fx, uOL_1, Nat.reduceAdd, Nat.reducePow, Int.reducePow, Nat.reduceBEq, ↓reduceIte, UInt8.reduceToNat, UInt16.reduceToNat, UInt32.reduceToNat, UInt64.reduceToNat, Int.reduceToNat, ln, r2, i2, m0, m1]))
        refine Ow.callFV rfl Try.call38 (fun w' hw' => refName_spec (l.getD k ent0).name w' hs) ?_
        cases hn : nameV (l.getD k ent0).name
        · have e0 : entOk l k = false := by unfold entOk; rw [hn]; rfl
          rw [entsOk_no hk e0]
          refine Ow.go rfl ?_
          simp (disch := (first | assumption | omega | (simp only [lenS, lenT, UInt64.reduceToNat]; try omega))) only [↓S0, S1, Try.fx, uOL_1, Nat.reduceAdd, Nat.reducePow, Int.reducePow, Nat.reduceBEq, ↓reduceIte, UInt8.reduceToNat, UInt16.reduceToNat, UInt32.reduceToNat, UInt64.reduceToNat, Int.reduceToNat]
          refine ⟨_, (by simp (disch := (first | assumption | omega | (simp only [lenS, lenT, UInt64.reduceToNat]; try omega))) only [↓S0, S1, Try.fx, uOL_1, Nat.reduceAdd, Nat.reducePow, Int.reducePow, Nat.reduceBEq, ↓reduceIte, UInt8.reduceToNat, UInt16.reduceToNat, UInt32.reduceToNat, UInt64.reduceToNat, Int.reduceToNat]; rfl), trivial, ?_⟩
          rfl
        · cases hk1 : decide ((l.getD k ent0).kind < 1)
          · cases hk2 : decide (2 < (l.getD k ent0).kind)
            · have hkk : ((l.getD k ent0).kind == 1 || (l.getD k ent0).kind == 2) = true := by
                have q1 := of_decide_eq_false hk1
                have q2 := of_decide_eq_false hk2
                rcases (show (l.getD k ent0).kind = 1 ∨ (l.getD k ent0).kind = 2 by omega) with h | h <;> rw [h] <;> rfl
              refine Ow.go rfl ?_
              simp (disch := (first | assumption | omega | (simp only [lenS, lenT, UInt64.reduceToNat]; try omega))) only [↓S0, S1, Try.fx, uOL_1, Nat.reduceAdd, Nat.reducePow, Int.reducePow, Nat.reduceBEq, ↓reduceIte, UInt8.reduceToNat, UInt16.reduceToNat, UInt32.reduceToNat, UInt64.reduceToNat, Int.reduceToNat, r2, i2, m0, m1, hk1, hk2]
              by_cases h0k : k = 0
              · have d1 : decide ((0 : Int) < (k : Int)) = false := decide_eq_false (by omega)
                have e1 : entOk l k = true := by unfold entOk; rw [hn, hkk, h0k]; rfl
                refine Cw.regionS [b] [0, 1, 2, 3, 4, 5, 6, 8, 9, 10, 11, 12, 7, 13, 14, 15] [] (by kernel_rfl) (by kernel_rfl) (by kernel_rfl) ?_
                simp only [nl_cons, ↓pickL_nil, ↓pickL_cons, ↓nthO_0, ↓nthO_s, consO_some]
                refine Ow.goQ ?_
                simp (disch := (first | assumption | omega | (simp only [lenS, lenT, UInt64.reduceToNat]; try omega))) only [↓S0, S1, Try.fx, uOL_1, Nat.reduceAdd, Nat.reducePow, Int.reducePow, Nat.reduceBEq, ↓reduceIte, UInt8.reduceToNat, UInt16.reduceToNat, UInt32.reduceToNat, UInt64.reduceToNat, Int.reduceToNat, d1]
                exact Again.mk (k + 1) (by omega) ⟨by omega, fun i hi => by
                  rcases Nat.lt_succ_iff_lt_or_eq.1 hi with h | rfl
                  · exact h2 i h
                  · exact e1⟩ rfl rfl
              · have d1 : decide ((0 : Int) < (k : Int)) = true := decide_eq_true (by omega)
                have i3 : indexAddrV (.sl (true, 34)) v (some ((k : Int) - 1)) = some (vp b (off + (k - 1) * 34)) := by
                  rw [show (k : Int) - 1 = ((k - 1 : Nat) : Int) by omega]; exact hr.idx true (k - 1) (by omega)
                have l3 : ∀ n, loadV (some (false, n)) (some (.cells arr E fz)) (off + (k - 1) * 34) = some (vs (l.getD (k - 1) ent0).name) := fun n => row_ent0 hr (show k - 1 < l.length by omega) n
                have ek : (k == 0) = false := beq_eq_false_iff_ne.2 h0k
                cases hl3 : ltB (l.getD (k - 1) ent0).name (l.getD k ent0).name
                · have e1 : entOk l k = false := by unfold entOk; rw [hn, hkk, ek]; exact hl3
                  rw [entsOk_no hk e1]
                  refine Cw.regionS [b] [0, 1, 2, 3, 4, 5, 6, 8, 9, 10, 11, 12, 7, 13, 14, 15] [] (by kernel_rfl) (by kernel_rfl) (by kernel_rfl) ?_
                  simp only [nl_cons, ↓pickL_nil, ↓pickL_cons, ↓nthO_0, ↓nthO_s, consO_some]
                  refine Ow.goQ ?_
                  simp (disch := (first | assumption | omega | (simp only [lenS, lenT, UInt64.reduceToNat]; try omega))) only [↓S0, S1, Try.fx, uOL_1, Nat.reduceAdd, Nat.reducePow, Int.reducePow, Nat.reduceBEq, ↓reduceIte, UInt8.reduceToNat, UInt16.reduceToNat, UInt32.reduceToNat, UInt64.reduceToNat, Int.reduceToNat, d1, i2, i3, r2, m0, l3, leq_ltB, hl3]
                  refine ⟨_, (by simp (disch := (first | assumption | omega | (simp only [lenS, lenT, UInt64.reduceToNat]; try omega))) only [↓S0, S1, Try.fx, uOL_1, Nat.reduceAdd, Nat.reducePow, Int.reducePow, Nat.reduceBEq, ↓reduceIte, UInt8.reduceToNat, UInt16.reduceToNat, UInt32.reduceToNat, UInt64.reduceToNat, Int.reduceToNat]; rfl), trivial, ?_⟩
                  rfl
                · have e1 : entOk l k = true := by unfold entOk; rw [hn, hkk, ek]; exact hl3
                  refine Cw.regionS [b] [0, 1, 2, 3, 4, 5, 6, 8, 9, 10, 11, 12, 7, 13, 14, 15] [] (by kernel_rfl) (by kernel_rfl) (by kernel_rfl) ?_
                  simp only [nl_cons, ↓pickL_nil, ↓pickL_cons, ↓nthO_0, ↓nthO_s, consO_some]
                  refine Ow.goQ ?_
                  simp (disch := (first | assumption | omega | (simp only [lenS, lenT, UInt64.reduceToNat]; try omega))) only [↓S0, S1, Try.fx, uOL_1, Nat.reduceAdd, Nat.reducePow, Int.reducePow, Nat.reduceBEq, ↓reduceIte, UInt8.reduceToNat, UInt16.reduceToNat, UInt32.reduceToNat, UInt64.reduceToNat, Int.reduceToNat, d1, i2, i3, r2, m0, l3, leq_ltB, hl3]
                  exact Again.mk (k + 1) (by omega) ⟨by omega, fun i hi => by
                    rcases Nat.lt_succ_iff_lt_or_eq.1 hi with h | rfl
                    · exact h2 i h
                    · exact e1⟩ rfl rfl
            · have e0 : entOk l k = false := by
                have q2 := of_decide_eq_true hk2
                unfold entOk
                rw [hn, show ((l.getD k ent0).kind == 1) = false from beq_eq_false_iff_ne.2 (by omega), show ((l.getD k ent0).kind == 2) = false from beq_eq_false_iff_ne.2 (by omega)]; rfl
              rw [entsOk_no hk e0]
              refine Ow.go rfl ?_
              simp (disch := (first | assumption | omega | (simp only [lenS, lenT, UInt64.reduceToNat]; try omega))) only [↓S0, S1, Try.fx, uOL_1, Nat.reduceAdd, Nat.reducePow, Int.reducePow, Nat.reduceBEq, ↓reduceIte, UInt8.reduceToNat, UInt16.reduceToNat, UInt32.reduceToNat, UInt64.reduceToNat, Int.reduceToNat, r2, i2, m0, m1, hk1, hk2]
              refine ⟨_, (by simp (disch := (first | assumption | omega | (simp only [lenS, lenT, UInt64.reduceToNat]; try omega))) only [↓S0, S1, Try.fx, uOL_1, Nat.reduceAdd, Nat.reducePow, Int.reducePow, Nat.reduceBEq, ↓reduceIte, UInt8.reduceToNat, UInt16.reduceToNat, UInt32.reduceToNat, UInt64.reduceToNat, Int.reduceToNat]; rfl), trivial, ?_⟩
              rfl
          · have e0 : entOk l k = false := by
              have q2 := of_decide_eq_true hk1
              unfold entOk
              rw [hn, show ((l.getD k ent0).kind == 1) = false from beq_eq_false_iff_ne.2 (by omega), show ((l.getD k ent0).kind == 2) = false from beq_eq_false_iff_ne.2 (by omega)]; rfl
            rw [entsOk_no hk e0]
            refine Ow.go rfl ?_
            simp (disch := (first | assumption | omega | (simp only [lenS, lenT, UInt64.reduceToNat]; try omega))) only [↓S0, S1, Try.fx, uOL_1, Nat.reduceAdd, Nat.reducePow, Int.reducePow, Nat.reduceBEq, ↓reduceIte, UInt8.reduceToNat, UInt16.reduceToNat, UInt32.reduceToNat, UInt64.reduceToNat, Int.reduceToNat, r2, i2, m0, m1, hk1]
            refine ⟨_, (by simp (disch := (first | assumption | omega | (simp only [lenS, lenT, UInt64.reduceToNat]; try omega))) only [↓S0, S1, Try.fx, uOL_1, Nat.reduceAdd, Nat.reducePow, Int.reducePow, Nat.reduceBEq, ↓reduceIte, UInt8.reduceToNat, UInt16.reduceToNat, UInt32.reduceToNat, UInt64.reduceToNat, Int.reduceToNat]; rfl), trivial, ?_⟩
            rfl
      · obtain rfl : k = l.length := by omega
        rw [entsOk_yes h2, show decide (l.length ≤ 32) = true from decide_eq_true (by omega)]
        ((try with_reducible refine Cw.go [] ?_); (try simp (disch := (first | assumption | omega | (simp only [lenS, lenT, UInt64.reduceToNat]; try omega))) only [↓S0, S1, Try.fx, uOL_1, Nat.reduceAdd, Nat.reducePow, Int.reducePow, Nat.reduceBEq, ↓reduceIte, UInt8.reduceToNat, UInt16.reduceToNat, UInt32.reduceToNat, UInt64.reduceToNat, Int.reduceToNat, ln]))
        refine ⟨_, (by simp (disch := (first | assumption | omega | (simp only [lenS, lenT, UInt64.reduceToNat]; try omega))) only [↓S0, S1, Try.fx, uOL_1, Nat.reduceAdd, Nat.reducePow, Int.reducePow, Nat.reduceBEq, ↓reduceIte, UInt8.reduceToNat, UInt16.reduceToNat, UInt32.reduceToNat, UInt64.reduceToNat, Int.reduceToNat]; rfl), trivial, ?_⟩
        rfl
end Go.Proofs
end
section
open Go Go.Proofs Go.Sx Go.StP
namespace Go.Proofs
set_option maxRecDepth 10000
set_option maxHeartbeats 4000000
set_option linter.unusedSimpArgs false
/-! ### Ids in slices -/
theorem idLC_len' (x : IdL) : (idLC x).length = 32 := by simp [idLC, x.h]
theorem idLC_one' (x : IdL) : (idLC x).all Value.oneCell' = true := all_v8 _
abbrev IdS (w : World) (v : Value) (l : List IdL) : Prop := SlV 32 idLC id0 w v l
theorem row_id {w : World} {v : Value} {l : List IdL} {b off : Nat} {arr : Array Value} {E : TypeId} {fz : Nat × Nat} (h : RowS 32 idLC id0 w v l b off arr E fz) {k : Nat} (hk : k < l.length) :
    loadV (some (true, 32)) (some (.cells arr E fz)) (off + k * 32) = some (.agg (a8 (l.getD k id0).l)) := RowS.load h idLC_len' (by omega) hk
theorem eqIdA (a b : IdL) : binX Try.prog .eql 24 (.agg (a8 a.l)) (.agg (a8 b.l)) = some (.bool (a.l == b.l)) :=
  binX_a8 Try.underlying24 Try.underlying5 Try.ag5 (by kernel_rfl) a.l b.l ⟨a.h, b.h⟩
theorem neIdA (a b : IdL) : binX Try.prog .neq 24 (.agg (a8 a.l)) (.agg (a8 b.l)) = some (.bool (!(a.l == b.l))) :=
  binX_a8n Try.underlying24 Try.underlying5 Try.ag5 (by kernel_rfl) a.l b.l ⟨a.h, b.h⟩
instance : DecidableEq IdL := fun a b => if h : a.l = b.l then .isTrue (by cases a; cases b; simp only at h; subst h; rfl) else .isFalse (fun e => h (by rw [e]))
theorem IdL.ext' {a b : IdL} (h : a.l = b.l) : a = b := by cases a; cases b; simp only at h; subst h; rfl
/-- The first place of an id. -/
def idxG (x : IdL) : List IdL → Nat → Int
  | [], _ => -1
  | y :: r, i => if x.l == y.l then (i : Int) else idxG x r (i + 1)
theorem idxG_cons (x y : IdL) (r : List IdL) (i : Nat) : idxG x (y :: r) i = if x.l == y.l then (i : Int) else idxG x r (i + 1) := rfl
theorem idxG_any (x : IdL) : ∀ (l : List IdL) (i : Nat), decide (0 ≤ idxG x l i) = l.any fun y => x.l == y.l
  | [], _ => rfl
  | y :: r, i => by
    unfold idxG
    rw [List.any_cons]
    cases h : (x.l == y.l)
    · rw [if_neg (by simp), Bool.false_or]; exact idxG_any x r (i + 1)
    · rw [if_pos rfl, Bool.true_or, decide_eq_true (by omega)]
theorem load_idb (x : IdL) (E : TypeId) (fz : Nat × Nat) : loadV (some (true, 32)) (some (.cells (a8 x.l) E fz)) 0 = some (.agg (a8 x.l)) := load_all8 _ E fz 32 x.h
set_option linter.defProp false
def uOM_1 := And.intro (And.intro (@eqIdA) (@neIdA)) (And.intro (@load_idb) (And.intro (@rdIn_v8) (@rdIn_vi)))
theorem IndexId_spec (v : Value) (l : List IdL) (x : IdL) (w : World) (hv : IdS w v l) (hl : l.length < 1000000) :
    Rets Try.prog 79 #[v, .agg (a8 x.l)] w (fun v' D => v' = vi (idxG x l 0) ∧ D = []) := by
  obtain ⟨b, off, arr, E, fz, hr⟩ := hv.row
  have ln := hv.len
  refine Rets.enterV Try.func79 rfl (rs := [.tmp 4]) Try.results79 Try.ntmps79 ?_
  simp only [List.size_toArray, List.length_cons, List.length_nil, Nat.reduceAdd, Nat.reduceSub, List.replicate_succ, List.replicate_zero, List.cons_append, List.nil_append]
  ((try with_reducible refine Cw.go [] ?_); (try simp (disch := (first | assumption | omega | (simp only [lenS, lenT, UInt64.reduceToNat]; try omega))) only [↓S0, S1, Try.fx, uOM_1, Nat.reduceAdd, Nat.reducePow, Int.reducePow, Nat.reduceBEq, ↓reduceIte, UInt8.reduceToNat, UInt16.reduceToNat, UInt32.reduceToNat, UInt64.reduceToNat, Int.reduceToNat]))
  refine Ow.box rfl rfl fun b1 hb1 hw1 => ?_
  simp only [ev_tmp, getF_0, getF_s, cells_agg, List.nil_append, List.cons_append]
  refine Ow.go rfl ?_
  simp (disch := (first | assumption | omega | (simp only [lenS, lenT, UInt64.reduceToNat]; try omega))) only [↓S0, S1, Try.fx, uOM_1, Nat.reduceAdd, Nat.reducePow, Int.reducePow, Nat.reduceBEq, ↓reduceIte, UInt8.reduceToNat, UInt16.reduceToNat, UInt32.reduceToNat, UInt64.reduceToNat, Int.reduceToNat]
  ((try with_reducible refine Cw.go [] ?_); (try simp (disch := (first | assumption | omega | (simp only [lenS, lenT, UInt64.reduceToNat]; try omega))) only [↓S0, S1, Try.fx, uOM_1, Nat.reduceAdd, Nat.reducePow, Int.reducePow, Nat.reduceBEq, ↓reduceIte, UInt8.reduceToNat, UInt16.reduceToNat, UInt32.reduceToNat, UInt64.reduceToNat, Int.reduceToNat, ln]))
  refine Cw.loopG (G := Nat) [9, 10, 5, 11, 12, 13, 14, 15, 16, 17, 4, 18, 8] (fun g => [(8, vi g)]) (fun g => [(b1, .cells (a8 x.l) 24 (0, 0))]) (fun g => g ≤ l.length ∧ idxG x l 0 = idxG x (l.drop g) g) (fun g => l.length - g) 0 rfl rfl ?_ ?_
  · exact ⟨Nat.zero_le _, rfl⟩
  · intro k jk hk
    simp only [overFrom, pin, setF_0, setF_s, List.contains_cons, List.contains_nil, Nat.reduceBEq, Bool.or_false, Bool.false_or, Bool.or_true, Bool.true_or, Nat.reduceAdd, ↓reduceIte, Bool.false_eq_true]
    obtain ⟨h1, h2⟩ := hk
    by_cases hk : k < l.length
    · have h0 : 0 < l.length := by omega
      have hbl := hr.lt h0
      have hn1 : b1 ≠ b := by omega
      have r2 := hr.has h0
      have i2 := hr.idx true k hk
      have l2 := row_id hr hk
      rw [drop_cons (z := id0) hk, idxG_cons] at h2
      ((try with_reducible refine Cw.go [] ?_); (try simp (disch := (first | assumption | omega | (simp only [lenS, lenT, UInt64.reduceToNat]; try omega))) only [↓S0, S1, Try.fx, uOM_1, Nat.reduceAdd, Nat.reducePow, Int.reducePow, Nat.reduceBEq, ↓reduceIte, UInt8.reduceToNat, UInt16.reduceToNat, UInt32.reduceToNat, UInt64.reduceToNat, Int.reduceToNat]))
      refine Cw.regionS [b1, b] [1, 2, 3, 0, 4, 5] [] (by kernel_rfl) (by kernel_rfl) (by kernel_rfl) ?_
      simp only [nl_cons, ↓pickL_nil, ↓pickL_cons, ↓nthO_0, ↓nthO_s, consO_some]
      refine Ow.goQ ?_
      simp (disch := (first | assumption | omega | (simp only [lenS, lenT, UInt64.reduceToNat]; try omega))) only [↓S0, S1, Try.fx, uOM_1, Nat.reduceAdd, Nat.reducePow, Int.reducePow, Nat.reduceBEq, ↓reduceIte, UInt8.reduceToNat, UInt16.reduceToNat, UInt32.reduceToNat, UInt64.reduceToNat, Int.reduceToNat, i2, r2, l2]
      cases hq : (x.l == (l.getD k id0).l)
      · rw [hq, if_neg (by simp)] at h2
        ((try with_reducible refine Cw.go [] ?_); (try simp (disch := (first | assumption | omega | (simp only [lenS, lenT, UInt64.reduceToNat]; try omega))) only [↓S0, S1, Try.fx, uOM_1, Nat.reduceAdd, Nat.reducePow, Int.reducePow, Nat.reduceBEq, ↓reduceIte, UInt8.reduceToNat, UInt16.reduceToNat, UInt32.reduceToNat, UInt64.reduceToNat, Int.reduceToNat, hq]))
        exact Again.mk (k + 1) (by omega) ⟨hk, h2⟩ rfl rfl
      · rw [hq, if_pos rfl] at h2
        rw [h2]
        ((try with_reducible refine Cw.go [] ?_); (try simp (disch := (first | assumption | omega | (simp only [lenS, lenT, UInt64.reduceToNat]; try omega))) only [↓S0, S1, Try.fx, uOM_1, Nat.reduceAdd, Nat.reducePow, Int.reducePow, Nat.reduceBEq, ↓reduceIte, UInt8.reduceToNat, UInt16.reduceToNat, UInt32.reduceToNat, UInt64.reduceToNat, Int.reduceToNat, hq]))
        refine ⟨_, (by simp (disch := (first | assumption | omega | (simp only [lenS, lenT, UInt64.reduceToNat]; try omega))) only [↓S0, S1, Try.fx, uOM_1, Nat.reduceAdd, Nat.reducePow, Int.reducePow, Nat.reduceBEq, ↓reduceIte, UInt8.reduceToNat, UInt16.reduceToNat, UInt32.reduceToNat, UInt64.reduceToNat, Int.reduceToNat]; rfl), ⟨hw1, trivial⟩, ?_⟩
        rfl
    · obtain rfl : k = l.length := by omega
      rw [List.drop_length] at h2
      rw [h2]
      ((try with_reducible refine Cw.go [] ?_); (try simp (disch := (first | assumption | omega | (simp only [lenS, lenT, UInt64.reduceToNat]; try omega))) only [↓S0, S1, Try.fx, uOM_1, Nat.reduceAdd, Nat.reducePow, Int.reducePow, Nat.reduceBEq, ↓reduceIte, UInt8.reduceToNat, UInt16.reduceToNat, UInt32.reduceToNat, UInt64.reduceToNat, Int.reduceToNat]))
      refine ⟨_, (by simp (disch := (first | assumption | omega | (simp only [lenS, lenT, UInt64.reduceToNat]; try omega))) only [↓S0, S1, Try.fx, uOM_1, Nat.reduceAdd, Nat.reducePow, Int.reducePow, Nat.reduceBEq, ↓reduceIte, UInt8.reduceToNat, UInt16.reduceToNat, UInt32.reduceToNat, UInt64.reduceToNat, Int.reduceToNat]; rfl), ⟨hw1, trivial⟩, ?_⟩
      rfl
theorem ContainsId_spec (v : Value) (l : List IdL) (x : IdL) (w : World) (hv : IdS w v l) (hl : l.length < 1000000) :
    Rets Try.prog 60 #[v, .agg (a8 x.l)] w (fun v' D => v' = .bool (l.any fun y => x.l == y.l) ∧ D = []) := by
  refine Rets.enterV Try.func60 rfl (rs := [.tmp 4]) Try.results60 Try.ntmps60 ?_
  simp only [List.size_toArray, List.length_cons, List.length_nil, Nat.reduceAdd, Nat.reduceSub, List.replicate_succ, List.replicate_zero, List.cons_append, List.nil_append]
  ((try with_reducible refine Cw.go [] ?_); (try simp (disch := (first | assumption | omega | (simp only [lenS, lenT, UInt64.reduceToNat]; try omega))) only [↓S0, S1, Try.fx, uOM_1, Nat.reduceAdd, Nat.reducePow, Int.reducePow, Nat.reduceBEq, ↓reduceIte, UInt8.reduceToNat, UInt16.reduceToNat, UInt32.reduceToNat, UInt64.reduceToNat, Int.reduceToNat]))
  refine Ow.box rfl rfl fun b1 hb1 hw1 => ?_
  simp only [ev_tmp, getF_0, getF_s, cells_agg, List.nil_append, List.cons_append]
  refine Ow.go rfl ?_
  simp (disch := (first | assumption | omega | (simp only [lenS, lenT, UInt64.reduceToNat]; try omega))) only [↓S0, S1, Try.fx, uOM_1, Nat.reduceAdd, Nat.reducePow, Int.reducePow, Nat.reduceBEq, ↓reduceIte, UInt8.reduceToNat, UInt16.reduceToNat, UInt32.reduceToNat, UInt64.reduceToNat, Int.reduceToNat]
  ((try with_reducible refine Cw.go [] ?_); (try simp (disch := (first | assumption | omega | (simp only [lenS, lenT, UInt64.reduceToNat]; try omega))) only [↓S0, S1, Try.fx, uOM_1, Nat.reduceAdd, Nat.reducePow, Int.reducePow, Nat.reduceBEq, ↓reduceIte, UInt8.reduceToNat, UInt16.reduceToNat, UInt32.reduceToNat, UInt64.reduceToNat, Int.reduceToNat]))
  refine Ow.callFV rfl Try.call79 (fun w' hw' => IndexId_spec v l x w' (hv.oldN hw' ⟨hw1, trivial⟩) hl) ?_
  refine Ow.go rfl ?_
  simp (disch := (first | assumption | omega | (simp only [lenS, lenT, UInt64.reduceToNat]; try omega))) only [↓S0, S1, Try.fx, uOM_1, Nat.reduceAdd, Nat.reducePow, Int.reducePow, Nat.reduceBEq, ↓reduceIte, UInt8.reduceToNat, UInt16.reduceToNat, UInt32.reduceToNat, UInt64.reduceToNat, Int.reduceToNat]
  refine ⟨_, (by simp (disch := (first | assumption | omega | (simp only [lenS, lenT, UInt64.reduceToNat]; try omega))) only [↓S0, S1, Try.fx, uOM_1, Nat.reduceAdd, Nat.reducePow, Int.reducePow, Nat.reduceBEq, ↓reduceIte, UInt8.reduceToNat, UInt16.reduceToNat, UInt32.reduceToNat, UInt64.reduceToNat, Int.reduceToNat]; rfl), ⟨hw1, trivial⟩, ?_⟩
  exact congrArg Value.bool (idxG_any x l 0)
theorem SameIds_spec (v1 v2 : Value) (l1 l2 : List IdL) (w : World) (hv1 : IdS w v1 l1) (hv2 : IdS w v2 l2) (hl1 : l1.length < 1000000) (_hl2 : l2.length < 1000000) :
    Rets Try.prog 19 #[v1, v2] w (fun v' D => v' = .bool (decide (l1 = l2)) ∧ D = []) := by
  obtain ⟨b1, off1, arr1, E1, fz1, hr1⟩ := hv1.row
  obtain ⟨b2, off2, arr2, E2, fz2, hr2⟩ := hv2.row
  have ln1 := hv1.len
  have ln2 := hv2.len
  refine Rets.enterV Try.func19 rfl (rs := [.tmp 4]) Try.results19 Try.ntmps19 ?_
  simp only [List.size_toArray, List.length_cons, List.length_nil, Nat.reduceAdd, Nat.reduceSub, List.replicate_succ, List.replicate_zero, List.cons_append, List.nil_append]
  by_cases hl : l1.length = l2.length
  · ((try with_reducible refine Cw.go [] ?_); (try simp (disch := (first | assumption | omega | (simp only [lenS, lenT, UInt64.reduceToNat]; try omega))) only [↓S0, S1, Try.fx, uOM_1, Nat.reduceAdd, Nat.reducePow, Int.reducePow, Nat.reduceBEq, ↓reduceIte, UInt8.reduceToNat, UInt16.reduceToNat, UInt32.reduceToNat, UInt64.reduceToNat, Int.reduceToNat, ln1, ln2]))
    refine Cw.loopG (G := Nat) [11, 12, 13, 14, 17, 18, 19, 20, 21, 22, 23, 24, 25, 4, 15, 16, 5] (fun g => [(5, vi g)]) (fun g => []) (fun g => g ≤ l1.length ∧ l1.take g = l2.take g) (fun g => l1.length - g) 0 rfl rfl ?_ ?_
    · exact ⟨Nat.zero_le _, rfl⟩
    · intro k jk hk
      simp only [overFrom, pin, setF_0, setF_s, List.contains_cons, List.contains_nil, Nat.reduceBEq, Bool.or_false, Bool.false_or, Bool.or_true, Bool.true_or, Nat.reduceAdd, ↓reduceIte, Bool.false_eq_true]
      obtain ⟨h1, h2⟩ := hk
      by_cases hk : k < l1.length
      · have h0 : 0 < l1.length := by omega
        have ra := hr1.has h0
        have rb := hr2.has (show 0 < l2.length by omega)
        have ia := hr1.idx true k hk
        have ib := hr2.idx true k (show k < l2.length by omega)
        have la := row_id hr1 hk
        have lb := row_id hr2 (show k < l2.length by omega)
        ((try with_reducible refine Cw.go [] ?_); (try simp (disch := (first | assumption | omega | (simp only [lenS, lenT, UInt64.reduceToNat]; try omega))) only [↓S0, S1, Try.fx, uOM_1, Nat.reduceAdd, Nat.reducePow, Int.reducePow, Nat.reduceBEq, ↓reduceIte, UInt8.reduceToNat, UInt16.reduceToNat, UInt32.reduceToNat, UInt64.reduceToNat, Int.reduceToNat, ln1]))
        refine Cw.regionS [b1, b2] [0, 1, 2, 4, 5, 6, 3, 7, 8] [] (by kernel_rfl) (by kernel_rfl) (by kernel_rfl) ?_
        simp only [nl_cons, ↓pickL_nil, ↓pickL_cons, ↓nthO_0, ↓nthO_s, consO_some]
        refine Ow.goQ ?_
        simp (disch := (first | assumption | omega | (simp only [lenS, lenT, UInt64.reduceToNat]; try omega))) only [↓S0, S1, Try.fx, uOM_1, Nat.reduceAdd, Nat.reducePow, Int.reducePow, Nat.reduceBEq, ↓reduceIte, UInt8.reduceToNat, UInt16.reduceToNat, UInt32.reduceToNat, UInt64.reduceToNat, Int.reduceToNat, ra, rb, ia, ib, la, lb]
        cases hq : ((l1.getD k id0).l == (l2.getD k id0).l)
        · have : decide (l1 = l2) = false := decide_eq_false (fun e => by rw [e] at hq; simp at hq)
          rw [this]
          ((try with_reducible refine Cw.go [] ?_); (try simp (disch := (first | assumption | omega | (simp only [lenS, lenT, UInt64.reduceToNat]; try omega))) only [↓S0, S1, Try.fx, uOM_1, Nat.reduceAdd, Nat.reducePow, Int.reducePow, Nat.reduceBEq, ↓reduceIte, UInt8.reduceToNat, UInt16.reduceToNat, UInt32.reduceToNat, UInt64.reduceToNat, Int.reduceToNat, hq]))
          refine ⟨_, (by simp (disch := (first | assumption | omega | (simp only [lenS, lenT, UInt64.reduceToNat]; try omega))) only [↓S0, S1, Try.fx, uOM_1, Nat.reduceAdd, Nat.reducePow, Int.reducePow, Nat.reduceBEq, ↓reduceIte, UInt8.reduceToNat, UInt16.reduceToNat, UInt32.reduceToNat, UInt64.reduceToNat, Int.reduceToNat]; rfl), trivial, ?_⟩
          rfl
        · ((try with_reducible refine Cw.go [] ?_); (try simp (disch := (first | assumption | omega | (simp only [lenS, lenT, UInt64.reduceToNat]; try omega))) only [↓S0, S1, Try.fx, uOM_1, Nat.reduceAdd, Nat.reducePow, Int.reducePow, Nat.reduceBEq, ↓reduceIte, UInt8.reduceToNat, UInt16.reduceToNat, UInt32.reduceToNat, UInt64.reduceToNat, Int.reduceToNat, hq]))
          refine Again.mk (k + 1) (by omega) ⟨hk, ?_⟩ rfl rfl
          have e : l1.getD k id0 = l2.getD k id0 := IdL.ext' (by simpa using hq)
          rw [take_snoc (z := id0) hk, take_snoc (z := id0) (show k < l2.length by omega), h2, e]
      · obtain rfl : k = l1.length := by omega
        have : l1 = l2 := by rw [List.take_length, hl, List.take_length] at h2; exact h2
        rw [decide_eq_true this]
        ((try with_reducible refine Cw.go [] ?_); (try simp (disch := (first | assumption | omega | (simp only [lenS, lenT, UInt64.reduceToNat]; try omega))) only [↓S0, S1, Try.fx, uOM_1, Nat.reduceAdd, Nat.reducePow, Int.reducePow, Nat.reduceBEq, ↓reduceIte, UInt8.reduceToNat, UInt16.reduceToNat, UInt32.reduceToNat, UInt64.reduceToNat, Int.reduceToNat, ln1]))
        refine ⟨_, (by simp (disch := (first | assumption | omega | (simp only [lenS, lenT, UInt64.reduceToNat]; try omega))) only [↓S0, S1, Try.fx, uOM_1, Nat.reduceAdd, Nat.reducePow, Int.reducePow, Nat.reduceBEq, ↓reduceIte, UInt8.reduceToNat, UInt16.reduceToNat, UInt32.reduceToNat, UInt64.reduceToNat, Int.reduceToNat]; rfl), trivial, ?_⟩
        rfl
  · have : decide (l1 = l2) = false := decide_eq_false (fun e => hl (by rw [e]))
    rw [this]
    ((try with_reducible refine Cw.go [] ?_); (try simp (disch := (first | assumption | omega | (simp only [lenS, lenT, UInt64.reduceToNat]; try omega))) only [↓S0, S1, Try.fx, uOM_1, Nat.reduceAdd, Nat.reducePow, Int.reducePow, Nat.reduceBEq, ↓reduceIte, UInt8.reduceToNat, UInt16.reduceToNat, UInt32.reduceToNat, UInt64.reduceToNat, Int.reduceToNat, ln1, ln2]))
    refine ⟨_, (by simp (disch := (first | assumption | omega | (simp only [lenS, lenT, UInt64.reduceToNat]; try omega))) only [↓S0, S1, Try.fx, uOM_1, Nat.reduceAdd, Nat.reducePow, Int.reducePow, Nat.reduceBEq, ↓reduceIte, UInt8.reduceToNat, UInt16.reduceToNat, UInt32.reduceToNat, UInt64.reduceToNat, Int.reduceToNat]; rfl), trivial, ?_⟩
    rfl
end Go.Proofs
end
section
open Go Go.Proofs Go.Sx Go.StP
namespace Go.Proofs
set_option maxRecDepth 10000
set_option maxHeartbeats 4000000
set_option linter.unusedSimpArgs false
/-! ### Commits -/
structure ComL where
  tree : IdL
  par : List IdL
  text : List UInt8
def comC (t : IdL) (p : Value) (x : List UInt8) : List Value := t.l.map v8 ++ ([p] ++ [vs x])
theorem comC_len (t : IdL) (p : Value) (x : List UInt8) : (comC t p x).length = 34 := by simp [comC, t.h]
theorem comC_one (t : IdL) (p : Value) (x : List UInt8) (hp : Value.oneCell' p = true) : (comC t p x).all Value.oneCell' = true := by
  unfold comC
  simp only [List.all_append, List.all_cons, List.all_nil, all_v8, hp, Bool.and_true, Bool.true_and]
  rfl
theorem cells_com (t : IdL) (p : Value) (x : List UInt8) : Value.cells (.agg (comC t p x).toArray) = (comC t p x).toArray := cells_agg _
theorem load_com0 (t : IdL) (p : Value) (x : List UInt8) (E : TypeId) (fz : Nat × Nat) : loadV (some (true, 32)) (some (.cells (comC t p x).toArray E fz)) 0 = some (.agg (a8 t.l)) := by
  unfold comC; exact load_agg [] _ _ E fz rfl (by simp [t.h])
theorem load_com1 (t : IdL) (p : Value) (x : List UInt8) (n : Nat) (E : TypeId) (fz : Nat × Nat) : loadV (some (false, n)) (some (.cells (comC t p x).toArray E fz)) 32 = some p := by
  unfold comC; exact load_one _ _ p n E fz (by simp [t.h])
theorem load_com2 (t : IdL) (p : Value) (x : List UInt8) (n : Nat) (E : TypeId) (fz : Nat × Nat) : loadV (some (false, n)) (some (.cells (comC t p x).toArray E fz)) 33 = some (vs x) := by
  have e : comC t p x = (t.l.map v8 ++ [p]) ++ ([vs x] ++ []) := by unfold comC; simp only [List.append_assoc, List.append_nil]
  rw [e]; exact load_one _ _ (vs x) n E fz (by simp [t.h])
theorem load_com (t : IdL) (p : Value) (x : List UInt8) (E : TypeId) (fz : Nat × Nat) : loadV (some (true, 34)) (some (.cells (comC t p x).toArray E fz)) 0 = some (.agg (comC t p x).toArray) := load_all _ E fz 34 (by rw [List.size_toArray, comC_len])
theorem store_com (old : Array Value) (t : IdL) (p : Value) (x : List UInt8) (a : Bool) (E : TypeId) (h : old.size = 34) (hp : Value.oneCell' p = true) : storeV (some (a, 34)) (some (.cells old E (0, 0))) 0 (.agg (comC t p x).toArray) = some (.cells (comC t p x).toArray E (0, 0)) := store_whole _ a old E (comC_len t p x) (comC_one t p x hp) h
/-- May a commit be? -/
def parOk (l : List IdL) (i : Nat) : Bool := !((l.take i).any fun y => (l.getD i id0).l == y.l)
def comOk (c : ComL) : Bool := (decide (c.par.length ≤ 4) && decide (c.text.length ≤ 64)) && (List.range c.par.length).all (parOk c.par)
theorem comOk_no {c : ComL} {k : Nat} (hk : k < c.par.length) (h : parOk c.par k = false) : comOk c = false := by
  unfold comOk
  have : (List.range c.par.length).all (parOk c.par) = false := by
    rw [List.all_eq_false]
    exact ⟨k, List.mem_range.2 hk, by simp [h]⟩
  rw [this, Bool.and_false]
theorem comOk_yes {c : ComL} (h : ∀ i, i < c.par.length → parOk c.par i = true) : comOk c = (decide (c.par.length ≤ 4) && decide (c.text.length ≤ 64)) := by
  unfold comOk
  have : (List.range c.par.length).all (parOk c.par) = true := List.all_eq_true.2 fun i hi => h i (List.mem_range.1 hi)
  rw [this, Bool.and_true]
abbrev ComS (w : World) (v : Value) (c : ComL) : Prop := ∃ p, v = .agg (comC c.tree p c.text).toArray ∧ IdS w p c.par
theorem SlV.one {α : Type} {m : Nat} {enc : α → List Value} {z : α} {w : World} {v : Value} {l : List α} (h : SlV m enc z w v l) : Value.oneCell' v = true ∧ v.cells = #[v] := by
  obtain ⟨b, off, c, arr, E, fz, -, -, ⟨rfl, -, -⟩ | ⟨rfl, -, -⟩⟩ := h <;> exact ⟨rfl, rfl⟩
set_option linter.defProp false
def uON_1 := And.intro (And.intro (And.intro (@eqIdA) (@neIdA)) (And.intro (@load_idb) (And.intro (@rdIn_v8) (@rdIn_vi)))) (And.intro (And.intro (@load_com0) (@load_com1)) (And.intro (@load_com2) (And.intro (@load_com) (@cells_com))))
theorem commit_spec (v : Value) (c : ComL) (w : World) (hv : ComS w v c) (hl : c.par.length < 1000000) (ht : c.text.length < 1099511627776) :
    Rets Try.prog 37 #[v] w (fun v' D => v' = .bool (comOk c) ∧ D = []) := by
  obtain ⟨p, rfl, hp⟩ := hv
  obtain ⟨b, off, arr, E, fz, hr⟩ := hp.row
  have ln := hp.len
  refine Rets.enterV Try.func37 rfl (rs := [.tmp 2]) Try.results37 Try.ntmps37 ?_
  simp only [List.size_toArray, List.length_cons, List.length_nil, Nat.reduceAdd, Nat.reduceSub, List.replicate_succ, List.replicate_zero, List.cons_append, List.nil_append]
  ((try with_reducible refine Cw.go [] ?_); (try simp (disch := (first | assumption | omega | (simp only [lenS, lenT, UInt64.reduceToNat]; try omega))) only [↓S0, S1, Try.fx, uON_1, Nat.reduceAdd, Nat.reducePow, Int.reducePow, Nat.reduceBEq, ↓reduceIte, UInt8.reduceToNat, UInt16.reduceToNat, UInt32.reduceToNat, UInt64.reduceToNat, Int.reduceToNat]))
  refine Ow.box rfl rfl fun bx hbx hwx => ?_
  simp only [ev_tmp, getF_0, getF_s, cells_agg, List.nil_append, List.cons_append]
  refine Ow.go rfl ?_
  simp (disch := (first | assumption | omega | (simp only [lenS, lenT, UInt64.reduceToNat]; try omega))) only [↓S0, S1, Try.fx, uON_1, Nat.reduceAdd, Nat.reducePow, Int.reducePow, Nat.reduceBEq, ↓reduceIte, UInt8.reduceToNat, UInt16.reduceToNat, UInt32.reduceToNat, UInt64.reduceToNat, Int.reduceToNat]
  ((try with_reducible refine Cw.go [] ?_); (try simp (disch := (first | assumption | omega | (simp only [lenS, lenT, UInt64.reduceToNat]; try omega))) only [↓S0, S1, Try.fx, uON_1, Nat.reduceAdd, Nat.reducePow, Int.reducePow, Nat.reduceBEq, ↓reduceIte, UInt8.reduceToNat, UInt16.reduceToNat, UInt32.reduceToNat, UInt64.reduceToNat, Int.reduceToNat, ln]))
  refine Cw.loopG (G := Nat) [9, 10, 11, 12, 4, 3, 13, 14, 15, 16, 17, 18, 2, 19, 8] (fun g => [(8, vi g)]) (fun g => [(bx, .cells (comC c.tree p c.text).toArray 27 (0, 0))]) (fun g => g ≤ c.par.length ∧ ∀ i, i < g → parOk c.par i = true) (fun g => c.par.length - g) 0 rfl rfl ?_ ?_
  · exact ⟨Nat.zero_le _, fun i hi => absurd hi (Nat.not_lt_zero i)⟩
  · intro k jk hk
    simp only [overFrom, pin, setF_0, setF_s, List.contains_cons, List.contains_nil, Nat.reduceBEq, Bool.or_false, Bool.false_or, Bool.or_true, Bool.true_or, Nat.reduceAdd, ↓reduceIte, Bool.false_eq_true]
    obtain ⟨h1, h2⟩ := hk
    by_cases hk : k < c.par.length
    · have h0 : 0 < c.par.length := by omega
      have hbl := hr.lt h0
      have hnb : bx ≠ b := by omega
      have r2 := hr.has h0
      have i2 := hr.idx true k hk
      have l2 := row_id hr hk
      obtain ⟨v3, s3, hv3, -⟩ := hp.take (show k ≤ c.par.length by omega) true
      ((try with_reducible refine Cw.go [6] ?_); (try simp (disch := (first | assumption | omega | (simp only [lenS, lenT, UInt64.reduceToNat]; try omega))) only [↓S0, S1, Try.fx, uON_1, Nat.reduceAdd, Nat.reducePow, Int.reducePow, Nat.reduceBEq, ↓reduceIte, UInt8.reduceToNat, UInt16.reduceToNat, UInt32.reduceToNat, UInt64.reduceToNat, Int.reduceToNat, i2, r2, l2]))
      refine Ow.alloc rfl rfl Try.zr24 fun b4 hb4 hw4 => ?_
      simp only [cells_agg, List.nil_append, List.cons_append]
      obtain ⟨h4, -⟩ := hb4
      have hxl := (c.par.getD k id0).h
      refine Ow.go rfl ?_
      simp (disch := (first | assumption | omega | (simp only [lenS, lenT, UInt64.reduceToNat]; try omega))) only [↓S0, S1, Try.fx, uON_1, Nat.reduceAdd, Nat.reducePow, Int.reducePow, Nat.reduceBEq, ↓reduceIte, UInt8.reduceToNat, UInt16.reduceToNat, UInt32.reduceToNat, UInt64.reduceToNat, Int.reduceToNat]
      refine Cw.regionS [bx, b4] [0, 2, 1, 3, 4, 5] [] (by kernel_rfl) (by kernel_rfl) (by kernel_rfl) ?_
      simp only [nl_cons, ↓pickL_nil, ↓pickL_cons, ↓nthO_0, ↓nthO_s, consO_some]
      refine Ow.goQ ?_
      simp (disch := (first | assumption | omega | (simp only [lenS, lenT, UInt64.reduceToNat]; try omega))) only [↓S0, S1, Try.fx, uON_1, Nat.reduceAdd, Nat.reducePow, Int.reducePow, Nat.reduceBEq, ↓reduceIte, UInt8.reduceToNat, UInt16.reduceToNat, UInt32.reduceToNat, UInt64.reduceToNat, Int.reduceToNat, s3]
      refine Ow.callFV rfl Try.call60 (fun w' hw' => ContainsId_spec v3 (c.par.take k) (c.par.getD k id0) w' (hv3.oldN hw' ⟨hwx, hw4, trivial⟩) (by rw [List.length_take]; omega)) ?_
      cases hq : (c.par.take k).any fun y => (c.par.getD k id0).l == y.l
      · have e1 : parOk c.par k = true := by unfold parOk; rw [hq]; rfl
        refine Ow.goQ ?_
        simp (disch := (first | assumption | omega | (simp only [lenS, lenT, UInt64.reduceToNat]; try omega))) only [↓S0, S1, Try.fx, uON_1, Nat.reduceAdd, Nat.reducePow, Int.reducePow, Nat.reduceBEq, ↓reduceIte, UInt8.reduceToNat, UInt16.reduceToNat, UInt32.reduceToNat, UInt64.reduceToNat, Int.reduceToNat]
        refine Cw.forgetN [(bx, .cells (comC c.tree p c.text).toArray 27 (0, 0))] (by exact ⟨hwx, hw4, trivial⟩) (by intro p hp; simp only [List.mem_cons, List.not_mem_nil, or_false] at hp ⊢; all_goals (first | (rcases hp with rfl | hp <;> simp_all) | (subst hp; simp) | simp_all)) (by simp [keys] <;> omega) ?_
        ((try with_reducible refine Cw.go [] ?_); (try simp (disch := (first | assumption | omega | (simp only [lenS, lenT, UInt64.reduceToNat]; try omega))) only [↓S0, S1, Try.fx, uON_1, Nat.reduceAdd, Nat.reducePow, Int.reducePow, Nat.reduceBEq, ↓reduceIte, UInt8.reduceToNat, UInt16.reduceToNat, UInt32.reduceToNat, UInt64.reduceToNat, Int.reduceToNat]))
        exact Again.mk (k + 1) (by omega) ⟨by omega, fun i hi => by
          rcases Nat.lt_succ_iff_lt_or_eq.1 hi with h | rfl
          · exact h2 i h
          · exact e1⟩ rfl rfl
      · have e1 : parOk c.par k = false := by unfold parOk; rw [hq]; rfl
        rw [comOk_no hk e1]
        refine Ow.goQ ?_
        simp (disch := (first | assumption | omega | (simp only [lenS, lenT, UInt64.reduceToNat]; try omega))) only [↓S0, S1, Try.fx, uON_1, Nat.reduceAdd, Nat.reducePow, Int.reducePow, Nat.reduceBEq, ↓reduceIte, UInt8.reduceToNat, UInt16.reduceToNat, UInt32.reduceToNat, UInt64.reduceToNat, Int.reduceToNat]
        refine ⟨_, (by simp (disch := (first | assumption | omega | (simp only [lenS, lenT, UInt64.reduceToNat]; try omega))) only [↓S0, S1, Try.fx, uON_1, Nat.reduceAdd, Nat.reducePow, Int.reducePow, Nat.reduceBEq, ↓reduceIte, UInt8.reduceToNat, UInt16.reduceToNat, UInt32.reduceToNat, UInt64.reduceToNat, Int.reduceToNat]; rfl), ⟨hwx, hw4, trivial⟩, ?_⟩
        rfl
    · obtain rfl : k = c.par.length := by omega
      rw [comOk_yes h2]
      by_cases h4 : c.par.length ≤ 4
      · have d1 : decide (((c.par.length : Nat) : Int) ≤ 4) = true := decide_eq_true (by omega)
        ((try with_reducible refine Cw.go [] ?_); (try simp (disch := (first | assumption | omega | (simp only [lenS, lenT, UInt64.reduceToNat]; try omega))) only [↓S0, S1, Try.fx, uON_1, Nat.reduceAdd, Nat.reducePow, Int.reducePow, Nat.reduceBEq, ↓reduceIte, UInt8.reduceToNat, UInt16.reduceToNat, UInt32.reduceToNat, UInt64.reduceToNat, Int.reduceToNat, ln, d1]))
        refine ⟨_, (by simp (disch := (first | assumption | omega | (simp only [lenS, lenT, UInt64.reduceToNat]; try omega))) only [↓S0, S1, Try.fx, uON_1, Nat.reduceAdd, Nat.reducePow, Int.reducePow, Nat.reduceBEq, ↓reduceIte, UInt8.reduceToNat, UInt16.reduceToNat, UInt32.reduceToNat, UInt64.reduceToNat, Int.reduceToNat]; rfl), ⟨hwx, trivial⟩, ?_⟩
        rw [show decide (c.par.length ≤ 4) = true from decide_eq_true h4, Bool.true_and]; exact congrArg Value.bool (decide_eq_decide.2 (by omega))
      · have d1 : decide (((c.par.length : Nat) : Int) ≤ 4) = false := decide_eq_false (by omega)
        ((try with_reducible refine Cw.go [] ?_); (try simp (disch := (first | assumption | omega | (simp only [lenS, lenT, UInt64.reduceToNat]; try omega))) only [↓S0, S1, Try.fx, uON_1, Nat.reduceAdd, Nat.reducePow, Int.reducePow, Nat.reduceBEq, ↓reduceIte, UInt8.reduceToNat, UInt16.reduceToNat, UInt32.reduceToNat, UInt64.reduceToNat, Int.reduceToNat, ln, d1]))
        refine ⟨_, (by simp (disch := (first | assumption | omega | (simp only [lenS, lenT, UInt64.reduceToNat]; try omega))) only [↓S0, S1, Try.fx, uON_1, Nat.reduceAdd, Nat.reducePow, Int.reducePow, Nat.reduceBEq, ↓reduceIte, UInt8.reduceToNat, UInt16.reduceToNat, UInt32.reduceToNat, UInt64.reduceToNat, Int.reduceToNat]; rfl), ⟨hwx, trivial⟩, ?_⟩
        rw [show decide (c.par.length ≤ 4) = false from decide_eq_false h4]; rfl
end Go.Proofs
end
section
open Go Go.Proofs Go.Sx Go.StP
namespace Go.Proofs
set_option maxRecDepth 10000
set_option maxHeartbeats 4000000
set_option linter.unusedSimpArgs false
set_option linter.defProp false
def uOO_1 := And.intro (And.intro (And.intro (@eqIdA) (@neIdA)) (And.intro (@load_idb) (And.intro (@rdIn_v8) (@rdIn_vi)))) (And.intro (And.intro (@load_com0) (@load_com1)) (And.intro (@load_com2) (And.intro (@load_com) (@cells_com))))
theorem any_snoc {l : List IdL} {k : Nat} {x : IdL} (hk : k < l.length) (h : ((l.take k).any fun y => x.l == y.l) = false) (h2 : (x.l == (l.getD k id0).l) = false) : ((l.take (k + 1)).any fun y => x.l == y.l) = false := by
  rw [take_snoc (z := id0) hk, List.any_append, h, Bool.false_or, List.any_cons, h2]; rfl
theorem any_yes {l : List IdL} {k i : Nat} {x : IdL} (hk : k < l.length) (hi : k < i) (h2 : (x.l == (l.getD k id0).l) = true) : ((l.take i).any fun y => x.l == y.l) = true := by
  rw [List.any_eq_true]
  refine ⟨l.getD k id0, ?_, h2⟩
  rw [← getD_take (l := l) (z := id0) hi]
  exact getD_mem (by rw [List.length_take]; omega)
theorem CommitRight_spec (v : Value) (c : ComL) (w : World) (hv : ComS w v c) (hl : c.par.length < 1000000) (ht : c.text.length < 1099511627776) :
    Rets Try.prog 16 #[v] w (fun v' D => v' = .bool (comOk c) ∧ D = []) := by
  obtain ⟨p, rfl, hp⟩ := hv
  obtain ⟨b, off, arr, E, fz, hr⟩ := hp.row
  have ln := hp.len
  refine Rets.enterV Try.func16 rfl (rs := [.tmp 2]) Try.results16 Try.ntmps16 ?_
  simp only [List.size_toArray, List.length_cons, List.length_nil, Nat.reduceAdd, Nat.reduceSub, List.replicate_succ, List.replicate_zero, List.cons_append, List.nil_append]
  ((try with_reducible refine Cw.go [] ?_); (try simp (disch := (first | assumption | omega | (simp only [lenS, lenT, UInt64.reduceToNat]; try omega))) only [↓S0, S1, Try.fx, uOO_1, Nat.reduceAdd, Nat.reducePow, Int.reducePow, Nat.reduceBEq, ↓reduceIte, UInt8.reduceToNat, UInt16.reduceToNat, UInt32.reduceToNat, UInt64.reduceToNat, Int.reduceToNat]))
  refine Ow.box rfl rfl fun bx hbx hwx => ?_
  simp only [ev_tmp, getF_0, getF_s, cells_agg, List.nil_append, List.cons_append]
  refine Ow.go rfl ?_
  simp (disch := (first | assumption | omega | (simp only [lenS, lenT, UInt64.reduceToNat]; try omega))) only [↓S0, S1, Try.fx, uOO_1, Nat.reduceAdd, Nat.reducePow, Int.reducePow, Nat.reduceBEq, ↓reduceIte, UInt8.reduceToNat, UInt16.reduceToNat, UInt32.reduceToNat, UInt64.reduceToNat, Int.reduceToNat]
  by_cases h4 : 4 < c.par.length
  · have d1 : decide (4 < ((c.par.length : Nat) : Int)) = true := decide_eq_true (by omega)
    ((try with_reducible refine Cw.go [] ?_); (try simp (disch := (first | assumption | omega | (simp only [lenS, lenT, UInt64.reduceToNat]; try omega))) only [↓S0, S1, Try.fx, uOO_1, Nat.reduceAdd, Nat.reducePow, Int.reducePow, Nat.reduceBEq, ↓reduceIte, UInt8.reduceToNat, UInt16.reduceToNat, UInt32.reduceToNat, UInt64.reduceToNat, Int.reduceToNat, ln, d1]))
    have : comOk c = false := by unfold comOk; rw [show decide (c.par.length ≤ 4) = false from decide_eq_false (by omega)]; rfl
    rw [this]
    refine ⟨_, (by simp (disch := (first | assumption | omega | (simp only [lenS, lenT, UInt64.reduceToNat]; try omega))) only [↓S0, S1, Try.fx, uOO_1, Nat.reduceAdd, Nat.reducePow, Int.reducePow, Nat.reduceBEq, ↓reduceIte, UInt8.reduceToNat, UInt16.reduceToNat, UInt32.reduceToNat, UInt64.reduceToNat, Int.reduceToNat]; rfl), ⟨hwx, trivial⟩, ?_⟩
    rfl
  have d1 : decide (4 < ((c.par.length : Nat) : Int)) = false := decide_eq_false (by omega)
  by_cases h64 : 64 < c.text.length
  · have d2 : decide (64 < ((c.text.length : Nat) : Int)) = true := decide_eq_true (by omega)
    ((try with_reducible refine Cw.go [] ?_); (try simp (disch := (first | assumption | omega | (simp only [lenS, lenT, UInt64.reduceToNat]; try omega))) only [↓S0, S1, Try.fx, uOO_1, Nat.reduceAdd, Nat.reducePow, Int.reducePow, Nat.reduceBEq, ↓reduceIte, UInt8.reduceToNat, UInt16.reduceToNat, UInt32.reduceToNat, UInt64.reduceToNat, Int.reduceToNat, ln, d1, d2]))
    have : comOk c = false := by unfold comOk; rw [show decide (c.text.length ≤ 64) = false from decide_eq_false (by omega), Bool.and_false]; rfl
    rw [this]
    refine ⟨_, (by simp (disch := (first | assumption | omega | (simp only [lenS, lenT, UInt64.reduceToNat]; try omega))) only [↓S0, S1, Try.fx, uOO_1, Nat.reduceAdd, Nat.reducePow, Int.reducePow, Nat.reduceBEq, ↓reduceIte, UInt8.reduceToNat, UInt16.reduceToNat, UInt32.reduceToNat, UInt64.reduceToNat, Int.reduceToNat]; rfl), ⟨hwx, trivial⟩, ?_⟩
    rfl
  have d2 : decide (64 < ((c.text.length : Nat) : Int)) = false := decide_eq_false (by omega)
  ((try with_reducible refine Cw.go [] ?_); (try simp (disch := (first | assumption | omega | (simp only [lenS, lenT, UInt64.reduceToNat]; try omega))) only [↓S0, S1, Try.fx, uOO_1, Nat.reduceAdd, Nat.reducePow, Int.reducePow, Nat.reduceBEq, ↓reduceIte, UInt8.reduceToNat, UInt16.reduceToNat, UInt32.reduceToNat, UInt64.reduceToNat, Int.reduceToNat, ln, d1, d2]))
  refine Cw.loopG (G := Nat) [15, 16, 17, 18, 19, 4, 22, 23, 24, 27, 28, 29, 30, 31, 32, 33, 34, 35, 36, 37, 2, 25, 26, 20, 21, 3] (fun g => [(3, vi g)]) (fun g => [(bx, .cells (comC c.tree p c.text).toArray 27 (0, 0))]) (fun g => g ≤ c.par.length ∧ ∀ i, i < g → parOk c.par i = true) (fun g => c.par.length - g) 0 rfl rfl ?_ ?_
  · exact ⟨Nat.zero_le _, fun i hi => absurd hi (Nat.not_lt_zero i)⟩
  · intro i ji hi
    simp only [overFrom, pin, setF_0, setF_s, List.contains_cons, List.contains_nil, Nat.reduceBEq, Bool.or_false, Bool.false_or, Bool.or_true, Bool.true_or, Nat.reduceAdd, ↓reduceIte, Bool.false_eq_true]
    obtain ⟨h1, h2⟩ := hi
    by_cases hi : i < c.par.length
    · have h0 : 0 < c.par.length := by omega
      have hbl := hr.lt h0
      have hnb : bx ≠ b := by omega
      have r2 := hr.has h0
      have i2 := hr.idx true i hi
      have l2 := row_id hr hi
      ((try with_reducible refine Cw.go [] ?_); (try simp (disch := (first | assumption | omega | (simp only [lenS, lenT, UInt64.reduceToNat]; try omega))) only [↓S0, S1, Try.fx, uOO_1, Nat.reduceAdd, Nat.reducePow, Int.reducePow, Nat.reduceBEq, ↓reduceIte, UInt8.reduceToNat, UInt16.reduceToNat, UInt32.reduceToNat, UInt64.reduceToNat, Int.reduceToNat, ln]))
      refine Cw.loopG (G := Nat) [22, 23, 24, 27, 28, 29, 30, 31, 32, 33, 34, 35, 36, 37, 2, 25, 26, 4] (fun g => [(4, vi g)]) (fun g => [(bx, .cells (comC c.tree p c.text).toArray 27 (0, 0))]) (fun g => g ≤ i ∧ ((c.par.take g).any fun y => (c.par.getD i id0).l == y.l) = false) (fun g => i - g) 0 rfl rfl ?_ ?_
      · exact ⟨Nat.zero_le _, rfl⟩
      · intro k jk hk
        simp only [overFrom, pin, setF_0, setF_s, List.contains_cons, List.contains_nil, Nat.reduceBEq, Bool.or_false, Bool.false_or, Bool.or_true, Bool.true_or, Nat.reduceAdd, ↓reduceIte, Bool.false_eq_true]
        obtain ⟨g1, g2⟩ := hk
        by_cases hk : k < i
        · have i3 := hr.idx true k (show k < c.par.length by omega)
          have l3 := row_id hr (show k < c.par.length by omega)
          ((try with_reducible refine Cw.go [] ?_); (try simp (disch := (first | assumption | omega | (simp only [lenS, lenT, UInt64.reduceToNat]; try omega))) only [↓S0, S1, Try.fx, uOO_1, Nat.reduceAdd, Nat.reducePow, Int.reducePow, Nat.reduceBEq, ↓reduceIte, UInt8.reduceToNat, UInt16.reduceToNat, UInt32.reduceToNat, UInt64.reduceToNat, Int.reduceToNat]))
          refine Cw.regionS [bx, b] [0, 2, 5, 7, 1, 3, 4, 6, 8, 9, 10] [] (by kernel_rfl) (by kernel_rfl) (by kernel_rfl) ?_
          simp only [nl_cons, ↓pickL_nil, ↓pickL_cons, ↓nthO_0, ↓nthO_s, consO_some]
          refine Ow.goQ ?_
          simp (disch := (first | assumption | omega | (simp only [lenS, lenT, UInt64.reduceToNat]; try omega))) only [↓S0, S1, Try.fx, uOO_1, Nat.reduceAdd, Nat.reducePow, Int.reducePow, Nat.reduceBEq, ↓reduceIte, UInt8.reduceToNat, UInt16.reduceToNat, UInt32.reduceToNat, UInt64.reduceToNat, Int.reduceToNat, i2, r2, l2, i3, l3]
          cases hq : ((c.par.getD i id0).l == (c.par.getD k id0).l)
          · ((try with_reducible refine Cw.go [] ?_); (try simp (disch := (first | assumption | omega | (simp only [lenS, lenT, UInt64.reduceToNat]; try omega))) only [↓S0, S1, Try.fx, uOO_1, Nat.reduceAdd, Nat.reducePow, Int.reducePow, Nat.reduceBEq, ↓reduceIte, UInt8.reduceToNat, UInt16.reduceToNat, UInt32.reduceToNat, UInt64.reduceToNat, Int.reduceToNat, hq]))
            exact Again.mk (k + 1) (by omega) ⟨by omega, any_snoc (by omega) g2 hq⟩ rfl rfl
          · have e1 : parOk c.par i = false := by unfold parOk; rw [any_yes (by omega) hk hq]; rfl
            rw [comOk_no hi e1]
            ((try with_reducible refine Cw.go [] ?_); (try simp (disch := (first | assumption | omega | (simp only [lenS, lenT, UInt64.reduceToNat]; try omega))) only [↓S0, S1, Try.fx, uOO_1, Nat.reduceAdd, Nat.reducePow, Int.reducePow, Nat.reduceBEq, ↓reduceIte, UInt8.reduceToNat, UInt16.reduceToNat, UInt32.reduceToNat, UInt64.reduceToNat, Int.reduceToNat, hq]))
            refine ⟨_, (by simp (disch := (first | assumption | omega | (simp only [lenS, lenT, UInt64.reduceToNat]; try omega))) only [↓S0, S1, Try.fx, uOO_1, Nat.reduceAdd, Nat.reducePow, Int.reducePow, Nat.reduceBEq, ↓reduceIte, UInt8.reduceToNat, UInt16.reduceToNat, UInt32.reduceToNat, UInt64.reduceToNat, Int.reduceToNat]; rfl), ⟨hwx, trivial⟩, ?_⟩
            rfl
        · obtain rfl : k = i := by omega
          have e1 : parOk c.par k = true := by unfold parOk; rw [g2]; rfl
          ((try with_reducible refine Cw.go [] ?_); (try simp (disch := (first | assumption | omega | (simp only [lenS, lenT, UInt64.reduceToNat]; try omega))) only [↓S0, S1, Try.fx, uOO_1, Nat.reduceAdd, Nat.reducePow, Int.reducePow, Nat.reduceBEq, ↓reduceIte, UInt8.reduceToNat, UInt16.reduceToNat, UInt32.reduceToNat, UInt64.reduceToNat, Int.reduceToNat]))
          exact Again.mk (k + 1) (by omega) ⟨by omega, fun i hi => by
            rcases Nat.lt_succ_iff_lt_or_eq.1 hi with h | rfl
            · exact h2 i h
            · exact e1⟩ rfl rfl
    · obtain rfl : i = c.par.length := by omega
      rw [comOk_yes h2, show decide (c.par.length ≤ 4) = true from decide_eq_true (by omega), show decide (c.text.length ≤ 64) = true from decide_eq_true (by omega)]
      ((try with_reducible refine Cw.go [] ?_); (try simp (disch := (first | assumption | omega | (simp only [lenS, lenT, UInt64.reduceToNat]; try omega))) only [↓S0, S1, Try.fx, uOO_1, Nat.reduceAdd, Nat.reducePow, Int.reducePow, Nat.reduceBEq, ↓reduceIte, UInt8.reduceToNat, UInt16.reduceToNat, UInt32.reduceToNat, UInt64.reduceToNat, Int.reduceToNat, ln]))
      refine ⟨_, (by simp (disch := (first | assumption | omega | (simp only [lenS, lenT, UInt64.reduceToNat]; try omega))) only [↓S0, S1, Try.fx, uOO_1, Nat.reduceAdd, Nat.reducePow, Int.reducePow, Nat.reduceBEq, ↓reduceIte, UInt8.reduceToNat, UInt16.reduceToNat, UInt32.reduceToNat, UInt64.reduceToNat, Int.reduceToNat]; rfl), ⟨hwx, trivial⟩, ?_⟩
      rfl
def comEq (a b : ComL) : Bool := (a.tree.l == b.tree.l) && (a.text == b.text) && decide (a.par = b.par)
theorem SameCommit_spec (v1 v2 : Value) (c1 c2 : ComL) (w : World) (hv1 : ComS w v1 c1) (hv2 : ComS w v2 c2) (hl1 : c1.par.length < 1000000) (hl2 : c2.par.length < 1000000) :
    Rets Try.prog 22 #[v1, v2] w (fun v' D => v' = .bool (comEq c1 c2) ∧ D = []) := by
  obtain ⟨p1, rfl, hp1⟩ := hv1
  obtain ⟨p2, rfl, hp2⟩ := hv2
  refine Rets.enterV Try.func22 rfl (rs := [.tmp 4]) Try.results22 Try.ntmps22 ?_
  simp only [List.size_toArray, List.length_cons, List.length_nil, Nat.reduceAdd, Nat.reduceSub, List.replicate_succ, List.replicate_zero, List.cons_append, List.nil_append]
  ((try with_reducible refine Cw.go [] ?_); (try simp (disch := (first | assumption | omega | (simp only [lenS, lenT, UInt64.reduceToNat]; try omega))) only [↓S0, S1, Try.fx, uOO_1, Nat.reduceAdd, Nat.reducePow, Int.reducePow, Nat.reduceBEq, ↓reduceIte, UInt8.reduceToNat, UInt16.reduceToNat, UInt32.reduceToNat, UInt64.reduceToNat, Int.reduceToNat]))
  refine Ow.box rfl rfl fun b1 hb1 hw1 => ?_
  simp only [ev_tmp, getF_0, getF_s, cells_agg, List.nil_append, List.cons_append]
  refine Ow.go rfl ?_
  simp (disch := (first | assumption | omega | (simp only [lenS, lenT, UInt64.reduceToNat]; try omega))) only [↓S0, S1, Try.fx, uOO_1, Nat.reduceAdd, Nat.reducePow, Int.reducePow, Nat.reduceBEq, ↓reduceIte, UInt8.reduceToNat, UInt16.reduceToNat, UInt32.reduceToNat, UInt64.reduceToNat, Int.reduceToNat]
  refine Ow.box rfl rfl fun b2 hb2 hw2 => ?_
  simp only [ev_tmp, getF_0, getF_s, cells_agg, List.nil_append, List.cons_append]
  refine Ow.go rfl ?_
  simp (disch := (first | assumption | omega | (simp only [lenS, lenT, UInt64.reduceToNat]; try omega))) only [↓S0, S1, Try.fx, uOO_1, Nat.reduceAdd, Nat.reducePow, Int.reducePow, Nat.reduceBEq, ↓reduceIte, UInt8.reduceToNat, UInt16.reduceToNat, UInt32.reduceToNat, UInt64.reduceToNat, Int.reduceToNat]
  obtain ⟨h12, -⟩ := hb2
  have hne : b1 ≠ b2 := by omega
  unfold comEq
  cases h1 : (c1.tree.l == c2.tree.l)
  · ((try with_reducible refine Cw.go [] ?_); (try simp (disch := (first | assumption | omega | (simp only [lenS, lenT, UInt64.reduceToNat]; try omega))) only [↓S0, S1, Try.fx, uOO_1, Nat.reduceAdd, Nat.reducePow, Int.reducePow, Nat.reduceBEq, ↓reduceIte, UInt8.reduceToNat, UInt16.reduceToNat, UInt32.reduceToNat, UInt64.reduceToNat, Int.reduceToNat, h1]))
    refine ⟨_, (by simp (disch := (first | assumption | omega | (simp only [lenS, lenT, UInt64.reduceToNat]; try omega))) only [↓S0, S1, Try.fx, uOO_1, Nat.reduceAdd, Nat.reducePow, Int.reducePow, Nat.reduceBEq, ↓reduceIte, UInt8.reduceToNat, UInt16.reduceToNat, UInt32.reduceToNat, UInt64.reduceToNat, Int.reduceToNat]; rfl), ⟨hw1, hw2, trivial⟩, ?_⟩
    rfl
  · cases h2 : (c1.text == c2.text)
    · ((try with_reducible refine Cw.go [] ?_); (try simp (disch := (first | assumption | omega | (simp only [lenS, lenT, UInt64.reduceToNat]; try omega))) only [↓S0, S1, Try.fx, uOO_1, Nat.reduceAdd, Nat.reducePow, Int.reducePow, Nat.reduceBEq, ↓reduceIte, UInt8.reduceToNat, UInt16.reduceToNat, UInt32.reduceToNat, UInt64.reduceToNat, Int.reduceToNat, h1, h2]))
      refine ⟨_, (by simp (disch := (first | assumption | omega | (simp only [lenS, lenT, UInt64.reduceToNat]; try omega))) only [↓S0, S1, Try.fx, uOO_1, Nat.reduceAdd, Nat.reducePow, Int.reducePow, Nat.reduceBEq, ↓reduceIte, UInt8.reduceToNat, UInt16.reduceToNat, UInt32.reduceToNat, UInt64.reduceToNat, Int.reduceToNat]; rfl), ⟨hw1, hw2, trivial⟩, ?_⟩
      rfl
    · ((try with_reducible refine Cw.go [] ?_); (try simp (disch := (first | assumption | omega | (simp only [lenS, lenT, UInt64.reduceToNat]; try omega))) only [↓S0, S1, Try.fx, uOO_1, Nat.reduceAdd, Nat.reducePow, Int.reducePow, Nat.reduceBEq, ↓reduceIte, UInt8.reduceToNat, UInt16.reduceToNat, UInt32.reduceToNat, UInt64.reduceToNat, Int.reduceToNat, h1, h2]))
      refine Ow.callFV rfl Try.call19 (fun w' hw' => SameIds_spec p1 p2 c1.par c2.par w' (hp1.oldN hw' ⟨hw1, hw2, trivial⟩) (hp2.oldN hw' ⟨hw1, hw2, trivial⟩) hl1 hl2) ?_
      refine Ow.go rfl ?_
      simp (disch := (first | assumption | omega | (simp only [lenS, lenT, UInt64.reduceToNat]; try omega))) only [↓S0, S1, Try.fx, uOO_1, Nat.reduceAdd, Nat.reducePow, Int.reducePow, Nat.reduceBEq, ↓reduceIte, UInt8.reduceToNat, UInt16.reduceToNat, UInt32.reduceToNat, UInt64.reduceToNat, Int.reduceToNat]
      refine ⟨_, (by simp (disch := (first | assumption | omega | (simp only [lenS, lenT, UInt64.reduceToNat]; try omega))) only [↓S0, S1, Try.fx, uOO_1, Nat.reduceAdd, Nat.reducePow, Int.reducePow, Nat.reduceBEq, ↓reduceIte, UInt8.reduceToNat, UInt16.reduceToNat, UInt32.reduceToNat, UInt64.reduceToNat, Int.reduceToNat]; rfl), ⟨hw1, hw2, trivial⟩, ?_⟩
      rfl
end Go.Proofs
end
section
open Go Go.Proofs Go.Sx
namespace Go.Proofs
set_option maxRecDepth 10000
set_option maxHeartbeats 4000000
set_option linter.unusedSimpArgs false
/-! ### Numbers, texts and ids, as the law writes them -/
theorem clampN_nat {n : Nat} (h : n < 1099511627776) : clampN (n : Int) = n := by unfold clampN maxN; omega
theorem NumberR_spec : ∀ (k : Nat) (n : Int) (w : World), clampN n ≤ k →
    Rets Try.prog 39 #[vi n] w (fun v D => v = vs (numL (clampN n)) ∧ D = []) := by
  intro k
  induction k using Nat.strongRecOn with
  | ind k ih =>
    intro n w hk
    refine Rets.enterV Try.func39 rfl (rs := [.tmp 2]) Try.results39 Try.ntmps39 ?_
    simp only [List.size_toArray, List.length_cons, List.length_nil, Nat.reduceAdd, Nat.reduceSub, List.replicate_succ, List.replicate_zero, List.cons_append, List.nil_append]
    by_cases h0 : n < 0
    · have d1 : decide (n < 0) = true := decide_eq_true h0
      have e : clampN n = 0 := by unfold clampN maxN; omega
      rw [e]
      ((try with_reducible refine Cw.go [] ?_); (try simp (disch := (first | assumption | omega | (simp only [lenS, lenT, UInt64.reduceToNat]; try omega))) only [↓S0, S1, Try.fx, Nat.reduceAdd, Nat.reducePow, Int.reducePow, Nat.reduceBEq, ↓reduceIte, UInt8.reduceToNat, UInt16.reduceToNat, UInt32.reduceToNat, UInt64.reduceToNat, Int.reduceToNat, d1]))
      refine Ow.buildSlice (e := 5) #[v8 0] rfl rfl (by kernel_rfl) fun b1 hb1 hw1 => ?_
      rw [show (#[v8 0] : Array Value) = a8 [0] from rfl]
      refine Ow.go rfl ?_
      simp (disch := (first | assumption | omega | (simp only [lenS, lenT, UInt64.reduceToNat]; try omega))) only [↓S0, S1, Try.fx, Nat.reduceAdd, Nat.reducePow, Int.reducePow, Nat.reduceBEq, ↓reduceIte, UInt8.reduceToNat, UInt16.reduceToNat, UInt32.reduceToNat, UInt64.reduceToNat, Int.reduceToNat]
      ((try with_reducible refine Cw.go [] ?_); (try simp (disch := (first | assumption | omega | (simp only [lenS, lenT, UInt64.reduceToNat]; try omega))) only [↓S0, S1, Try.fx, Nat.reduceAdd, Nat.reducePow, Int.reducePow, Nat.reduceBEq, ↓reduceIte, UInt8.reduceToNat, UInt16.reduceToNat, UInt32.reduceToNat, UInt64.reduceToNat, Int.reduceToNat]))
      refine ⟨_, (by simp (disch := (first | assumption | omega | (simp only [lenS, lenT, UInt64.reduceToNat]; try omega))) only [↓S0, S1, Try.fx, Nat.reduceAdd, Nat.reducePow, Int.reducePow, Nat.reduceBEq, ↓reduceIte, UInt8.reduceToNat, UInt16.reduceToNat, UInt32.reduceToNat, UInt64.reduceToNat, Int.reduceToNat]; rfl), ⟨hw1, trivial⟩, ?_⟩
      rw [numL_small (by omega)]; rfl
    · have d1 : decide (n < 0) = false := decide_eq_false h0
      generalize hm : clampN n = m at hk ⊢
      have hm2 : m ≤ 1099511627775 := by unfold clampN maxN at hm; omega
      by_cases h1 : n > 1099511627775
      · have d2 : decide (1099511627775 < n) = true := decide_eq_true h1
        have e : (1099511627775 : Int) = (m : Int) := by unfold clampN maxN at hm; omega
        ((try with_reducible refine Cw.go [5] ?_); (try simp (disch := (first | assumption | omega | (simp only [lenS, lenT, UInt64.reduceToNat]; try omega))) only [↓S0, S1, Try.fx, Nat.reduceAdd, Nat.reducePow, Int.reducePow, Nat.reduceBEq, ↓reduceIte, UInt8.reduceToNat, UInt16.reduceToNat, UInt32.reduceToNat, UInt64.reduceToNat, Int.reduceToNat, d1, d2]))
        rw [e]
        by_cases h2 : m < 128
        · have d3 : decide ((m : Int) < 128) = true := decide_eq_true (by omega)
          rw [numL_small h2]
          ((try with_reducible refine Cw.go [] ?_); (try simp (disch := (first | assumption | omega | (simp only [lenS, lenT, UInt64.reduceToNat]; try omega))) only [↓S0, S1, Try.fx, Nat.reduceAdd, Nat.reducePow, Int.reducePow, Nat.reduceBEq, ↓reduceIte, UInt8.reduceToNat, UInt16.reduceToNat, UInt32.reduceToNat, UInt64.reduceToNat, Int.reduceToNat, d1, d3]))
          generalize hc : UInt8.ofInt (m : Int) = c
          have hc' : c = UInt8.ofNat m := by rw [← hc, byte_int]
          refine Ow.buildSlice (e := 5) #[v8 c] rfl rfl (by kernel_rfl) fun b1 hb1 hw1 => ?_
          rw [show (#[v8 c] : Array Value) = a8 [c] from rfl]
          have e4 : List.take 1 (List.drop 0 [c]) = [c] := rfl
          refine Ow.go rfl ?_
          simp (disch := (first | assumption | omega | (simp only [lenS, lenT, UInt64.reduceToNat]; try omega))) only [↓S0, S1, Try.fx, Nat.reduceAdd, Nat.reducePow, Int.reducePow, Nat.reduceBEq, ↓reduceIte, UInt8.reduceToNat, UInt16.reduceToNat, UInt32.reduceToNat, UInt64.reduceToNat, Int.reduceToNat, e4]
          ((try with_reducible refine Cw.go [] ?_); (try simp (disch := (first | assumption | omega | (simp only [lenS, lenT, UInt64.reduceToNat]; try omega))) only [↓S0, S1, Try.fx, Nat.reduceAdd, Nat.reducePow, Int.reducePow, Nat.reduceBEq, ↓reduceIte, UInt8.reduceToNat, UInt16.reduceToNat, UInt32.reduceToNat, UInt64.reduceToNat, Int.reduceToNat]))
          refine ⟨_, (by simp (disch := (first | assumption | omega | (simp only [lenS, lenT, UInt64.reduceToNat]; try omega))) only [↓S0, S1, Try.fx, Nat.reduceAdd, Nat.reducePow, Int.reducePow, Nat.reduceBEq, ↓reduceIte, UInt8.reduceToNat, UInt16.reduceToNat, UInt32.reduceToNat, UInt64.reduceToNat, Int.reduceToNat]; rfl), ⟨hw1, trivial⟩, ?_⟩
          rw [hc']; rfl
        · have d3 : decide ((m : Int) < 128) = false := decide_eq_false (by omega)
          have ih2 := fun w => ih (m / 128) (by omega) ((m / 128 : Nat) : Int) w (by rw [clampN_nat (by omega)]; omega)
          rw [clampN_nat (by omega)] at ih2
          have hl2 := numL_len_lt 6 (m / 128) (by omega) (by omega)
          rw [numL_big h2]
          ((try with_reducible refine Cw.go [] ?_); (try simp (disch := (first | assumption | omega | (simp only [lenS, lenT, UInt64.reduceToNat]; try omega))) only [↓S0, S1, Try.fx, Nat.reduceAdd, Nat.reducePow, Int.reducePow, Nat.reduceBEq, ↓reduceIte, UInt8.reduceToNat, UInt16.reduceToNat, UInt32.reduceToNat, UInt64.reduceToNat, Int.reduceToNat, d1, d3]))
          refine Cw.regionK 11 (by kernel_rfl) (by kernel_rfl) ?_
          refine OwK.run [0, 1, 2, 3, 6, 7] [true, true, true, true, false, false, true, true, false, false, false] 5 rfl (by kernel_rfl) (by kernel_rfl) fun k hk => ?_
          simp only [nl_cons, ↓pickL_nil, ↓pickL_cons, ↓nthO_0, ↓nthO_s, consO_some]
          simp (disch := (first | assumption | omega | (simp only [lenS, lenT, UInt64.reduceToNat]; try omega))) only [↓S0, S1, Try.fx, Nat.reduceAdd, Nat.reducePow, Int.reducePow, Nat.reduceBEq, ↓reduceIte, UInt8.reduceToNat, UInt16.reduceToNat, UInt32.reduceToNat, UInt64.reduceToNat, Int.reduceToNat]
          (with_reducible refine hk _ _ _ ?_); clear hk k
          generalize hc : UInt8.ofInt ((m : Int) % 128 + 128) = c
          have hc' : c = UInt8.ofNat (m % 128 + 128) := by rw [← hc, show ((m : Int) % 128 + 128) = ((m % 128 + 128 : Nat) : Int) from rfl, byte_int]
          rw [show (m : Int) / 128 = ((m / 128 : Nat) : Int) from rfl]
          refine OwK.two 4 8 _ _ (by kernel_rfl) rfl rfl ?_ ?_
          · refine Ow.buildSlice (e := 5) #[v8 c] rfl rfl (by kernel_rfl) fun b1 hb1 hw1 => ?_
            rw [show (#[v8 c] : Array Value) = a8 [c] from rfl]
            have e4 : List.take 1 (List.drop 0 [c]) = [c] := rfl
            refine Ow.go rfl ?_
            simp (disch := (first | assumption | omega | (simp only [lenS, lenT, UInt64.reduceToNat]; try omega))) only [↓S0, S1, Try.fx, Nat.reduceAdd, Nat.reducePow, Int.reducePow, Nat.reduceBEq, ↓reduceIte, UInt8.reduceToNat, UInt16.reduceToNat, UInt32.reduceToNat, UInt64.reduceToNat, Int.reduceToNat, e4]
            try with_reducible refine Ow.nil ?_
            refine OwK.two 5 8 _ _ (by kernel_rfl) rfl rfl ?_ ?_
            · refine Ow.go rfl ?_
              simp (disch := (first | assumption | omega | (simp only [lenS, lenT, UInt64.reduceToNat]; try omega))) only [↓S0, S1, Try.fx, Nat.reduceAdd, Nat.reducePow, Int.reducePow, Nat.reduceBEq, ↓reduceIte, UInt8.reduceToNat, UInt16.reduceToNat, UInt32.reduceToNat, UInt64.reduceToNat, Int.reduceToNat, e4]
              refine OwK.rest [8, 9, 10] [4, 8] rfl (by kernel_rfl) (by kernel_rfl) ?_
              simp only [nl_cons, ↓pickL_nil, ↓pickL_cons, ↓nthO_0, ↓nthO_s, consO_some]
              refine Ow.callFV rfl Try.call39 (fun w' hw' => ih2 w') ?_
              refine Ow.go rfl ?_
              simp (disch := (first | assumption | omega | (simp only [lenS, lenT, UInt64.reduceToNat]; try omega))) only [↓S0, S1, Try.fx, Nat.reduceAdd, Nat.reducePow, Int.reducePow, Nat.reduceBEq, ↓reduceIte, UInt8.reduceToNat, UInt16.reduceToNat, UInt32.reduceToNat, UInt64.reduceToNat, Int.reduceToNat]
              ((try with_reducible refine Cw.go [] ?_); (try simp (disch := (first | assumption | omega | (simp only [lenS, lenT, UInt64.reduceToNat]; try omega))) only [↓S0, S1, Try.fx, Nat.reduceAdd, Nat.reducePow, Int.reducePow, Nat.reduceBEq, ↓reduceIte, UInt8.reduceToNat, UInt16.reduceToNat, UInt32.reduceToNat, UInt64.reduceToNat, Int.reduceToNat]))
              refine ⟨_, (by simp (disch := (first | assumption | omega | (simp only [lenS, lenT, UInt64.reduceToNat]; try omega))) only [↓S0, S1, Try.fx, Nat.reduceAdd, Nat.reducePow, Int.reducePow, Nat.reduceBEq, ↓reduceIte, UInt8.reduceToNat, UInt16.reduceToNat, UInt32.reduceToNat, UInt64.reduceToNat, Int.reduceToNat]; rfl), ⟨hw1, trivial⟩, ?_⟩
              rw [hc']; rfl
            · refine Ow.callFV rfl Try.call39 (fun w' hw' => ih2 w') ?_
              refine Ow.go rfl ?_
              simp (disch := (first | assumption | omega | (simp only [lenS, lenT, UInt64.reduceToNat]; try omega))) only [↓S0, S1, Try.fx, Nat.reduceAdd, Nat.reducePow, Int.reducePow, Nat.reduceBEq, ↓reduceIte, UInt8.reduceToNat, UInt16.reduceToNat, UInt32.reduceToNat, UInt64.reduceToNat, Int.reduceToNat]
              refine OwK.rest [5, 9, 10] [4, 8] rfl (by kernel_rfl) (by kernel_rfl) ?_
              simp only [nl_cons, ↓pickL_nil, ↓pickL_cons, ↓nthO_0, ↓nthO_s, consO_some]
              refine Ow.go rfl ?_
              simp (disch := (first | assumption | omega | (simp only [lenS, lenT, UInt64.reduceToNat]; try omega))) only [↓S0, S1, Try.fx, Nat.reduceAdd, Nat.reducePow, Int.reducePow, Nat.reduceBEq, ↓reduceIte, UInt8.reduceToNat, UInt16.reduceToNat, UInt32.reduceToNat, UInt64.reduceToNat, Int.reduceToNat, e4]
              ((try with_reducible refine Cw.go [] ?_); (try simp (disch := (first | assumption | omega | (simp only [lenS, lenT, UInt64.reduceToNat]; try omega))) only [↓S0, S1, Try.fx, Nat.reduceAdd, Nat.reducePow, Int.reducePow, Nat.reduceBEq, ↓reduceIte, UInt8.reduceToNat, UInt16.reduceToNat, UInt32.reduceToNat, UInt64.reduceToNat, Int.reduceToNat]))
              refine ⟨_, (by simp (disch := (first | assumption | omega | (simp only [lenS, lenT, UInt64.reduceToNat]; try omega))) only [↓S0, S1, Try.fx, Nat.reduceAdd, Nat.reducePow, Int.reducePow, Nat.reduceBEq, ↓reduceIte, UInt8.reduceToNat, UInt16.reduceToNat, UInt32.reduceToNat, UInt64.reduceToNat, Int.reduceToNat]; rfl), ⟨hw1, trivial⟩, ?_⟩
              rw [hc']; rfl
          · refine Ow.callFV rfl Try.call39 (fun w' hw' => ih2 w') ?_
            refine Ow.go rfl ?_
            simp (disch := (first | assumption | omega | (simp only [lenS, lenT, UInt64.reduceToNat]; try omega))) only [↓S0, S1, Try.fx, Nat.reduceAdd, Nat.reducePow, Int.reducePow, Nat.reduceBEq, ↓reduceIte, UInt8.reduceToNat, UInt16.reduceToNat, UInt32.reduceToNat, UInt64.reduceToNat, Int.reduceToNat]
            refine OwK.rest [4, 5, 9, 10] [4, 8] rfl (by kernel_rfl) (by kernel_rfl) ?_
            simp only [nl_cons, ↓pickL_nil, ↓pickL_cons, ↓nthO_0, ↓nthO_s, consO_some]
            refine Ow.buildSlice (e := 5) #[v8 c] rfl rfl (by kernel_rfl) fun b1 hb1 hw1 => ?_
            rw [show (#[v8 c] : Array Value) = a8 [c] from rfl]
            have e4 : List.take 1 (List.drop 0 [c]) = [c] := rfl
            refine Ow.go rfl ?_
            simp (disch := (first | assumption | omega | (simp only [lenS, lenT, UInt64.reduceToNat]; try omega))) only [↓S0, S1, Try.fx, Nat.reduceAdd, Nat.reducePow, Int.reducePow, Nat.reduceBEq, ↓reduceIte, UInt8.reduceToNat, UInt16.reduceToNat, UInt32.reduceToNat, UInt64.reduceToNat, Int.reduceToNat, e4]
            ((try with_reducible refine Cw.go [] ?_); (try simp (disch := (first | assumption | omega | (simp only [lenS, lenT, UInt64.reduceToNat]; try omega))) only [↓S0, S1, Try.fx, Nat.reduceAdd, Nat.reducePow, Int.reducePow, Nat.reduceBEq, ↓reduceIte, UInt8.reduceToNat, UInt16.reduceToNat, UInt32.reduceToNat, UInt64.reduceToNat, Int.reduceToNat]))
            refine ⟨_, (by simp (disch := (first | assumption | omega | (simp only [lenS, lenT, UInt64.reduceToNat]; try omega))) only [↓S0, S1, Try.fx, Nat.reduceAdd, Nat.reducePow, Int.reducePow, Nat.reduceBEq, ↓reduceIte, UInt8.reduceToNat, UInt16.reduceToNat, UInt32.reduceToNat, UInt64.reduceToNat, Int.reduceToNat]; rfl), ⟨hw1, trivial⟩, ?_⟩
            rw [hc']; rfl
      · have d2 : decide (1099511627775 < n) = false := decide_eq_false h1
        have e : n = (m : Int) := by unfold clampN maxN at hm; omega
        subst e
        ((try with_reducible refine Cw.go [5] ?_); (try simp (disch := (first | assumption | omega | (simp only [lenS, lenT, UInt64.reduceToNat]; try omega))) only [↓S0, S1, Try.fx, Nat.reduceAdd, Nat.reducePow, Int.reducePow, Nat.reduceBEq, ↓reduceIte, UInt8.reduceToNat, UInt16.reduceToNat, UInt32.reduceToNat, UInt64.reduceToNat, Int.reduceToNat, d1, d2]))
        by_cases h2 : m < 128
        · have d3 : decide ((m : Int) < 128) = true := decide_eq_true (by omega)
          rw [numL_small h2]
          ((try with_reducible refine Cw.go [] ?_); (try simp (disch := (first | assumption | omega | (simp only [lenS, lenT, UInt64.reduceToNat]; try omega))) only [↓S0, S1, Try.fx, Nat.reduceAdd, Nat.reducePow, Int.reducePow, Nat.reduceBEq, ↓reduceIte, UInt8.reduceToNat, UInt16.reduceToNat, UInt32.reduceToNat, UInt64.reduceToNat, Int.reduceToNat, d1, d3]))
          generalize hc : UInt8.ofInt (m : Int) = c
          have hc' : c = UInt8.ofNat m := by rw [← hc, byte_int]
          refine Ow.buildSlice (e := 5) #[v8 c] rfl rfl (by kernel_rfl) fun b1 hb1 hw1 => ?_
          rw [show (#[v8 c] : Array Value) = a8 [c] from rfl]
          have e4 : List.take 1 (List.drop 0 [c]) = [c] := rfl
          refine Ow.go rfl ?_
          simp (disch := (first | assumption | omega | (simp only [lenS, lenT, UInt64.reduceToNat]; try omega))) only [↓S0, S1, Try.fx, Nat.reduceAdd, Nat.reducePow, Int.reducePow, Nat.reduceBEq, ↓reduceIte, UInt8.reduceToNat, UInt16.reduceToNat, UInt32.reduceToNat, UInt64.reduceToNat, Int.reduceToNat, e4]
          ((try with_reducible refine Cw.go [] ?_); (try simp (disch := (first | assumption | omega | (simp only [lenS, lenT, UInt64.reduceToNat]; try omega))) only [↓S0, S1, Try.fx, Nat.reduceAdd, Nat.reducePow, Int.reducePow, Nat.reduceBEq, ↓reduceIte, UInt8.reduceToNat, UInt16.reduceToNat, UInt32.reduceToNat, UInt64.reduceToNat, Int.reduceToNat]))
          refine ⟨_, (by simp (disch := (first | assumption | omega | (simp only [lenS, lenT, UInt64.reduceToNat]; try omega))) only [↓S0, S1, Try.fx, Nat.reduceAdd, Nat.reducePow, Int.reducePow, Nat.reduceBEq, ↓reduceIte, UInt8.reduceToNat, UInt16.reduceToNat, UInt32.reduceToNat, UInt64.reduceToNat, Int.reduceToNat]; rfl), ⟨hw1, trivial⟩, ?_⟩
          rw [hc']; rfl
        · have d3 : decide ((m : Int) < 128) = false := decide_eq_false (by omega)
          have ih2 := fun w => ih (m / 128) (by omega) ((m / 128 : Nat) : Int) w (by rw [clampN_nat (by omega)]; omega)
          rw [clampN_nat (by omega)] at ih2
          have hl2 := numL_len_lt 6 (m / 128) (by omega) (by omega)
          rw [numL_big h2]
          ((try with_reducible refine Cw.go [] ?_); (try simp (disch := (first | assumption | omega | (simp only [lenS, lenT, UInt64.reduceToNat]; try omega))) only [↓S0, S1, Try.fx, Nat.reduceAdd, Nat.reducePow, Int.reducePow, Nat.reduceBEq, ↓reduceIte, UInt8.reduceToNat, UInt16.reduceToNat, UInt32.reduceToNat, UInt64.reduceToNat, Int.reduceToNat, d1, d3]))
          refine Cw.regionK 11 (by kernel_rfl) (by kernel_rfl) ?_
          refine OwK.run [0, 1, 2, 3, 6, 7] [true, true, true, true, false, false, true, true, false, false, false] 5 rfl (by kernel_rfl) (by kernel_rfl) fun k hk => ?_
          simp only [nl_cons, ↓pickL_nil, ↓pickL_cons, ↓nthO_0, ↓nthO_s, consO_some]
          simp (disch := (first | assumption | omega | (simp only [lenS, lenT, UInt64.reduceToNat]; try omega))) only [↓S0, S1, Try.fx, Nat.reduceAdd, Nat.reducePow, Int.reducePow, Nat.reduceBEq, ↓reduceIte, UInt8.reduceToNat, UInt16.reduceToNat, UInt32.reduceToNat, UInt64.reduceToNat, Int.reduceToNat]
          (with_reducible refine hk _ _ _ ?_); clear hk k
          generalize hc : UInt8.ofInt ((m : Int) % 128 + 128) = c
          have hc' : c = UInt8.ofNat (m % 128 + 128) := by rw [← hc, show ((m : Int) % 128 + 128) = ((m % 128 + 128 : Nat) : Int) from rfl, byte_int]
          rw [show (m : Int) / 128 = ((m / 128 : Nat) : Int) from rfl]
          refine OwK.two 4 8 _ _ (by kernel_rfl) rfl rfl ?_ ?_
          · refine Ow.buildSlice (e := 5) #[v8 c] rfl rfl (by kernel_rfl) fun b1 hb1 hw1 => ?_
            rw [show (#[v8 c] : Array Value) = a8 [c] from rfl]
            have e4 : List.take 1 (List.drop 0 [c]) = [c] := rfl
            refine Ow.go rfl ?_
            simp (disch := (first | assumption | omega | (simp only [lenS, lenT, UInt64.reduceToNat]; try omega))) only [↓S0, S1, Try.fx, Nat.reduceAdd, Nat.reducePow, Int.reducePow, Nat.reduceBEq, ↓reduceIte, UInt8.reduceToNat, UInt16.reduceToNat, UInt32.reduceToNat, UInt64.reduceToNat, Int.reduceToNat, e4]
            try with_reducible refine Ow.nil ?_
            refine OwK.two 5 8 _ _ (by kernel_rfl) rfl rfl ?_ ?_
            · refine Ow.go rfl ?_
              simp (disch := (first | assumption | omega | (simp only [lenS, lenT, UInt64.reduceToNat]; try omega))) only [↓S0, S1, Try.fx, Nat.reduceAdd, Nat.reducePow, Int.reducePow, Nat.reduceBEq, ↓reduceIte, UInt8.reduceToNat, UInt16.reduceToNat, UInt32.reduceToNat, UInt64.reduceToNat, Int.reduceToNat, e4]
              refine OwK.rest [8, 9, 10] [4, 8] rfl (by kernel_rfl) (by kernel_rfl) ?_
              simp only [nl_cons, ↓pickL_nil, ↓pickL_cons, ↓nthO_0, ↓nthO_s, consO_some]
              refine Ow.callFV rfl Try.call39 (fun w' hw' => ih2 w') ?_
              refine Ow.go rfl ?_
              simp (disch := (first | assumption | omega | (simp only [lenS, lenT, UInt64.reduceToNat]; try omega))) only [↓S0, S1, Try.fx, Nat.reduceAdd, Nat.reducePow, Int.reducePow, Nat.reduceBEq, ↓reduceIte, UInt8.reduceToNat, UInt16.reduceToNat, UInt32.reduceToNat, UInt64.reduceToNat, Int.reduceToNat]
              ((try with_reducible refine Cw.go [] ?_); (try simp (disch := (first | assumption | omega | (simp only [lenS, lenT, UInt64.reduceToNat]; try omega))) only [↓S0, S1, Try.fx, Nat.reduceAdd, Nat.reducePow, Int.reducePow, Nat.reduceBEq, ↓reduceIte, UInt8.reduceToNat, UInt16.reduceToNat, UInt32.reduceToNat, UInt64.reduceToNat, Int.reduceToNat]))
              refine ⟨_, (by simp (disch := (first | assumption | omega | (simp only [lenS, lenT, UInt64.reduceToNat]; try omega))) only [↓S0, S1, Try.fx, Nat.reduceAdd, Nat.reducePow, Int.reducePow, Nat.reduceBEq, ↓reduceIte, UInt8.reduceToNat, UInt16.reduceToNat, UInt32.reduceToNat, UInt64.reduceToNat, Int.reduceToNat]; rfl), ⟨hw1, trivial⟩, ?_⟩
              rw [hc']; rfl
            · refine Ow.callFV rfl Try.call39 (fun w' hw' => ih2 w') ?_
              refine Ow.go rfl ?_
              simp (disch := (first | assumption | omega | (simp only [lenS, lenT, UInt64.reduceToNat]; try omega))) only [↓S0, S1, Try.fx, Nat.reduceAdd, Nat.reducePow, Int.reducePow, Nat.reduceBEq, ↓reduceIte, UInt8.reduceToNat, UInt16.reduceToNat, UInt32.reduceToNat, UInt64.reduceToNat, Int.reduceToNat]
              refine OwK.rest [5, 9, 10] [4, 8] rfl (by kernel_rfl) (by kernel_rfl) ?_
              simp only [nl_cons, ↓pickL_nil, ↓pickL_cons, ↓nthO_0, ↓nthO_s, consO_some]
              refine Ow.go rfl ?_
              simp (disch := (first | assumption | omega | (simp only [lenS, lenT, UInt64.reduceToNat]; try omega))) only [↓S0, S1, Try.fx, Nat.reduceAdd, Nat.reducePow, Int.reducePow, Nat.reduceBEq, ↓reduceIte, UInt8.reduceToNat, UInt16.reduceToNat, UInt32.reduceToNat, UInt64.reduceToNat, Int.reduceToNat, e4]
              ((try with_reducible refine Cw.go [] ?_); (try simp (disch := (first | assumption | omega | (simp only [lenS, lenT, UInt64.reduceToNat]; try omega))) only [↓S0, S1, Try.fx, Nat.reduceAdd, Nat.reducePow, Int.reducePow, Nat.reduceBEq, ↓reduceIte, UInt8.reduceToNat, UInt16.reduceToNat, UInt32.reduceToNat, UInt64.reduceToNat, Int.reduceToNat]))
              refine ⟨_, (by simp (disch := (first | assumption | omega | (simp only [lenS, lenT, UInt64.reduceToNat]; try omega))) only [↓S0, S1, Try.fx, Nat.reduceAdd, Nat.reducePow, Int.reducePow, Nat.reduceBEq, ↓reduceIte, UInt8.reduceToNat, UInt16.reduceToNat, UInt32.reduceToNat, UInt64.reduceToNat, Int.reduceToNat]; rfl), ⟨hw1, trivial⟩, ?_⟩
              rw [hc']; rfl
          · refine Ow.callFV rfl Try.call39 (fun w' hw' => ih2 w') ?_
            refine Ow.go rfl ?_
            simp (disch := (first | assumption | omega | (simp only [lenS, lenT, UInt64.reduceToNat]; try omega))) only [↓S0, S1, Try.fx, Nat.reduceAdd, Nat.reducePow, Int.reducePow, Nat.reduceBEq, ↓reduceIte, UInt8.reduceToNat, UInt16.reduceToNat, UInt32.reduceToNat, UInt64.reduceToNat, Int.reduceToNat]
            refine OwK.rest [4, 5, 9, 10] [4, 8] rfl (by kernel_rfl) (by kernel_rfl) ?_
            simp only [nl_cons, ↓pickL_nil, ↓pickL_cons, ↓nthO_0, ↓nthO_s, consO_some]
            refine Ow.buildSlice (e := 5) #[v8 c] rfl rfl (by kernel_rfl) fun b1 hb1 hw1 => ?_
            rw [show (#[v8 c] : Array Value) = a8 [c] from rfl]
            have e4 : List.take 1 (List.drop 0 [c]) = [c] := rfl
            refine Ow.go rfl ?_
            simp (disch := (first | assumption | omega | (simp only [lenS, lenT, UInt64.reduceToNat]; try omega))) only [↓S0, S1, Try.fx, Nat.reduceAdd, Nat.reducePow, Int.reducePow, Nat.reduceBEq, ↓reduceIte, UInt8.reduceToNat, UInt16.reduceToNat, UInt32.reduceToNat, UInt64.reduceToNat, Int.reduceToNat, e4]
            ((try with_reducible refine Cw.go [] ?_); (try simp (disch := (first | assumption | omega | (simp only [lenS, lenT, UInt64.reduceToNat]; try omega))) only [↓S0, S1, Try.fx, Nat.reduceAdd, Nat.reducePow, Int.reducePow, Nat.reduceBEq, ↓reduceIte, UInt8.reduceToNat, UInt16.reduceToNat, UInt32.reduceToNat, UInt64.reduceToNat, Int.reduceToNat]))
            refine ⟨_, (by simp (disch := (first | assumption | omega | (simp only [lenS, lenT, UInt64.reduceToNat]; try omega))) only [↓S0, S1, Try.fx, Nat.reduceAdd, Nat.reducePow, Int.reducePow, Nat.reduceBEq, ↓reduceIte, UInt8.reduceToNat, UInt16.reduceToNat, UInt32.reduceToNat, UInt64.reduceToNat, Int.reduceToNat]; rfl), ⟨hw1, trivial⟩, ?_⟩
            rw [hc']; rfl
theorem TextR_spec (s : List UInt8) (w : World) (hs : s.length < 1099511627776) :
    Rets Try.prog 40 #[vs s] w (fun v D => v = vs (textL s) ∧ D = []) := by
  have hnl := numL_clamp_len (s.length : Int)
  refine Rets.enterV Try.func40 rfl (rs := [.tmp 2]) Try.results40 Try.ntmps40 ?_
  simp only [List.size_toArray, List.length_cons, List.length_nil, Nat.reduceAdd, Nat.reduceSub, List.replicate_succ, List.replicate_zero, List.cons_append, List.nil_append]
  ((try with_reducible refine Cw.go [] ?_); (try simp (disch := (first | assumption | omega | (simp only [lenS, lenT, UInt64.reduceToNat]; try omega))) only [↓S0, S1, Try.fx, Nat.reduceAdd, Nat.reducePow, Int.reducePow, Nat.reduceBEq, ↓reduceIte, UInt8.reduceToNat, UInt16.reduceToNat, UInt32.reduceToNat, UInt64.reduceToNat, Int.reduceToNat]))
  refine Ow.callFV rfl Try.call39 (fun w' hw' => NumberR_spec _ _ w' (Nat.le_refl _)) ?_
  refine Ow.go rfl ?_
  simp (disch := (first | assumption | omega | (simp only [lenS, lenT, UInt64.reduceToNat]; try omega))) only [↓S0, S1, Try.fx, Nat.reduceAdd, Nat.reducePow, Int.reducePow, Nat.reduceBEq, ↓reduceIte, UInt8.reduceToNat, UInt16.reduceToNat, UInt32.reduceToNat, UInt64.reduceToNat, Int.reduceToNat]
  ((try with_reducible refine Cw.go [] ?_); (try simp (disch := (first | assumption | omega | (simp only [lenS, lenT, UInt64.reduceToNat]; try omega))) only [↓S0, S1, Try.fx, Nat.reduceAdd, Nat.reducePow, Int.reducePow, Nat.reduceBEq, ↓reduceIte, UInt8.reduceToNat, UInt16.reduceToNat, UInt32.reduceToNat, UInt64.reduceToNat, Int.reduceToNat]))
  refine ⟨_, (by simp (disch := (first | assumption | omega | (simp only [lenS, lenT, UInt64.reduceToNat]; try omega))) only [↓S0, S1, Try.fx, Nat.reduceAdd, Nat.reducePow, Int.reducePow, Nat.reduceBEq, ↓reduceIte, UInt8.reduceToNat, UInt16.reduceToNat, UInt32.reduceToNat, UInt64.reduceToNat, Int.reduceToNat]; rfl), trivial, ?_⟩
  rfl
theorem IdR_spec (x : IdL) (w : World) :
    Rets Try.prog 41 #[.agg (a8 x.l)] w (fun v D => v = vs x.l ∧ D = []) := by
  have hxl := x.h
  refine Rets.enterV Try.func41 rfl (rs := [.tmp 2]) Try.results41 Try.ntmps41 ?_
  simp only [List.size_toArray, List.length_cons, List.length_nil, Nat.reduceAdd, Nat.reduceSub, List.replicate_succ, List.replicate_zero, List.cons_append, List.nil_append]
  ((try with_reducible refine Cw.go [] ?_); (try simp (disch := (first | assumption | omega | (simp only [lenS, lenT, UInt64.reduceToNat]; try omega))) only [↓S0, S1, Try.fx, Nat.reduceAdd, Nat.reducePow, Int.reducePow, Nat.reduceBEq, ↓reduceIte, UInt8.reduceToNat, UInt16.reduceToNat, UInt32.reduceToNat, UInt64.reduceToNat, Int.reduceToNat]))
  refine Ow.box rfl rfl fun bx hbx hwx => ?_
  simp only [ev_tmp, getF_0, getF_s, cells_agg, List.nil_append, List.cons_append]
  refine Ow.go rfl ?_
  simp (disch := (first | assumption | omega | (simp only [lenS, lenT, UInt64.reduceToNat]; try omega))) only [↓S0, S1, Try.fx, Nat.reduceAdd, Nat.reducePow, Int.reducePow, Nat.reduceBEq, ↓reduceIte, UInt8.reduceToNat, UInt16.reduceToNat, UInt32.reduceToNat, UInt64.reduceToNat, Int.reduceToNat]
  have e4 : List.take 32 (List.drop 0 x.l) = x.l := by rw [List.drop_zero, List.take_of_length_le (by omega)]
  ((try with_reducible refine Cw.go [] ?_); (try simp (disch := (first | assumption | omega | (simp only [lenS, lenT, UInt64.reduceToNat]; try omega))) only [↓S0, S1, Try.fx, Nat.reduceAdd, Nat.reducePow, Int.reducePow, Nat.reduceBEq, ↓reduceIte, UInt8.reduceToNat, UInt16.reduceToNat, UInt32.reduceToNat, UInt64.reduceToNat, Int.reduceToNat, e4]))
  refine ⟨_, (by simp (disch := (first | assumption | omega | (simp only [lenS, lenT, UInt64.reduceToNat]; try omega))) only [↓S0, S1, Try.fx, Nat.reduceAdd, Nat.reducePow, Int.reducePow, Nat.reduceBEq, ↓reduceIte, UInt8.reduceToNat, UInt16.reduceToNat, UInt32.reduceToNat, UInt64.reduceToNat, Int.reduceToNat]; rfl), ⟨hwx, trivial⟩, ?_⟩
  rfl
end Go.Proofs
end
section
open Go Go.Proofs Go.Sx Go.StP
namespace Go.Proofs
set_option maxRecDepth 10000
set_option maxHeartbeats 400000
set_option linter.unusedSimpArgs false
set_option linter.defProp false
def uOQ_1 := And.intro (And.intro (And.intro (@load_ent0) (@load_ent1)) (And.intro (@load_ent2) (@load_ent))) (And.intro (And.intro (@store_entr) (@cells_ent)) (And.intro (@rdIn_v8) (@rdIn_vi)))
/-- The bytes of an entry and of a tree. -/
def entB (e : EntL) : List UInt8 := (numL (clampN e.kind) ++ textL e.name) ++ e.id.l
def treeB (l : List EntL) : List UInt8 := (l.map entB).flatten
theorem treeB_snoc {l : List EntL} {k : Nat} (hk : k < l.length) : treeB (l.take (k + 1)) = treeB (l.take k) ++ entB (l.getD k ent0) := by
  unfold treeB
  rw [List.take_succ_eq_append_getElem hk, List.map_append, List.flatten_append, List.getD_eq_getElem?_getD, List.getElem?_eq_getElem hk]
  simp
theorem treeB_snoc' {l : List EntL} {k : Nat} (hk : k < l.length) : treeB (l.take (k + 1)) = treeB (l.take k) ++ numL (clampN (l.getD k ent0).kind) ++ textL (l.getD k ent0).name ++ (l.getD k ent0).id.l := by
  rw [treeB_snoc hk]; simp only [entB, List.append_assoc]
theorem textL_len {s : List UInt8} (h : s.length < 1099511627776) : (textL s).length < 1099511627783 := by
  have := numL_clamp_len (s.length : Int)
  unfold textL; rw [List.length_append]; omega
theorem treeB_len {l : List EntL} (hsh : ShortE l) : ∀ k, k ≤ l.length → (treeB (l.take k)).length ≤ k * 1099511627830
  | 0, _ => by simp [treeB]
  | k + 1, hk => by
    have ih := treeB_len hsh k (by omega)
    have h1 := textL_len (hsh k hk)
    have h2 := numL_clamp_len (l.getD k ent0).kind
    have h3 := (l.getD k ent0).id.h
    rw [treeB_snoc hk]
    unfold entB
    simp only [List.length_append]
    omega
theorem TreeBody_spec (v : Value) (l : List EntL) (w : World) (hv : EntS w v l) (hl : l.length < 1000000) (hsh : ShortE l) :
    Rets Try.prog 15 #[v] w (fun v' D => v' = vs (treeB l) ∧ D = []) := by
  obtain ⟨b, off, arr, E, fz, hr⟩ := hv.row
  have ln := hv.len
  refine Rets.enterV Try.func15 rfl (rs := [.tmp 2]) Try.results15 Try.ntmps15 ?_
  simp only [List.size_toArray, List.length_cons, List.length_nil, Nat.reduceAdd, Nat.reduceSub, List.replicate_succ, List.replicate_zero, List.cons_append, List.nil_append]
  ((try with_reducible refine Cw.go [] ?_); (try simp (disch := (first | assumption | omega | (simp only [lenS, lenT, UInt64.reduceToNat]; try omega))) only [↓S0, S1, Try.fx, uOQ_1, Nat.reduceAdd, Nat.reducePow, Int.reducePow, Nat.reduceBEq, ↓reduceIte, UInt8.reduceToNat, UInt16.reduceToNat, UInt32.reduceToNat, UInt64.reduceToNat, Int.reduceToNat, ln]))
  refine Cw.loopG (G := Nat) [5, 6, 7, 8, 11, 12, 13, 14, 15, 16, 17, 18, 19, 20, 21, 22, 23, 24, 25, 26, 27, 28, 29, 30, 31, 32, 3, 9, 10, 4] (fun g => [(3, vs (treeB (l.take g))), (4, vi g)]) (fun g => []) (fun g => g ≤ l.length) (fun g => l.length - g) 0 rfl rfl ?_ ?_
  · exact Nat.zero_le _
  · intro k jk hk
    simp only [overFrom, pin, setF_0, setF_s, List.contains_cons, List.contains_nil, Nat.reduceBEq, Bool.or_false, Bool.false_or, Bool.or_true, Bool.true_or, Nat.reduceAdd, ↓reduceIte, Bool.false_eq_true]
    have h1 : k ≤ l.length := hk
    clear hk
    by_cases hk : k < l.length
    · have h0 : 0 < l.length := by omega
      have hbl := hr.lt h0
      have r2 := hr.has h0
      have i2 := hr.idx true k hk
      have m0 : ∀ n, loadV (some (false, n)) (some (.cells arr E fz)) (off + k * 34) = some (vs (l.getD k ent0).name) := fun n => row_ent0 hr hk n
      have m1 : ∀ n, loadV (some (false, n)) (some (.cells arr E fz)) (off + k * 34 + 1) = some (vi (l.getD k ent0).kind) := fun n => row_ent1 hr hk n
      have m2 : loadV (some (true, 32)) (some (.cells arr E fz)) (off + k * 34 + 2) = some (.agg (a8 (l.getD k ent0).id.l)) := row_ent2 hr hk
      have hs := hsh k hk
      have t1 := treeB_len hsh k h1
      have t2 := textL_len hs
      have t3 := numL_clamp_len (l.getD k ent0).kind
      have t4 := (l.getD k ent0).id.h
      ((try with_reducible refine Cw.go [] ?_); (try simp (disch := (first | assumption | omega | (simp only [lenS, lenT, UInt64.reduceToNat]; try omega))) only [↓S0, S1, Try.fx, uOQ_1, Nat.reduceAdd, Nat.reducePow, Int.reducePow, Nat.reduceBEq, ↓reduceIte, UInt8.reduceToNat, UInt16.reduceToNat, UInt32.reduceToNat, UInt64.reduceToNat, Int.reduceToNat, ln]))
      refine Cw.regionS [b] [0, 1, 2, 3, 4, 8, 9, 10, 11, 15, 16, 17, 18, 5, 12, 19, 6, 7, 13, 14, 20, 21, 22] [] (by kernel_rfl) (by kernel_rfl) (by kernel_rfl) ?_
      simp only [nl_cons, ↓pickL_nil, ↓pickL_cons, ↓nthO_0, ↓nthO_s, consO_some]
      refine Ow.goQ ?_
      simp (disch := (first | assumption | omega | (simp only [lenS, lenT, UInt64.reduceToNat]; try omega))) only [↓S0, S1, Try.fx, uOQ_1, Nat.reduceAdd, Nat.reducePow, Int.reducePow, Nat.reduceBEq, ↓reduceIte, UInt8.reduceToNat, UInt16.reduceToNat, UInt32.reduceToNat, UInt64.reduceToNat, Int.reduceToNat, r2, i2, m0, m1, m2]
      refine Ow.callFV rfl Try.call39 (fun w' hw' => NumberR_spec _ _ w' (Nat.le_refl _)) ?_
      refine Ow.goQ ?_
      simp (disch := (first | assumption | omega | (simp only [lenS, lenT, UInt64.reduceToNat]; try omega))) only [↓S0, S1, Try.fx, uOQ_1, Nat.reduceAdd, Nat.reducePow, Int.reducePow, Nat.reduceBEq, ↓reduceIte, UInt8.reduceToNat, UInt16.reduceToNat, UInt32.reduceToNat, UInt64.reduceToNat, Int.reduceToNat, r2, i2, m0, m1, m2]
      refine Ow.callFV rfl Try.call40 (fun w' hw' => TextR_spec _ w' hs) ?_
      refine Ow.goQ ?_
      simp (disch := (first | assumption | omega | (simp only [lenS, lenT, UInt64.reduceToNat]; try omega))) only [↓S0, S1, Try.fx, uOQ_1, Nat.reduceAdd, Nat.reducePow, Int.reducePow, Nat.reduceBEq, ↓reduceIte, UInt8.reduceToNat, UInt16.reduceToNat, UInt32.reduceToNat, UInt64.reduceToNat, Int.reduceToNat, r2, i2, m0, m1, m2]
      refine Ow.callFV rfl Try.call41 (fun w' hw' => IdR_spec _ w') ?_
      refine Ow.goQ ?_
      simp (disch := (first | assumption | omega | (simp only [lenS, lenT, UInt64.reduceToNat]; try omega))) only [↓S0, S1, Try.fx, uOQ_1, Nat.reduceAdd, Nat.reducePow, Int.reducePow, Nat.reduceBEq, ↓reduceIte, UInt8.reduceToNat, UInt16.reduceToNat, UInt32.reduceToNat, UInt64.reduceToNat, Int.reduceToNat, r2, i2, m0, m1, m2]
      exact Again.mk (k + 1) (by omega) (by omega) rfl (by rw [treeB_snoc' hk]; rfl)
    · obtain rfl : k = l.length := by omega
      ((try with_reducible refine Cw.go [] ?_); (try simp (disch := (first | assumption | omega | (simp only [lenS, lenT, UInt64.reduceToNat]; try omega))) only [↓S0, S1, Try.fx, uOQ_1, Nat.reduceAdd, Nat.reducePow, Int.reducePow, Nat.reduceBEq, ↓reduceIte, UInt8.reduceToNat, UInt16.reduceToNat, UInt32.reduceToNat, UInt64.reduceToNat, Int.reduceToNat, ln]))
      refine ⟨_, (by simp (disch := (first | assumption | omega | (simp only [lenS, lenT, UInt64.reduceToNat]; try omega))) only [↓S0, S1, Try.fx, uOQ_1, Nat.reduceAdd, Nat.reducePow, Int.reducePow, Nat.reduceBEq, ↓reduceIte, UInt8.reduceToNat, UInt16.reduceToNat, UInt32.reduceToNat, UInt64.reduceToNat, Int.reduceToNat]; rfl), trivial, ?_⟩
      rw [List.take_length]; rfl
/-- The bytes of a commit. -/
def idsB (l : List IdL) : List UInt8 := (l.map IdL.l).flatten
theorem idsB_snoc {l : List IdL} {k : Nat} (hk : k < l.length) : idsB (l.take (k + 1)) = idsB (l.take k) ++ (l.getD k id0).l := by
  unfold idsB
  rw [List.take_succ_eq_append_getElem hk, List.map_append, List.flatten_append, List.getD_eq_getElem?_getD, List.getElem?_eq_getElem hk]
  simp
theorem idsB_len : ∀ (l : List IdL), (idsB l).length = l.length * 32
  | [] => rfl
  | x :: r => by
    have h := idsB_len r
    have := x.h
    unfold idsB at h ⊢
    rw [List.map_cons, List.flatten_cons, List.length_append, h, List.length_cons]
    omega
def comHd (c : ComL) : List UInt8 := c.tree.l ++ numL (clampN c.par.length)
def comB (c : ComL) : List UInt8 := comHd c ++ idsB c.par ++ textL c.text
set_option linter.defProp false
def uOQ_2 := And.intro (And.intro (And.intro (@eqIdA) (@neIdA)) (And.intro (@load_idb) (And.intro (@rdIn_v8) (@rdIn_vi)))) (And.intro (And.intro (@load_com0) (@load_com1)) (And.intro (@load_com2) (And.intro (@load_com) (@cells_com))))
theorem CommitBody_spec (v : Value) (c : ComL) (w : World) (hv : ComS w v c) (hl : c.par.length < 1000000) (ht : c.text.length < 1099511627776) :
    Rets Try.prog 17 #[v] w (fun v' D => v' = vs (comB c) ∧ D = []) := by
  obtain ⟨p, rfl, hp⟩ := hv
  obtain ⟨b, off, arr, E, fz, hr⟩ := hp.row
  have ln := hp.len
  have t2 := textL_len ht
  have t3 := numL_clamp_len (c.par.length : Int)
  have t4 := c.tree.h
  have t5 : (comHd c).length ≤ 38 := by unfold comHd; rw [List.length_append]; omega
  refine Rets.enterV Try.func17 rfl (rs := [.tmp 2]) Try.results17 Try.ntmps17 ?_
  simp only [List.size_toArray, List.length_cons, List.length_nil, Nat.reduceAdd, Nat.reduceSub, List.replicate_succ, List.replicate_zero, List.cons_append, List.nil_append]
  ((try with_reducible refine Cw.go [] ?_); (try simp (disch := (first | assumption | omega | (simp only [lenS, lenT, UInt64.reduceToNat]; try omega))) only [↓S0, S1, Try.fx, uOQ_2, Nat.reduceAdd, Nat.reducePow, Int.reducePow, Nat.reduceBEq, ↓reduceIte, UInt8.reduceToNat, UInt16.reduceToNat, UInt32.reduceToNat, UInt64.reduceToNat, Int.reduceToNat]))
  refine Ow.box rfl rfl fun bx hbx hwx => ?_
  simp only [ev_tmp, getF_0, getF_s, cells_agg, List.nil_append, List.cons_append]
  refine Ow.go rfl ?_
  simp (disch := (first | assumption | omega | (simp only [lenS, lenT, UInt64.reduceToNat]; try omega))) only [↓S0, S1, Try.fx, uOQ_2, Nat.reduceAdd, Nat.reducePow, Int.reducePow, Nat.reduceBEq, ↓reduceIte, UInt8.reduceToNat, UInt16.reduceToNat, UInt32.reduceToNat, UInt64.reduceToNat, Int.reduceToNat]
  ((try with_reducible refine Cw.go [] ?_); (try simp (disch := (first | assumption | omega | (simp only [lenS, lenT, UInt64.reduceToNat]; try omega))) only [↓S0, S1, Try.fx, uOQ_2, Nat.reduceAdd, Nat.reducePow, Int.reducePow, Nat.reduceBEq, ↓reduceIte, UInt8.reduceToNat, UInt16.reduceToNat, UInt32.reduceToNat, UInt64.reduceToNat, Int.reduceToNat, ln]))
  refine Cw.regionS [bx] [0, 3, 1, 4, 5, 2, 6, 7, 8] [] (by kernel_rfl) (by kernel_rfl) (by kernel_rfl) ?_
  simp only [nl_cons, ↓pickL_nil, ↓pickL_cons, ↓nthO_0, ↓nthO_s, consO_some]
  refine Ow.goQ ?_
  simp (disch := (first | assumption | omega | (simp only [lenS, lenT, UInt64.reduceToNat]; try omega))) only [↓S0, S1, Try.fx, uOQ_2, Nat.reduceAdd, Nat.reducePow, Int.reducePow, Nat.reduceBEq, ↓reduceIte, UInt8.reduceToNat, UInt16.reduceToNat, UInt32.reduceToNat, UInt64.reduceToNat, Int.reduceToNat, ln]
  refine Ow.callFV rfl Try.call41 (fun w' hw' => IdR_spec _ w') ?_
  refine Ow.goQ ?_
  simp (disch := (first | assumption | omega | (simp only [lenS, lenT, UInt64.reduceToNat]; try omega))) only [↓S0, S1, Try.fx, uOQ_2, Nat.reduceAdd, Nat.reducePow, Int.reducePow, Nat.reduceBEq, ↓reduceIte, UInt8.reduceToNat, UInt16.reduceToNat, UInt32.reduceToNat, UInt64.reduceToNat, Int.reduceToNat, ln]
  refine Ow.callFV rfl Try.call39 (fun w' hw' => NumberR_spec _ _ w' (Nat.le_refl _)) ?_
  refine Ow.goQ ?_
  simp (disch := (first | assumption | omega | (simp only [lenS, lenT, UInt64.reduceToNat]; try omega))) only [↓S0, S1, Try.fx, uOQ_2, Nat.reduceAdd, Nat.reducePow, Int.reducePow, Nat.reduceBEq, ↓reduceIte, UInt8.reduceToNat, UInt16.reduceToNat, UInt32.reduceToNat, UInt64.reduceToNat, Int.reduceToNat, ln]
  rw [show c.tree.l ++ numL (clampN c.par.length) = comHd c ++ idsB (c.par.take 0) by simp [comHd, idsB]]
  refine Cw.loopG (G := Nat) [13, 14, 15, 16, 17, 20, 21, 22, 23, 24, 25, 26, 27, 3, 18, 19, 4] (fun g => [(3, vs (comHd c ++ idsB (c.par.take g))), (4, vi g)]) (fun g => [(bx, .cells (comC c.tree p c.text).toArray 27 (0, 0))]) (fun g => g ≤ c.par.length) (fun g => c.par.length - g) 0 rfl rfl ?_ ?_
  · exact Nat.zero_le _
  · intro k jk hk
    simp only [overFrom, pin, setF_0, setF_s, List.contains_cons, List.contains_nil, Nat.reduceBEq, Bool.or_false, Bool.false_or, Bool.or_true, Bool.true_or, Nat.reduceAdd, ↓reduceIte, Bool.false_eq_true]
    have h1 : k ≤ c.par.length := hk
    clear hk
    have t6 := idsB_len (c.par.take k)
    rw [List.length_take, Nat.min_eq_left h1] at t6
    by_cases hk : k < c.par.length
    · have h0 : 0 < c.par.length := by omega
      have hbl := hr.lt h0
      have hnb : bx ≠ b := by omega
      have r2 := hr.has h0
      have i2 := hr.idx true k hk
      have l2 := row_id hr hk
      have hxl := (c.par.getD k id0).h
      ((try with_reducible refine Cw.go [] ?_); (try simp (disch := (first | assumption | omega | (simp only [lenS, lenT, UInt64.reduceToNat]; try omega))) only [↓S0, S1, Try.fx, uOQ_2, Nat.reduceAdd, Nat.reducePow, Int.reducePow, Nat.reduceBEq, ↓reduceIte, UInt8.reduceToNat, UInt16.reduceToNat, UInt32.reduceToNat, UInt64.reduceToNat, Int.reduceToNat, ln, r2, i2, l2]))
      refine Ow.callFV rfl Try.call41 (fun w' hw' => IdR_spec _ w') ?_
      refine Ow.go rfl ?_
      simp (disch := (first | assumption | omega | (simp only [lenS, lenT, UInt64.reduceToNat]; try omega))) only [↓S0, S1, Try.fx, uOQ_2, Nat.reduceAdd, Nat.reducePow, Int.reducePow, Nat.reduceBEq, ↓reduceIte, UInt8.reduceToNat, UInt16.reduceToNat, UInt32.reduceToNat, UInt64.reduceToNat, Int.reduceToNat, ln, r2, i2, l2]
      exact Again.mk (k + 1) (by omega) (by omega) rfl (by rw [idsB_snoc hk, ← List.append_assoc]; rfl)
    · obtain rfl : k = c.par.length := by omega
      rw [List.take_length]
      rw [List.take_length] at t6
      ((try with_reducible refine Cw.go [] ?_); (try simp (disch := (first | assumption | omega | (simp only [lenS, lenT, UInt64.reduceToNat]; try omega))) only [↓S0, S1, Try.fx, uOQ_2, Nat.reduceAdd, Nat.reducePow, Int.reducePow, Nat.reduceBEq, ↓reduceIte, UInt8.reduceToNat, UInt16.reduceToNat, UInt32.reduceToNat, UInt64.reduceToNat, Int.reduceToNat, ln]))
      refine Ow.callFV rfl Try.call40 (fun w' hw' => TextR_spec _ w' ht) ?_
      refine Ow.go rfl ?_
      simp (disch := (first | assumption | omega | (simp only [lenS, lenT, UInt64.reduceToNat]; try omega))) only [↓S0, S1, Try.fx, uOQ_2, Nat.reduceAdd, Nat.reducePow, Int.reducePow, Nat.reduceBEq, ↓reduceIte, UInt8.reduceToNat, UInt16.reduceToNat, UInt32.reduceToNat, UInt64.reduceToNat, Int.reduceToNat]
      refine ⟨_, (by simp (disch := (first | assumption | omega | (simp only [lenS, lenT, UInt64.reduceToNat]; try omega))) only [↓S0, S1, Try.fx, uOQ_2, Nat.reduceAdd, Nat.reducePow, Int.reducePow, Nat.reduceBEq, ↓reduceIte, UInt8.reduceToNat, UInt16.reduceToNat, UInt32.reduceToNat, UInt64.reduceToNat, Int.reduceToNat]; rfl), ⟨hwx, trivial⟩, ?_⟩
      rfl
end Go.Proofs
end
section
open Go Go.Proofs Go.Sx Go.StP
namespace Go.Proofs
set_option maxRecDepth 10000
set_option maxHeartbeats 400000
set_option linter.unusedSimpArgs false
instance : DecidableEq EntL := fun a b => if h : a.name = b.name ∧ a.kind = b.kind ∧ a.id.l = b.id.l then .isTrue (by cases a; cases b; simp only at h; obtain ⟨rfl, rfl, h3⟩ := h; rw [IdL.ext' h3]) else .isFalse (fun e => h (by rw [e]; exact ⟨rfl, rfl, rfl⟩))
theorem EntL.ext' {a b : EntL} (h : (a.name == b.name && a.kind == b.kind && a.id.l == b.id.l) = true) : a = b := by
  simp only [Bool.and_eq_true, beq_iff_eq] at h
  cases a; cases b; simp only at h; obtain ⟨⟨rfl, rfl⟩, h3⟩ := h; rw [IdL.ext' h3]
set_option linter.defProp false
def uOR_1 := And.intro (And.intro (And.intro (@load_ent0) (@load_ent1)) (And.intro (@load_ent2) (@load_ent))) (And.intro (And.intro (@store_entr) (@cells_ent)) (And.intro (@rdIn_v8) (And.intro (@rdIn_vi) (@neEnt))))
theorem SameEntries_spec (v1 v2 : Value) (l1 l2 : List EntL) (w : World) (hv1 : EntS w v1 l1) (hv2 : EntS w v2 l2) (hl1 : l1.length < 1000000) (_hl2 : l2.length < 1000000) :
    Rets Try.prog 18 #[v1, v2] w (fun v' D => v' = .bool (decide (l1 = l2)) ∧ D = []) := by
  obtain ⟨b1, off1, arr1, E1, fz1, hr1⟩ := hv1.row
  obtain ⟨b2, off2, arr2, E2, fz2, hr2⟩ := hv2.row
  have ln1 := hv1.len
  have ln2 := hv2.len
  refine Rets.enterV Try.func18 rfl (rs := [.tmp 4]) Try.results18 Try.ntmps18 ?_
  simp only [List.size_toArray, List.length_cons, List.length_nil, Nat.reduceAdd, Nat.reduceSub, List.replicate_succ, List.replicate_zero, List.cons_append, List.nil_append]
  by_cases hl : l1.length = l2.length
  · ((try with_reducible refine Cw.go [] ?_); (try simp (disch := (first | assumption | omega | (simp only [lenS, lenT, UInt64.reduceToNat]; try omega))) only [↓S0, S1, Try.fx, uOR_1, Nat.reduceAdd, Nat.reducePow, Int.reducePow, Nat.reduceBEq, ↓reduceIte, UInt8.reduceToNat, UInt16.reduceToNat, UInt32.reduceToNat, UInt64.reduceToNat, Int.reduceToNat, ln1, ln2]))
    refine Cw.loopG (G := Nat) [11, 12, 13, 14, 17, 18, 19, 20, 21, 22, 23, 24, 25, 4, 15, 16, 5] (fun g => [(5, vi g)]) (fun g => []) (fun g => g ≤ l1.length ∧ l1.take g = l2.take g) (fun g => l1.length - g) 0 rfl rfl ?_ ?_
    · exact ⟨Nat.zero_le _, rfl⟩
    · intro k jk hk
      simp only [overFrom, pin, setF_0, setF_s, List.contains_cons, List.contains_nil, Nat.reduceBEq, Bool.or_false, Bool.false_or, Bool.or_true, Bool.true_or, Nat.reduceAdd, ↓reduceIte, Bool.false_eq_true]
      obtain ⟨h1, h2⟩ := hk
      by_cases hk : k < l1.length
      · have h0 : 0 < l1.length := by omega
        have ra := hr1.has h0
        have rb := hr2.has (show 0 < l2.length by omega)
        have ia := hr1.idx true k hk
        have ib := hr2.idx true k (show k < l2.length by omega)
        have la := row_ent hr1 hk
        have lb := row_ent hr2 (show k < l2.length by omega)
        ((try with_reducible refine Cw.go [] ?_); (try simp (disch := (first | assumption | omega | (simp only [lenS, lenT, UInt64.reduceToNat]; try omega))) only [↓S0, S1, Try.fx, uOR_1, Nat.reduceAdd, Nat.reducePow, Int.reducePow, Nat.reduceBEq, ↓reduceIte, UInt8.reduceToNat, UInt16.reduceToNat, UInt32.reduceToNat, UInt64.reduceToNat, Int.reduceToNat, ln1]))
        refine Cw.regionS [b1, b2] [0, 1, 2, 4, 5, 6, 3, 7, 8] [] (by kernel_rfl) (by kernel_rfl) (by kernel_rfl) ?_
        simp only [nl_cons, ↓pickL_nil, ↓pickL_cons, ↓nthO_0, ↓nthO_s, consO_some]
        refine Ow.goQ ?_
        simp (disch := (first | assumption | omega | (simp only [lenS, lenT, UInt64.reduceToNat]; try omega))) only [↓S0, S1, Try.fx, uOR_1, Nat.reduceAdd, Nat.reducePow, Int.reducePow, Nat.reduceBEq, ↓reduceIte, UInt8.reduceToNat, UInt16.reduceToNat, UInt32.reduceToNat, UInt64.reduceToNat, Int.reduceToNat, ra, rb, ia, ib, la, lb]
        cases hq : ((l1.getD k ent0).name == (l2.getD k ent0).name && (l1.getD k ent0).kind == (l2.getD k ent0).kind && (l1.getD k ent0).id.l == (l2.getD k ent0).id.l)
        · have : decide (l1 = l2) = false := decide_eq_false (fun e => by rw [e] at hq; simp at hq)
          rw [this]
          ((try with_reducible refine Cw.go [] ?_); (try simp (disch := (first | assumption | omega | (simp only [lenS, lenT, UInt64.reduceToNat]; try omega))) only [↓S0, S1, Try.fx, uOR_1, Nat.reduceAdd, Nat.reducePow, Int.reducePow, Nat.reduceBEq, ↓reduceIte, UInt8.reduceToNat, UInt16.reduceToNat, UInt32.reduceToNat, UInt64.reduceToNat, Int.reduceToNat, hq]))
          refine ⟨_, (by simp (disch := (first | assumption | omega | (simp only [lenS, lenT, UInt64.reduceToNat]; try omega))) only [↓S0, S1, Try.fx, uOR_1, Nat.reduceAdd, Nat.reducePow, Int.reducePow, Nat.reduceBEq, ↓reduceIte, UInt8.reduceToNat, UInt16.reduceToNat, UInt32.reduceToNat, UInt64.reduceToNat, Int.reduceToNat]; rfl), trivial, ?_⟩
          rfl
        · ((try with_reducible refine Cw.go [] ?_); (try simp (disch := (first | assumption | omega | (simp only [lenS, lenT, UInt64.reduceToNat]; try omega))) only [↓S0, S1, Try.fx, uOR_1, Nat.reduceAdd, Nat.reducePow, Int.reducePow, Nat.reduceBEq, ↓reduceIte, UInt8.reduceToNat, UInt16.reduceToNat, UInt32.reduceToNat, UInt64.reduceToNat, Int.reduceToNat, hq]))
          refine Again.mk (k + 1) (by omega) ⟨hk, ?_⟩ rfl rfl
          have e : l1.getD k ent0 = l2.getD k ent0 := EntL.ext' (by simpa using hq)
          rw [take_snoc (z := ent0) hk, take_snoc (z := ent0) (show k < l2.length by omega), h2, e]
      · obtain rfl : k = l1.length := by omega
        have : l1 = l2 := by rw [List.take_length, hl, List.take_length] at h2; exact h2
        rw [decide_eq_true this]
        ((try with_reducible refine Cw.go [] ?_); (try simp (disch := (first | assumption | omega | (simp only [lenS, lenT, UInt64.reduceToNat]; try omega))) only [↓S0, S1, Try.fx, uOR_1, Nat.reduceAdd, Nat.reducePow, Int.reducePow, Nat.reduceBEq, ↓reduceIte, UInt8.reduceToNat, UInt16.reduceToNat, UInt32.reduceToNat, UInt64.reduceToNat, Int.reduceToNat, ln1]))
        refine ⟨_, (by simp (disch := (first | assumption | omega | (simp only [lenS, lenT, UInt64.reduceToNat]; try omega))) only [↓S0, S1, Try.fx, uOR_1, Nat.reduceAdd, Nat.reducePow, Int.reducePow, Nat.reduceBEq, ↓reduceIte, UInt8.reduceToNat, UInt16.reduceToNat, UInt32.reduceToNat, UInt64.reduceToNat, Int.reduceToNat]; rfl), trivial, ?_⟩
        rfl
  · have : decide (l1 = l2) = false := decide_eq_false (fun e => hl (by rw [e]))
    rw [this]
    ((try with_reducible refine Cw.go [] ?_); (try simp (disch := (first | assumption | omega | (simp only [lenS, lenT, UInt64.reduceToNat]; try omega))) only [↓S0, S1, Try.fx, uOR_1, Nat.reduceAdd, Nat.reducePow, Int.reducePow, Nat.reduceBEq, ↓reduceIte, UInt8.reduceToNat, UInt16.reduceToNat, UInt32.reduceToNat, UInt64.reduceToNat, Int.reduceToNat, ln1, ln2]))
    refine ⟨_, (by simp (disch := (first | assumption | omega | (simp only [lenS, lenT, UInt64.reduceToNat]; try omega))) only [↓S0, S1, Try.fx, uOR_1, Nat.reduceAdd, Nat.reducePow, Int.reducePow, Nat.reduceBEq, ↓reduceIte, UInt8.reduceToNat, UInt16.reduceToNat, UInt32.reduceToNat, UInt64.reduceToNat, Int.reduceToNat]; rfl), trivial, ?_⟩
    rfl
end Go.Proofs
end
namespace Go.Sx
open Go
section
variable {α : Type} {m : Nat} {enc : α → List Value} {z : α} {w : World} {v : Value} {l : List α}
/-- The last ones. -/
theorem SlV.dropE (h : SlV m enc z w v l) {k : Nat} (hk : k ≤ l.length) (a : Bool) : ∃ v', sliceV (.sl (a, m)) v (some (some (k : Int))) none = some v' ∧ SlV m enc z w v' (l.drop k) ∧ (∀ b, slB v' = some b → slB v = some b) := by
  obtain ⟨b, off, c, arr, E, fz, hr, hc, hv⟩ := h
  have hl : (l.drop k).length = l.length - k := by simp
  rcases hv with ⟨rfl, rfl, rfl⟩ | ⟨rfl, hhas, hsz⟩
  · obtain rfl : k = 0 := by simpa using hk
    exact ⟨.slice none 0 0, rfl, SlV.nil w, fun b hb => hb⟩
  · have hsl : sliceV (.sl (a, m)) (vsl b off l.length c) (some (some (k : Int))) none = some (vsl b (if c = k then off else off + k * m) (l.length - k) (c - k)) := by
      unfold sliceV vsl
      simp only [bnd_lo _ _ _ (⟨by omega, by omega⟩ : (0 : Int) ≤ (k : Int) ∧ (k : Int) ≤ (l.length : Int)), Int.toNat_natCast]
      by_cases hck : c = k
      · simp [hck]
      · simp only [hck, ↓reduceIte, Option.map_some, add_spot]
    refine ⟨_, hsl, ?_, fun b' hb => hb⟩
    have hkm : k * m + (l.length - k) * m = l.length * m := by rw [← Nat.add_mul]; congr 1; omega
    by_cases hck : c = k
    · have h0 : l.length - k = 0 := by omega
      rw [if_pos hck]
      refine ⟨b, off, c - k, arr, E, fz, RowS.sl' hl.symm (fun h => by omega) (fun i hi => by omega), by omega, .inr ⟨by rw [hl], hhas, by rw [hl, h0]; omega⟩⟩
    · rw [if_neg hck]
      refine ⟨b, off + k * m, c - k, arr, E, fz, RowS.sl' hl.symm (fun h => hhas) ?_, by omega, .inr ⟨by rw [hl], hhas, by rw [hl]; omega⟩⟩
      intro i hi j hj
      rw [hl] at hi
      rw [List.getD_eq_getElem?_getD, List.getElem?_drop, ← List.getD_eq_getElem?_getD, ← hr.get (k + i) (by omega) j hj]
      congr 1
      rw [Nat.add_mul]; omega
end
section
variable {P : Program} {w0 : World} {f : Fr} {L : Heap} {N : Fr → Heap → Prop} {ops : Array Oper} {rest : List Oper} {md : Md} {d : Option Tmp} {ty : TypeId} {ps : String} {af : Array Edge} {g : Option (Nat × Bool)}
/-- A function value of one argument, to which a chunk is handed. -/
theorem Ow.callFnX {x y : Operand} {b : Value} {ts : Array TypeId} {k : FuncId} {X Y : Heap} {S : Value → Heap → Prop} {md' : Md} (hL : L = X ++ Y) (he : md.turn = some md')
    (hs : skipped ops f ⟨d, .call ⟨.value x, #[y], ts⟩, ty, ps, af, g⟩ = false)
    (hx : ev f x = .func (.func k) #[] #[]) (hy : ev f y = b)
    (hk : ∀ a w, (callFunc k a).run P w = .ok (.enter k a) w)
    (hc : ∀ w, Hp w0 L w → (∀ p, p ∈ X → w.heap[p.1]? = some p.2) → (keys X).Nodup → Rets P k #[b] w (XS w X S))
    (hn : ∀ v D, Came w0 L X D → S v D → Ow P w0 ops md' rest (putF f d v) (D ++ Y) N) :
    Ow P w0 ops md (⟨d, .call ⟨.value x, #[y], ts⟩, ty, ps, af, g⟩ :: rest) f L N := by
  subst hL
  have hnd : ∀ w, Hp w0 (X ++ Y) w → (keys X).Nodup ∧ ∀ c, c ∈ keys Y → c ∉ keys X := by
    intro w hw
    have := hw.nodup
    rw [keys_app, List.nodup_append] at this
    exact ⟨this.1, fun c hc hx => this.2.2 c hx c hc rfl⟩
  refine Ow.call (S := fun B v D => ((∀ c, c ∈ keys D → c ∈ keys X ∨ B ≤ c) ∧ (∀ c, c ∈ keys X → c ∈ keys D) ∧ S v D) ∧ ∃ w, Hp w0 (X ++ Y) w ∧ w.heap.size = B) he hs hx hk (fun w hw => ?_) ?_
  · show Rets P k (#[] ++ #[y].map (ev f) ++ #[]) w _
    rw [show (#[] ++ #[y].map (ev f) ++ #[] : Array Value) = #[b] by simp [hy]]
    refine Calls.mono (hc w hw (fun p hp => hw.has _ _ (List.mem_append_left _ hp)) (hnd w hw).1) ?_
    rintro e w' ⟨v, D, he, hp, hS⟩
    exact ⟨v, D, he, hp, ⟨hS.1.new, hS.1.all, hS.2⟩, w, hw, rfl⟩
  · rintro B v D hab hB ⟨⟨h1, h2, h3⟩, w1, hw1, hwB⟩
    refine ⟨D ++ Y, ?_, hn v D ⟨fun c hc => (h1 c hc).imp id fun h => ⟨above_of fun b hb => by have := hw1.lt hb; omega, by have := hw1.size; omega⟩, h2⟩ h3⟩
    intro w w' hwb h k
    have ht := h.trans k
    have hY : ∀ c, c ∈ keys Y → c ∉ keys D := by
      intro c hc hd
      rcases h1 c hd with hx | hx
      · exact (hnd w h).2 c hc hx
      · have := h.lt (b := c) (by rw [keys_app]; exact List.mem_append_right _ hc)
        omega
    have e1 : X.filter (fun p => !(keys D).contains p.1) = [] := by
      rw [List.filter_eq_nil_iff]
      intro p hp
      have := h2 p.1 (List.mem_map.2 ⟨p, hp, rfl⟩)
      simpa using this
    have e2 : Y.filter (fun p => !(keys D).contains p.1) = Y := filter_keys_all hY
    rw [List.filter_append, e1, e2, List.nil_append] at ht
    refine ht.same (fun p => by simp [or_comm]) ?_
    have := ht.nodup
    rw [keys_app] at this ⊢
    exact (List.perm_append_comm.nodup_iff).1 this
end
section
variable {P : Program} {w0 : World} {f : Fr} {L : Heap} {K : Kont}
/-- In the world of the moment. -/
theorem Cw.world {c : Code} (h : ∀ w, Hp w0 L w → Cw P w0 c f L K) : Cw P w0 c f L K := fun w hw => h w hw w hw
/-- What the world of the moment holds where the list of blocks does. -/
theorem Gr.read {E : TypeId} {m n : Nat} {v : Value} {cs : List Value} (h : Gr L E m v n cs) {b : Nat} (hb : slB v = some b) {w : World} (hw : Hp w0 L w) {o : Obj} (ho : w.heap[b]? = some o) : readB w0 L b = some o := by
  obtain ⟨a, ha⟩ := h.at_ hb
  rw [hw.has _ _ (look_mem ha)] at ho
  rw [read_look ha]; exact ho
end
end Go.Sx
section
open Go Go.Proofs Go.Sx Go.StP
namespace Go.Proofs
set_option maxRecDepth 10000
set_option maxHeartbeats 400000
set_option linter.unusedSimpArgs false
/-! ### Sorting, as the law does it -/
structure SoG where
  g : Nat
  Z : List EntL
  v : Value
  D : Heap
theorem readB_out' {w : World} {D : Heap} {b : Nat} (h : b ∉ keys D) : readB w D b = w.heap[b]? := by
  unfold readB
  cases e : Sx.look D b with
  | none => rfl
  | some o => exact absurd (key_of_look e) h
theorem take_fl {Z : List EntL} {g : Nat} (h : Z.length = g) : ((Z.map entC).flatten).length = g * 34 := by
  subst h
  induction Z with
  | nil => rfl
  | cons x r ih => rw [List.map_cons, List.flatten_cons, List.length_append, ih, entC_len, List.length_cons]; omega
theorem app_take {w w' : World} {D : Heap} {E : TypeId} {v1 vt : Value} {Z : List EntL} {k : Nat} (hG : Gr D E 34 v1 Z.length (Z.map entC).flatten) (hw' : Hp w D w') (k1 : k ≤ Z.length)
    (st : sliceV (.sl (true, 34)) v1 none (some (some (k : Int))) = some vt) : AppX Try.prog w' 34 vt k ((Z.take k).map entC).flatten := by
  obtain ⟨v', e', h', -⟩ := (hG.slV (enc := entC) (z := ent0) hw' rfl rfl entC_len).take k1 true
  rw [st] at e'; cases e'
  have := h'.appX (P := Try.prog) entC_len entC_one
  rwa [List.length_take, Nat.min_eq_left k1] at this
theorem app_drop {w w' : World} {D : Heap} {E : TypeId} {v1 vt : Value} {Z : List EntL} {k : Nat} (hG : Gr D E 34 v1 Z.length (Z.map entC).flatten) (hw' : Hp w D w') (k1 : k ≤ Z.length)
    (st : sliceV (.sl (true, 34)) v1 (some (some (k : Int))) none = some vt) : AppX Try.prog w' 34 vt (Z.length - k) ((Z.drop k).map entC).flatten := by
  obtain ⟨v', e', h', -⟩ := (hG.slV (enc := entC) (z := ent0) hw' rfl rfl entC_len).dropE k1 true
  rw [st] at e'; cases e'
  have := h'.appX (P := Try.prog) entC_len entC_one
  rwa [List.length_drop] at this
set_option linter.defProp false
def uOS_1 := And.intro (And.intro (And.intro (@load_ent0) (@load_ent1)) (And.intro (@load_ent2) (@load_ent))) (And.intro (And.intro (@store_entr) (@cells_ent)) (And.intro (@rdIn_v8) (@rdIn_vi)))
theorem SortedR_spec (v : Value) (l : List EntL) (w : World) (hv : EntS w v l) (hl : l.length < 1000000) :
    Rets Try.prog 13 #[v] w (XS w [] (fun v' D => ∃ Z, SortOf l Z ∧ Gr D 45 34 v' l.length (Z.map entC).flatten)) := by
  obtain ⟨b, off, arr, E, fz, hr⟩ := hv.row
  have ln := hv.len
  refine Rets.enterX Try.func13 rfl (rs := [.tmp 2]) Try.results13 Try.ntmps13 (fun p hp => by cases hp) (by simp [keys]) ?_
  simp only [List.size_toArray, List.length_cons, List.length_nil, Nat.reduceAdd, Nat.reduceSub, List.replicate_succ, List.replicate_zero, List.cons_append, List.nil_append]
  ((try with_reducible refine Cw.go [] ?_); (try simp (disch := (first | assumption | omega | (simp only [lenS, lenT, UInt64.reduceToNat]; try omega))) only [↓S0, S1, Try.fx, uOS_1, Nat.reduceAdd, Nat.reducePow, Int.reducePow, Nat.reduceBEq, ↓reduceIte, UInt8.reduceToNat, UInt16.reduceToNat, UInt32.reduceToNat, UInt64.reduceToNat, Int.reduceToNat, ln]))
  refine Cw.loopG (G := SoG) [7, 8, 9, 10, 13, 14, 5, 15, 16, 17, 18, 19, 20, 21, 22, 23, 24, 25, 26, 27, 28, 29, 30, 31, 32, 6, 33, 34, 35, 36, 37, 38, 39, 40, 41, 42, 43, 44, 45, 46, 47, 48, 49, 50, 3, 11, 12, 4] (fun q => [(3, q.v), (4, vi q.g)]) (fun q => q.D) (fun q => q.g ≤ l.length ∧ Ext w [] q.D ∧ SortOf (l.take q.g) q.Z ∧ Gr q.D 45 34 q.v q.g (q.Z.map entC).flatten) (fun q => l.length - q.g) ⟨0, [], .slice none 0 0, []⟩ rfl rfl ?_ ?_
  · exact ⟨Nat.zero_le _, Ext.refl w [], ⟨rfl, List.Pairwise.nil, St.refl _ _⟩, Gr.nl⟩
  · intro q jq hq
    simp only [overFrom, pin, setF_0, setF_s, List.contains_cons, List.contains_nil, Nat.reduceBEq, Bool.or_false, Bool.false_or, Bool.or_true, Bool.true_or, Nat.reduceAdd, ↓reduceIte, Bool.false_eq_true]
    obtain ⟨g, Z, v1, D⟩ := q
    simp only at hq ⊢
    obtain ⟨h1, hE, hZ, hG⟩ := hq
    have hZl : Z.length = g := by rw [hZ.1, List.length_take]; omega
    subst hZl
    by_cases hg : Z.length < l.length
    · have h0 : 0 < l.length := by omega
      have hbl := hr.lt h0
      have hbD := hE.new0.not hbl
      have r2 : readB w D b = some (.cells arr E fz) := by rw [readB_out' hbD]; exact hr.has h0
      have i2 := hr.idx true Z.length hg
      have m0 : ∀ n, loadV (some (false, n)) (some (.cells arr E fz)) (off + Z.length * 34) = some (vs (l.getD Z.length ent0).name) := fun n => row_ent0 hr hg n
      have ln1 := hG.len
      generalize hx : l.getD Z.length ent0 = x at m0
      ((try with_reducible refine Cw.go [] ?_); (try simp (disch := (first | assumption | omega | (simp only [lenS, lenT, UInt64.reduceToNat]; try omega))) only [↓S0, S1, Try.fx, uOS_1, Nat.reduceAdd, Nat.reducePow, Int.reducePow, Nat.reduceBEq, ↓reduceIte, UInt8.reduceToNat, UInt16.reduceToNat, UInt32.reduceToNat, UInt64.reduceToNat, Int.reduceToNat, ln, ln1]))
      refine Cw.loopG (G := Nat) [15, 16, 17, 18, 19, 20, 21, 22, 23, 24, 25, 26, 27, 28, 29, 30, 31, 32, 5] (fun g => [(5, vi g)]) (fun g => D) (fun g => g ≤ Z.length ∧ (Z.length ≤ g ∨ ltE x (Z.getD g ent0) = true)) (fun g => g) Z.length rfl rfl ?_ ?_
      · exact ⟨Nat.le_refl _, .inl (Nat.le_refl _)⟩
      · intro k jk hk
        simp only [overFrom, pin, setF_0, setF_s, List.contains_cons, List.contains_nil, Nat.reduceBEq, Bool.or_false, Bool.false_or, Bool.or_true, Bool.true_or, Nat.reduceAdd, ↓reduceIte, Bool.false_eq_true]
        obtain ⟨k1, k2⟩ := hk
        refine Cw.world fun w1 hw1 => ?_
        have hS1 : EntS w1 v1 Z := hG.slV hw1 rfl rfl entC_len
        have done : (k = 0 ∨ ltE x (Z.getD (k - 1) ent0) = false) → SortOf (l.take (Z.length + 1)) (Z.take k ++ x :: Z.drop k) := fun h => by
          obtain ⟨s1, s2⟩ := slide_sorted (z := ent0) hZ.2.1 k1 h k2
          refine ⟨?_, s1, ?_⟩
          · simp only [List.length_append, List.length_take, List.length_cons, List.length_drop]; omega
          · rw [take_snoc (z := ent0) hg, hx]
            exact (hZ.2.2.app (St.refl _ [x])).trans s2
        obtain ⟨c, coff, carr, cE, cfz, hr1⟩ := hS1.row
        obtain ⟨vt, st, -, -⟩ := hS1.take k1 true
        obtain ⟨vd, sd, -, -⟩ := hS1.dropE k1 true
        have m3 : loadV (some (true, 34)) (some (.cells arr E fz)) (off + Z.length * 34) = some (.agg (entC x).toArray) := by rw [← hx]; exact row_ent hr hg
        by_cases hk : k = 0
        · have d1 : decide ((0 : Int) < (k : Int)) = false := decide_eq_false (by omega)
          ((try with_reducible refine Cw.go [] ?_); (try simp (disch := (first | assumption | omega | (simp only [lenS, lenT, UInt64.reduceToNat]; try omega))) only [↓S0, S1, Try.fx, uOS_1, Nat.reduceAdd, Nat.reducePow, Int.reducePow, Nat.reduceBEq, ↓reduceIte, UInt8.reduceToNat, UInt16.reduceToNat, UInt32.reduceToNat, UInt64.reduceToNat, Int.reduceToNat]))
          refine Cw.regionS [b] [0, 1, 2, 3, 4, 5, 6, 7, 9, 10, 11, 12, 8, 13, 14, 15] [] (by kernel_rfl) (by kernel_rfl) (by kernel_rfl) ?_
          simp only [nl_cons, ↓pickL_nil, ↓pickL_cons, ↓nthO_0, ↓nthO_s, consO_some]
          refine Ow.goQ ?_
          simp (disch := (first | assumption | omega | (simp only [lenS, lenT, UInt64.reduceToNat]; try omega))) only [↓S0, S1, Try.fx, uOS_1, Nat.reduceAdd, Nat.reducePow, Int.reducePow, Nat.reduceBEq, ↓reduceIte, UInt8.reduceToNat, UInt16.reduceToNat, UInt32.reduceToNat, UInt64.reduceToNat, Int.reduceToNat, d1, st]
          refine Ow.appendG (e := 45) (k := k) (new := ((Z.take k).map entC).flatten) (.slice none 0 0) rfl rfl rfl Try.underlying22 aggEnt (by kernel_rfl) zrEnt (by rw [cells_ent, List.size_toArray, entC_len]) Try.underlying22 (by intro k h; cases h) Gr.nl (fun w' hw' => app_take hG hw' k1 st) (take_fl (by rw [List.length_take]; omega)) (by omega) (fun v2 L2 hB2 _ hg2 hs2 => ?_)
          have hG2 := hG.keep (L' := L2) fun b o hb ho => hg2.look b o (by simp [slB]) ho
          have hE2 := hE.grew hg2
          have r22 : readB w L2 b = some (.cells arr E fz) := by rw [readB_out' (hE2.new0.not hbl)]; exact hr.has h0
          rw [Nat.zero_add, List.nil_append] at hB2
          refine Ow.go rfl ?_
          simp (disch := (first | assumption | omega | (simp only [lenS, lenT, UInt64.reduceToNat]; try omega))) only [↓S0, S1, Try.fx, uOS_1, Nat.reduceAdd, Nat.reducePow, Int.reducePow, Nat.reduceBEq, ↓reduceIte, UInt8.reduceToNat, UInt16.reduceToNat, UInt32.reduceToNat, UInt64.reduceToNat, Int.reduceToNat, i2, r22, m3]
          refine Ow.buildSlice (e := 45) (entC x).toArray rfl rfl (slice_one Try.underlying22 aggEnt zrEnt (by decide) (entC_len x)) fun b6 hb6 hw6 => ?_
          refine Ow.go rfl ?_
          simp (disch := (first | assumption | omega | (simp only [lenS, lenT, UInt64.reduceToNat]; try omega))) only [↓S0, S1, Try.fx, uOS_1, Nat.reduceAdd, Nat.reducePow, Int.reducePow, Nat.reduceBEq, ↓reduceIte, UInt8.reduceToNat, UInt16.reduceToNat, UInt32.reduceToNat, UInt64.reduceToNat, Int.reduceToNat]
          refine Ow.appendG (e := 45) (k := 1) (new := entC x) v2 rfl rfl rfl Try.underlying22 aggEnt (by kernel_rfl) zrEnt (by rw [cells_ent, List.size_toArray, entC_len]) Try.underlying22 (by intro k h; cases h) hB2.app (fun w' hw' => AppX.one1 (hw'.has _ _ (List.mem_append_right _ List.mem_cons_self)) (entC_len x) (entC_one x)) (by show (entC x).length = 1 * 34; rw [entC_len]) (by omega) (fun v3 L3 hB3 _ hg3 hs3 => ?_)
          have hE3 := (hE2.app (o := .cells (entC x).toArray 45 (0, 0)) hw6).grew hg3
          have n2 : ∀ b, slB v1 = some b → slB v2 ≠ some b := fun b hb e => by
            rcases hs2 with h | ⟨c', h, ha⟩
            · rw [h] at e; cases e
            · rw [h] at e; cases e; exact Nat.lt_irrefl _ (above_to ha (hG.key hb))
          have hG3 := (hG2.app (M := [(b6, .cells (entC x).toArray 45 (0, 0))])).keep (L' := L3) fun b o hb ho => hg3.look b o (n2 b hb) ho
          have n3 : ∀ b, slB v1 = some b → slB v3 ≠ some b := fun b hb e => by
            rcases hs3 with h | ⟨c', h, ha⟩
            · rw [h] at e; exact n2 b hb e
            · rw [h] at e; cases e; exact Nat.lt_irrefl _ (above_to ha (by rw [keys_app]; exact List.mem_append_left _ (hG2.key hb)))
          refine Ow.go rfl ?_
          simp (disch := (first | assumption | omega | (simp only [lenS, lenT, UInt64.reduceToNat]; try omega))) only [↓S0, S1, Try.fx, uOS_1, Nat.reduceAdd, Nat.reducePow, Int.reducePow, Nat.reduceBEq, ↓reduceIte, UInt8.reduceToNat, UInt16.reduceToNat, UInt32.reduceToNat, UInt64.reduceToNat, Int.reduceToNat, sd]
          refine Ow.appendG (e := 45) (k := Z.length - k) (new := ((Z.drop k).map entC).flatten) v3 rfl rfl rfl Try.underlying22 aggEnt (by kernel_rfl) zrEnt (by rw [cells_ent, List.size_toArray, entC_len]) Try.underlying22 (by intro k h; cases h) hB3 (fun w' hw' => app_drop hG3 hw' k1 sd) (take_fl (by rw [List.length_drop])) (by omega) (fun v4 L4 hB4 _ hg4 hs4 => ?_)
          have hE4 := hE3.grew hg4
          refine Ow.go rfl ?_
          simp (disch := (first | assumption | omega | (simp only [lenS, lenT, UInt64.reduceToNat]; try omega))) only [↓S0, S1, Try.fx, uOS_1, Nat.reduceAdd, Nat.reducePow, Int.reducePow, Nat.reduceBEq, ↓reduceIte, UInt8.reduceToNat, UInt16.reduceToNat, UInt32.reduceToNat, UInt64.reduceToNat, Int.reduceToNat]
          refine Again.mk (SoG.mk (Z.length + 1) (Z.take k ++ x :: Z.drop k) v4 L4) (by show l.length - (Z.length + 1) < l.length - Z.length; omega) ⟨by show Z.length + 1 ≤ l.length; omega, hE4, done ?_, ?_⟩ rfl rfl
          · exact .inl hk
          · have : k + 1 + (Z.length - k) = Z.length + 1 := by omega
            rw [this] at hB4
            simpa only [List.map_append, List.map_cons, List.flatten_append, List.flatten_cons, List.append_assoc] using hB4
        · have d1 : decide ((0 : Int) < (k : Int)) = true := decide_eq_true (by omega)
          have hZ0 : 0 < Z.length := by omega
          have i1 : indexAddrV (.sl (true, 34)) v1 (some ((k : Int) - 1)) = some (vp c (coff + (k - 1) * 34)) := by
            rw [show (k : Int) - 1 = ((k - 1 : Nat) : Int) by omega]; exact hr1.idx true (k - 1) (by omega)
          have m1 : ∀ n, loadV (some (false, n)) (some (.cells carr cE cfz)) (coff + (k - 1) * 34) = some (vs (Z.getD (k - 1) ent0).name) := fun n => row_ent0 hr1 (show k - 1 < Z.length by omega) n
          have rc : readB w D c = some (.cells carr cE cfz) := by
            rcases hS1 with ⟨b', off', c', arr', E', fz', hr', hc', ⟨-, rfl, -⟩ | ⟨rfl, hb', -⟩⟩
            · exact absurd hZ0 (by simp)
            · have : c = b' := by
                have e1 := hr1.idx true 0 hZ0
                rw [indexAddr_sl _ _ _ _ _ _ ⟨by omega, by omega⟩] at e1
                have := Option.some.inj e1
                simp [vp] at this
                exact this.1.symm
              subst this
              exact hG.read rfl hw1 (hr1.has hZ0)
          ((try with_reducible refine Cw.go [] ?_); (try simp (disch := (first | assumption | omega | (simp only [lenS, lenT, UInt64.reduceToNat]; try omega))) only [↓S0, S1, Try.fx, uOS_1, Nat.reduceAdd, Nat.reducePow, Int.reducePow, Nat.reduceBEq, ↓reduceIte, UInt8.reduceToNat, UInt16.reduceToNat, UInt32.reduceToNat, UInt64.reduceToNat, Int.reduceToNat]))
          refine Cw.regionS [c, b] [0, 1, 2, 3, 4, 5, 6, 7, 9, 10, 11, 12, 8, 13, 14, 15] [] (by kernel_rfl) (by kernel_rfl) (by kernel_rfl) ?_
          simp only [nl_cons, ↓pickL_nil, ↓pickL_cons, ↓nthO_0, ↓nthO_s, consO_some]
          cases hl3 : ltB x.name (Z.getD (k - 1) ent0).name
          · refine Ow.goQ ?_
            simp (disch := (first | assumption | omega | (simp only [lenS, lenT, UInt64.reduceToNat]; try omega))) only [↓S0, S1, Try.fx, uOS_1, Nat.reduceAdd, Nat.reducePow, Int.reducePow, Nat.reduceBEq, ↓reduceIte, UInt8.reduceToNat, UInt16.reduceToNat, UInt32.reduceToNat, UInt64.reduceToNat, Int.reduceToNat, d1, i1, i2, r2, rc, m0, m1, gtr_ltB, hl3, st]
            refine Ow.appendG (e := 45) (k := k) (new := ((Z.take k).map entC).flatten) (.slice none 0 0) rfl rfl rfl Try.underlying22 aggEnt (by kernel_rfl) zrEnt (by rw [cells_ent, List.size_toArray, entC_len]) Try.underlying22 (by intro k h; cases h) Gr.nl (fun w' hw' => app_take hG hw' k1 st) (take_fl (by rw [List.length_take]; omega)) (by omega) (fun v2 L2 hB2 _ hg2 hs2 => ?_)
            have hG2 := hG.keep (L' := L2) fun b o hb ho => hg2.look b o (by simp [slB]) ho
            have hE2 := hE.grew hg2
            have r22 : readB w L2 b = some (.cells arr E fz) := by rw [readB_out' (hE2.new0.not hbl)]; exact hr.has h0
            rw [Nat.zero_add, List.nil_append] at hB2
            refine Ow.go rfl ?_
            simp (disch := (first | assumption | omega | (simp only [lenS, lenT, UInt64.reduceToNat]; try omega))) only [↓S0, S1, Try.fx, uOS_1, Nat.reduceAdd, Nat.reducePow, Int.reducePow, Nat.reduceBEq, ↓reduceIte, UInt8.reduceToNat, UInt16.reduceToNat, UInt32.reduceToNat, UInt64.reduceToNat, Int.reduceToNat, i2, r22, m3]
            refine Ow.buildSlice (e := 45) (entC x).toArray rfl rfl (slice_one Try.underlying22 aggEnt zrEnt (by decide) (entC_len x)) fun b6 hb6 hw6 => ?_
            refine Ow.go rfl ?_
            simp (disch := (first | assumption | omega | (simp only [lenS, lenT, UInt64.reduceToNat]; try omega))) only [↓S0, S1, Try.fx, uOS_1, Nat.reduceAdd, Nat.reducePow, Int.reducePow, Nat.reduceBEq, ↓reduceIte, UInt8.reduceToNat, UInt16.reduceToNat, UInt32.reduceToNat, UInt64.reduceToNat, Int.reduceToNat]
            refine Ow.appendG (e := 45) (k := 1) (new := entC x) v2 rfl rfl rfl Try.underlying22 aggEnt (by kernel_rfl) zrEnt (by rw [cells_ent, List.size_toArray, entC_len]) Try.underlying22 (by intro k h; cases h) hB2.app (fun w' hw' => AppX.one1 (hw'.has _ _ (List.mem_append_right _ List.mem_cons_self)) (entC_len x) (entC_one x)) (by show (entC x).length = 1 * 34; rw [entC_len]) (by omega) (fun v3 L3 hB3 _ hg3 hs3 => ?_)
            have hE3 := (hE2.app (o := .cells (entC x).toArray 45 (0, 0)) hw6).grew hg3
            have n2 : ∀ b, slB v1 = some b → slB v2 ≠ some b := fun b hb e => by
              rcases hs2 with h | ⟨c', h, ha⟩
              · rw [h] at e; cases e
              · rw [h] at e; cases e; exact Nat.lt_irrefl _ (above_to ha (hG.key hb))
            have hG3 := (hG2.app (M := [(b6, .cells (entC x).toArray 45 (0, 0))])).keep (L' := L3) fun b o hb ho => hg3.look b o (n2 b hb) ho
            have n3 : ∀ b, slB v1 = some b → slB v3 ≠ some b := fun b hb e => by
              rcases hs3 with h | ⟨c', h, ha⟩
              · rw [h] at e; exact n2 b hb e
              · rw [h] at e; cases e; exact Nat.lt_irrefl _ (above_to ha (by rw [keys_app]; exact List.mem_append_left _ (hG2.key hb)))
            refine Ow.go rfl ?_
            simp (disch := (first | assumption | omega | (simp only [lenS, lenT, UInt64.reduceToNat]; try omega))) only [↓S0, S1, Try.fx, uOS_1, Nat.reduceAdd, Nat.reducePow, Int.reducePow, Nat.reduceBEq, ↓reduceIte, UInt8.reduceToNat, UInt16.reduceToNat, UInt32.reduceToNat, UInt64.reduceToNat, Int.reduceToNat, sd]
            refine Ow.appendG (e := 45) (k := Z.length - k) (new := ((Z.drop k).map entC).flatten) v3 rfl rfl rfl Try.underlying22 aggEnt (by kernel_rfl) zrEnt (by rw [cells_ent, List.size_toArray, entC_len]) Try.underlying22 (by intro k h; cases h) hB3 (fun w' hw' => app_drop hG3 hw' k1 sd) (take_fl (by rw [List.length_drop])) (by omega) (fun v4 L4 hB4 _ hg4 hs4 => ?_)
            have hE4 := hE3.grew hg4
            refine Ow.go rfl ?_
            simp (disch := (first | assumption | omega | (simp only [lenS, lenT, UInt64.reduceToNat]; try omega))) only [↓S0, S1, Try.fx, uOS_1, Nat.reduceAdd, Nat.reducePow, Int.reducePow, Nat.reduceBEq, ↓reduceIte, UInt8.reduceToNat, UInt16.reduceToNat, UInt32.reduceToNat, UInt64.reduceToNat, Int.reduceToNat]
            refine Again.mk (SoG.mk (Z.length + 1) (Z.take k ++ x :: Z.drop k) v4 L4) (by show l.length - (Z.length + 1) < l.length - Z.length; omega) ⟨by show Z.length + 1 ≤ l.length; omega, hE4, done ?_, ?_⟩ rfl rfl
            · exact .inr hl3
            · have : k + 1 + (Z.length - k) = Z.length + 1 := by omega
              rw [this] at hB4
              simpa only [List.map_append, List.map_cons, List.flatten_append, List.flatten_cons, List.append_assoc] using hB4
          · refine Ow.goQ ?_
            simp (disch := (first | assumption | omega | (simp only [lenS, lenT, UInt64.reduceToNat]; try omega))) only [↓S0, S1, Try.fx, uOS_1, Nat.reduceAdd, Nat.reducePow, Int.reducePow, Nat.reduceBEq, ↓reduceIte, UInt8.reduceToNat, UInt16.reduceToNat, UInt32.reduceToNat, UInt64.reduceToNat, Int.reduceToNat, d1, i1, i2, r2, rc, m0, m1, gtr_ltB, hl3]
            exact Again.mk (k - 1) (by omega) ⟨by omega, .inr hl3⟩ rfl (by rw [show (k : Int) - 1 = ((k - 1 : Nat) : Int) by omega]; rfl)
    · have e : Z.length = l.length := by omega
      ((try with_reducible refine Cw.go [] ?_); (try simp (disch := (first | assumption | omega | (simp only [lenS, lenT, UInt64.reduceToNat]; try omega))) only [↓S0, S1, Try.fx, uOS_1, Nat.reduceAdd, Nat.reducePow, Int.reducePow, Nat.reduceBEq, ↓reduceIte, UInt8.reduceToNat, UInt16.reduceToNat, UInt32.reduceToNat, UInt64.reduceToNat, Int.reduceToNat, ln]))
      refine ⟨_, (by simp (disch := (first | assumption | omega | (simp only [lenS, lenT, UInt64.reduceToNat]; try omega))) only [↓S0, S1, Try.fx, uOS_1, Nat.reduceAdd, Nat.reducePow, Int.reducePow, Nat.reduceBEq, ↓reduceIte, UInt8.reduceToNat, UInt16.reduceToNat, UInt32.reduceToNat, UInt64.reduceToNat, Int.reduceToNat]; rfl), ?_⟩
      exact ⟨hE, Z, by rw [e, List.take_length] at hZ; exact hZ, by rw [e] at hG; exact hG⟩
end Go.Proofs
end
section
open Go Go.Proofs Go.Sx Go.StP
namespace Go.Proofs
set_option maxRecDepth 10000
set_option maxHeartbeats 400000
set_option linter.unusedSimpArgs false
/-! ### Entries and ids, read -/
def mkIdE (l : List UInt8) : IdL := if h : l.length = 32 then ⟨l, h⟩ else id0
theorem mkIdE_eq {l : List UInt8} (h : l.length = 32) : (mkIdE l).l = l := by unfold mkIdE; rw [dif_pos h]
theorem idE_len (s : List UInt8) (a : Nat) (e : Int) : (idR s a e).1.length = 32 := by
  unfold idR
  simp only
  split
  · assumption
  · simp [z32]
theorem idE_le {s : List UInt8} {a : Nat} {e : Int} (ha : a ≤ s.length) : a ≤ (idR s a e).2.1 ∧ (idR s a e).2.1 ≤ s.length := rawR_le ha
theorem textE_le {s : List UInt8} {a : Nat} {e most : Int} (ha : a ≤ s.length) : a ≤ (textR s a e most).2.1 ∧ (textR s a e most).2.1 ≤ s.length := by
  have hp := numR_le (e := e) (most := most) ha
  have hq := rawR_le (e := (numR s a e most).2.2) (n := (numR s a e most).1) hp.2
  unfold textR
  simp only
  split
  · exact ⟨Nat.le_refl _, ha⟩
  · exact ⟨by omega, hq.2⟩
theorem textE_len (s : List UInt8) (a : Nat) (e most : Int) : (textR s a e most).1.length ≤ s.length := by
  have : ∀ (b : Nat) (e n : Int), (rawR s b e n).1.length ≤ s.length := by
    intro b e n
    unfold rawR
    split
    · simp
    · split
      · simp
      · split
        · simp
        · simp only [List.length_take, List.length_drop]; omega
  unfold textR
  simp only
  split
  · simp
  · exact this _ _ _
/-- An error stays; none is 5. -/
theorem rawR_e {s : List UInt8} {a : Nat} {e n : Int} (he : e ≠ 0) : (rawR s a e n).2 = (a, e) := by unfold rawR; rw [if_pos he]
theorem numR_e {s : List UInt8} {a : Nat} {e most : Int} (he : e ≠ 0) : (numR s a e most).2 = (a, e) := by unfold numR; rw [if_pos he]
theorem textR_e {s : List UInt8} {a : Nat} {e most : Int} (he : e ≠ 0) : (textR s a e most).2 = (a, e) := by
  unfold textR
  simp only [numR_e he, rawR_e he]
  rw [if_pos he]
theorem idR_e {s : List UInt8} {a : Nat} {e : Int} (he : e ≠ 0) : (idR s a e).2 = (a, e) := by unfold idR; simp only [rawR_e he]
theorem rawR_5 {s : List UInt8} {a : Nat} {e n : Int} (h : e ≠ 5) : (rawR s a e n).2.2 ≠ 5 := by
  unfold rawR
  split
  · exact h
  · split
    · show (2 : Int) ≠ 5; decide
    · split
      · show (3 : Int) ≠ 5; decide
      · show (0 : Int) ≠ 5; decide
theorem numGo_5 (most : Int) : ∀ (l : List UInt8) (k n x : Nat), numGo most l k n = .error x → x ≠ 5 := by
  intro l
  induction l with
  | nil => intro k n x h; unfold numGo at h; cases h; decide
  | cons c r ih =>
    intro k n x h
    unfold numGo at h
    split at h
    · split at h
      · cases h; decide
      · exact ih _ _ _ h
    · split at h
      · cases h; decide
      · split at h
        · cases h
        · cases h; decide
theorem numGo_0 (most : Int) : ∀ (l : List UInt8) (k n : Nat), numGo most l k n ≠ .error 0 := by
  intro l
  induction l with
  | nil => intro k n h; unfold numGo at h; cases h
  | cons c r ih =>
    intro k n h
    unfold numGo at h
    split at h
    · split at h
      · cases h
      · exact ih _ _ h
    · split at h
      · cases h
      · split at h
        · cases h
        · cases h
theorem numR_5 {s : List UInt8} {a : Nat} {e most : Int} (h : e ≠ 5) : (numR s a e most).2.2 ≠ 5 := by
  unfold numR
  split
  · exact h
  · split
    · show (0 : Int) ≠ 5; decide
    · rename_i x hx
      have := numGo_5 _ _ _ _ _ hx
      show ((x : Nat) : Int) ≠ 5
      omega
theorem textR_5 {s : List UInt8} {a : Nat} {e most : Int} (h : e ≠ 5) : (textR s a e most).2.2 ≠ 5 := by
  unfold textR
  simp only
  split
  · exact rawR_5 (numR_5 h)
  · exact rawR_5 (numR_5 h)
theorem idR_5 {s : List UInt8} {a : Nat} {e : Int} (h : e ≠ 5) : (idR s a e).2.2 ≠ 5 := by unfold idR; exact rawR_5 h
/-- A number that was read takes a byte at least. -/
theorem numR_up {s : List UInt8} {a : Nat} {e most : Int} (h : (numR s a e most).2.2 = 0) : a < (numR s a e most).2.1 := by
  unfold numR at h ⊢
  split
  · rename_i he
    rw [if_pos he] at h
    exact absurd h he
  · rename_i he
    rw [if_neg he] at h
    split
    · rename_i n k hk
      have := numGo_le _ _ _ _ _ _ hk
      show a < a + k
      omega
    · rename_i x hx
      rw [hx] at h
      exfalso
      have : x = 0 := by have : ((x : Nat) : Int) = 0 := h; omega
      subst this
      exact numGo_0 _ _ _ _ hx
/-- An entry. -/
def entR (s : List UInt8) (a : Nat) (e : Int) : EntL × Nat × Int :=
  let p := numR s a e 2
  let q := textR s p.2.1 p.2.2 32
  let i := idR s q.2.1 q.2.2
  (⟨q.1, p.1, mkIdE i.1⟩, i.2)
theorem entR_le {s : List UInt8} {a : Nat} {e : Int} (ha : a ≤ s.length) : a ≤ (entR s a e).2.1 ∧ (entR s a e).2.1 ≤ s.length := by
  have h1 := numR_le (e := e) (most := 2) ha
  have h2 := textE_le (e := (numR s a e 2).2.2) (most := 32) h1.2
  have h3 := idE_le (e := (textR s (numR s a e 2).2.1 (numR s a e 2).2.2 32).2.2) h2.2
  unfold entR
  exact ⟨by simp only; omega, h3.2⟩
theorem entR_5 {s : List UInt8} {a : Nat} {e : Int} (h : e ≠ 5) : (entR s a e).2.2 ≠ 5 := idR_5 (textR_5 (numR_5 h))
theorem entR_up {s : List UInt8} {a : Nat} {e : Int} (ha : a ≤ s.length) (h : (entR s a e).2.2 = 0) : a < (entR s a e).2.1 := by
  have h1 := numR_le (e := e) (most := 2) ha
  have h2 := textE_le (e := (numR s a e 2).2.2) (most := 32) h1.2
  have h3 := idE_le (e := (textR s (numR s a e 2).2.1 (numR s a e 2).2.2 32).2.2) h2.2
  unfold entR at h ⊢
  simp only at h ⊢
  have e2 : (textR s (numR s a e 2).2.1 (numR s a e 2).2.2 32).2.2 = 0 := Decidable.byContradiction fun hn => by rw [idR_e hn] at h; exact hn h
  have e1 : (numR s a e 2).2.2 = 0 := Decidable.byContradiction fun hn => by rw [textR_e hn] at e2; exact hn e2
  have := numR_up e1
  omega
/-- Entries up to the end, or to an error. -/
def entsGo (s : List UInt8) : Nat → Nat → Int → List EntL → List EntL × Nat × Int
  | 0, a, e, l => (l, a, e)
  | n + 1, a, e, l => if e = 0 ∧ a < s.length then entsGo s n (entR s a e).2.1 (entR s a e).2.2 (l ++ [(entR s a e).1]) else (l, a, e)
theorem entsGo_on {s : List UInt8} {n a : Nat} {e : Int} {l : List EntL} (h : e = 0 ∧ a < s.length) : entsGo s (n + 1) a e l = entsGo s n (entR s a e).2.1 (entR s a e).2.2 (l ++ [(entR s a e).1]) := by rw [entsGo, if_pos h]
theorem entsGo_end {s : List UInt8} {n a : Nat} {e : Int} {l : List EntL} (h : ¬ (e = 0 ∧ a < s.length)) : entsGo s n a e l = (l, a, e) := by
  cases n with
  | zero => rfl
  | succ n => rw [entsGo, if_neg h]
def entsE (s : List UInt8) : List EntL × Nat × Int := entsGo s (s.length + 1) 0 0 []
/-- What holds when so many rounds are left. -/
structure EntsJ (s : List UInt8) (n a : Nat) (e : Int) (l : List EntL) : Prop where
  go : entsE s = entsGo s n a e l
  le : a ≤ s.length
  five : e ≠ 5
  fuel : e = 0 → s.length < a + n
  cnt : l.length + n = s.length + 1
  short : ∀ i, i < l.length → (l.getD i ent0).name.length ≤ s.length
theorem EntsJ.init (s : List UInt8) : EntsJ s (s.length + 1) 0 0 [] := ⟨rfl, Nat.zero_le _, by decide, fun _ => by omega, by simp, fun i hi => by simp at hi⟩
theorem EntsJ.next {s : List UInt8} {n a : Nat} {e : Int} {l : List EntL} (h : EntsJ s n a e l) (hc : e = 0 ∧ a < s.length) : ∃ m, n = m + 1 ∧ EntsJ s m (entR s a e).2.1 (entR s a e).2.2 (l ++ [(entR s a e).1]) := by
  have := h.fuel hc.1
  obtain ⟨m, rfl⟩ : ∃ m, n = m + 1 := ⟨n - 1, by omega⟩
  refine ⟨m, rfl, h.go.trans (entsGo_on hc), (entR_le h.le).2, entR_5 h.five, fun h0 => ?_, ?_, fun i hi => ?_⟩
  · have := entR_up h.le h0; omega
  · have := h.cnt; simp only [List.length_append, List.length_cons, List.length_nil]; omega
  · by_cases hlt : i < l.length
    · rw [getD_app_l hlt]; exact h.short i hlt
    · have : i = l.length := by simp only [List.length_append, List.length_cons, List.length_nil] at hi; omega
      subst this
      rw [getD_app_r (Nat.le_refl _), Nat.sub_self]
      exact textE_len _ _ _ _
theorem EntsJ.done {s : List UInt8} {n a : Nat} {e : Int} {l : List EntL} (h : EntsJ s n a e l) (hc : ¬ (e = 0 ∧ a < s.length)) : entsE s = (l, a, e) := h.go.trans (entsGo_end hc)
theorem EntsJ.sh {s : List UInt8} {n a : Nat} {e : Int} {l : List EntL} (h : EntsJ s n a e l) (hs : s.length < 1000000) : ShortE l := fun i hi => by have := h.short i hi; omega
end Go.Proofs
end
section
open Go Go.Proofs Go.Sx Go.StP
namespace Go.Proofs
set_option maxRecDepth 10000
set_option maxHeartbeats 400000
set_option linter.unusedSimpArgs false
/-! ### Entries, as the law reads them -/
theorem build_ent00 : buildV (plcT Try.prog 45) (zeroV Try.prog 45) [] = some (.agg (entC ent0).toArray) := by
  rw [Try.pc45, zrEnt]; rfl
def readE (s : List UInt8) : Option (List EntL) := if (entsE s).2.2 = 0 ∧ entsOk (entsE s).1 = true ∧ treeB (entsE s).1 = s then some (entsE s).1 else none
def ReadES (s : List UInt8) (v : Value) (D : Heap) : Prop :=
  match readE s with
  | some l => ∃ v1, v = .tuple #[v1, .bool true] ∧ Gr D 45 34 v1 l.length (l.map entC).flatten
  | none => v = .tuple #[.slice none 0 0, .bool false]
structure EnG where
  n : Nat
  a : Nat
  e : Int
  l : List EntL
  v : Value
  D : Heap
set_option linter.defProp false
def uOU_1 := And.intro (And.intro (And.intro (@load_rd0) (And.intro (@load_rd1) (@load_rd2))) (And.intro (@store_rd1) (And.intro (@store_rd2) (@load_ent)))) (And.intro (And.intro (@store_ent0) (And.intro (@store_ent1) (@store_ent2))) (And.intro (And.intro (@store_entr) (@cells_ent)) (And.intro (@rdIn_v8) (@rdIn_vi))))
end Go.Proofs
end
section
open Go Go.Proofs Go.Sx Go.StP
namespace Go.Proofs
set_option maxRecDepth 10000
set_option maxHeartbeats 400000
set_option linter.unusedSimpArgs false
/-! ### Commits, read -/
theorem numGo_mostE (most : Int) : ∀ (l : List UInt8) (k n m k' : Nat), numGo most l k n = .ok (m, k') → (m : Int) ≤ most
  | [], _, _, _, _, h => by simp [numGo] at h
  | c :: r, k, n, m, k', h => by
    unfold numGo at h
    split at h
    · split at h
      · cases h
      · exact numGo_mostE most r _ _ _ _ h
    · split at h
      · cases h
      · split at h
        · rename_i hh
          cases h
          exact hh.2
        · cases h
theorem numR_mostE {s : List UInt8} {a : Nat} {e most : Int} (h0 : 0 ≤ most) : 0 ≤ (numR s a e most).1 ∧ (numR s a e most).1 ≤ most := by
  unfold numR
  split
  · exact ⟨Int.le_refl 0, h0⟩
  · split
    · rename_i n k h
      exact ⟨Int.natCast_nonneg _, numGo_mostE most _ _ _ _ _ h⟩
    · exact ⟨Int.le_refl 0, h0⟩
def idsGo (s : List UInt8) (a : Nat) (e : Int) : Nat → List IdL × Nat × Int
  | 0 => ([], a, e)
  | n + 1 => let p := idsGo s a e n; let i := idR s p.2.1 p.2.2; (p.1 ++ [mkIdE i.1], i.2)
theorem idsGo_len (s : List UInt8) (a : Nat) (e : Int) : ∀ n, (idsGo s a e n).1.length = n
  | 0 => rfl
  | n + 1 => by simp only [idsGo, List.length_append, List.length_cons, List.length_nil, idsGo_len s a e n]
theorem idsGo_le {s : List UInt8} {a : Nat} {e : Int} (ha : a ≤ s.length) : ∀ n, (idsGo s a e n).2.1 ≤ s.length
  | 0 => ha
  | n + 1 => (idE_le (idsGo_le ha n)).2
/-- The reader behind the first id, behind the number; a commit. -/
def comN (s : List UInt8) : Int × Nat × Int := numR s (idR s 0 0).2.1 (idR s 0 0).2.2 4
def comP (s : List UInt8) : List IdL × Nat × Int := idsGo s (comN s).2.1 (comN s).2.2 (comN s).1.toNat
def comT (s : List UInt8) : List UInt8 × Nat × Int := textR s (comP s).2.1 (comP s).2.2 64
def comE (s : List UInt8) : ComL × Nat × Int := (⟨mkIdE (idR s 0 0).1, (comP s).1, (comT s).1⟩, (comT s).2)
/-- The end of what is read. -/
def endE (s : List UInt8) (a : Nat) (e : Int) : Int := if e ≠ 0 then e else if (a : Int) < (s.length : Int) then 5 else 0
def readC (s : List UInt8) : Option ComL := if endE s (comE s).2.1 (comE s).2.2 = 0 ∧ comOk (comE s).1 = true ∧ comB (comE s).1 = s then some (comE s).1 else none
theorem comE_par (s : List UInt8) : (comE s).1.par.length ≤ 4 := by
  show (comP s).1.length ≤ 4
  unfold comP
  rw [idsGo_len]
  have := numR_mostE (s := s) (a := (idR s 0 0).2.1) (e := (idR s 0 0).2.2) (most := 4) (by decide)
  unfold comN
  omega
/-! ### The cells of a commit -/
theorem store_com0 (t x : IdL) (p : Value) (y : List UInt8) (a : Bool) (E : TypeId) : storeV (some (a, 32)) (some (.cells (comC t p y).toArray E (0, 0))) 0 (.agg (a8 x.l)) = some (.cells (comC x p y).toArray E (0, 0)) :=
  store_mid [] _ _ _ a _ E rfl (by simp [t.h]) (cells_agg _) (by simp [x.h]) (all_v8 _)
theorem store_com1 (t : IdL) (p q : Value) (y : List UInt8) (a : Bool) (E : TypeId) (hq : Value.oneCell' q = true ∧ q.cells = #[q]) : storeV (some (a, 1)) (some (.cells (comC t p y).toArray E (0, 0))) 32 q = some (.cells (comC t q y).toArray E (0, 0)) :=
  store_mid (t.l.map v8) [p] [q] [vs y] a _ E (by simp [t.h]) rfl hq.2 rfl (by simp [hq.1])
theorem store_com2 (t : IdL) (p : Value) (y z : List UInt8) (a : Bool) (E : TypeId) : storeV (some (a, 1)) (some (.cells (comC t p y).toArray E (0, 0))) 33 (vs z) = some (.cells (comC t p z).toArray E (0, 0)) := by
  have e : ∀ y, comC t p y = (t.l.map v8 ++ [p]) ++ ([vs y] ++ []) := fun y => by unfold comC; simp only [List.append_assoc, List.append_nil]
  rw [e, e]; exact store_mid _ _ _ _ a _ E (by simp [t.h]) rfl rfl rfl rfl
theorem zrCom : zeroV Try.prog 27 = some (.agg (comC id0 (.slice none 0 0) []).toArray) := id (by kernel_rfl)
theorem build_com0 : buildV (plcT Try.prog 27) (zeroV Try.prog 27) [] = some (.agg (comC id0 (.slice none 0 0) []).toArray) := by
  rw [Try.pc27, zrCom]; rfl
theorem aggIdE : aggT Try.prog 24 = some (true, 32) := id (by kernel_rfl)
theorem zrIdE : zeroV Try.prog 24 = some (.agg (a8 id0.l)) := id (by kernel_rfl)
end Go.Proofs
end
section
open Go Go.Proofs Go.Sx Go.StP
namespace Go.Proofs
set_option maxRecDepth 10000
set_option maxHeartbeats 400000
set_option linter.unusedSimpArgs false
theorem setB_appE {b : Nat} {x : Obj} : ∀ {D L : Heap}, b ∉ keys D → setB (D ++ L) b x = D ++ setB L b x
  | [], _, _ => rfl
  | (c, y) :: r, L, h => by
    simp only [keys, List.map_cons, List.mem_cons, not_or] at h
    rw [List.cons_append, setB_other _ _ _ _ _ (Ne.symm h.1), setB_appE (by simpa [keys] using h.2)]; rfl
def ReadCS (s : List UInt8) (v : Value) (D : Heap) : Prop :=
  match readC s with
  | some c => ∃ p, v = .tuple #[.agg (comC c.tree p c.text).toArray, .bool true] ∧ Gr D 24 32 p c.par.length (c.par.map idLC).flatten
  | none => v = .tuple #[.agg (comC id0 (.slice none 0 0) []).toArray, .bool false]
structure CmG where
  g : Nat
  v : Value
  D : Heap
set_option linter.defProp false
def uOW_1 := And.intro (And.intro (And.intro (@load_rd0) (And.intro (@load_rd1) (@load_rd2))) (And.intro (And.intro (@store_rd1) (@store_rd2)) (And.intro (@load_com0) (@load_com1)))) (And.intro (And.intro (@load_com2) (And.intro (@load_com) (@cells_com))) (And.intro (And.intro (@store_com0) (@store_com2)) (And.intro (@rdIn_v8) (@rdIn_vi))))
end Go.Proofs
end
section
open Go Go.Proofs Go.Sx Go.StP
namespace Go.Proofs
set_option maxRecDepth 10000
set_option maxHeartbeats 400000
set_option linter.unusedSimpArgs false
/-! ### The reader of objects -/
def roC (r v : Value) (t : IdL) (p : Value) (y : List UInt8) : List Value := [r] ++ ([v] ++ comC t p y)
theorem load_ro0 (r v : Value) (t : IdL) (p : Value) (y : List UInt8) (n : Nat) (E : TypeId) (fz : Nat × Nat) : loadV (some (false, n)) (some (.cells (roC r v t p y).toArray E fz)) 0 = some r := load_one [] _ r n E fz rfl
theorem load_ro1 (r v : Value) (t : IdL) (p : Value) (y : List UInt8) (n : Nat) (E : TypeId) (fz : Nat × Nat) : loadV (some (false, n)) (some (.cells (roC r v t p y).toArray E fz)) 1 = some v := by
  unfold roC; exact load_one [r] _ v n E fz rfl
theorem load_ro2 (r v : Value) (t : IdL) (p : Value) (y : List UInt8) (E : TypeId) (fz : Nat × Nat) : loadV (some (true, 34)) (some (.cells (roC r v t p y).toArray E fz)) 2 = some (.agg (comC t p y).toArray) := by
  have e : roC r v t p y = [r, v] ++ (comC t p y ++ []) := by unfold roC; simp
  rw [e]; exact load_agg [r, v] _ _ E fz rfl (comC_len _ _ _)
theorem load_ro34 (r v : Value) (t : IdL) (p : Value) (y : List UInt8) (n : Nat) (E : TypeId) (fz : Nat × Nat) : loadV (some (false, n)) (some (.cells (roC r v t p y).toArray E fz)) 34 = some p := by
  have e : roC r v t p y = ([r, v] ++ t.l.map v8) ++ ([p] ++ [vs y]) := by unfold roC comC; simp
  rw [e]; exact load_one _ _ p n E fz (by simp [t.h])
theorem store_ro1 (r v q : Value) (t : IdL) (p : Value) (y : List UInt8) (a : Bool) (E : TypeId) (hq : Value.oneCell' q = true ∧ q.cells = #[q]) : storeV (some (a, 1)) (some (.cells (roC r v t p y).toArray E (0, 0))) 1 q = some (.cells (roC r q t p y).toArray E (0, 0)) := by
  unfold roC
  exact store_mid [r] [v] [q] _ a _ E rfl rfl hq.2 rfl (by simp [hq.1])
theorem store_ro2 (r v : Value) (t x : IdL) (p : Value) (y : List UInt8) (a : Bool) (E : TypeId) : storeV (some (a, 32)) (some (.cells (roC r v t p y).toArray E (0, 0))) 2 (.agg (a8 x.l)) = some (.cells (roC r v x p y).toArray E (0, 0)) := by
  have e : ∀ t, roC r v t p y = [r, v] ++ (t.l.map v8 ++ ([p] ++ [vs y])) := fun t => by unfold roC comC; simp
  rw [e, e]; exact store_mid [r, v] _ _ _ a _ E rfl (by simp [t.h]) (cells_agg _) (by simp [x.h]) (all_v8 _)
theorem store_ro34 (r v : Value) (t : IdL) (p q : Value) (y : List UInt8) (a : Bool) (E : TypeId) (hq : Value.oneCell' q = true ∧ q.cells = #[q]) : storeV (some (a, 1)) (some (.cells (roC r v t p y).toArray E (0, 0))) 34 q = some (.cells (roC r v t q y).toArray E (0, 0)) := by
  have e : ∀ p, roC r v t p y = ([r, v] ++ t.l.map v8) ++ ([p] ++ [vs y]) := fun p => by unfold roC comC; simp
  rw [e, e]; exact store_mid _ [p] [q] [vs y] a _ E (by simp [t.h]) rfl hq.2 rfl (by simp [hq.1])
theorem store_ro35 (r v : Value) (t : IdL) (p : Value) (y z : List UInt8) (a : Bool) (E : TypeId) : storeV (some (a, 1)) (some (.cells (roC r v t p y).toArray E (0, 0))) 35 (vs z) = some (.cells (roC r v t p z).toArray E (0, 0)) := by
  have e : ∀ y, roC r v t p y = (([r, v] ++ t.l.map v8) ++ [p]) ++ ([vs y] ++ []) := fun y => by unfold roC comC; simp
  rw [e, e]; exact store_mid _ _ _ _ a _ E (by simp [t.h]) rfl rfl rfl rfl
theorem build_ent2 (k : Int) (t : List UInt8) : buildV (plcT Try.prog 45) (zeroV Try.prog 45) [(1, vi k), (0, vs t)] = some (.agg (entC ⟨t, k, id0⟩).toArray) := by
  rw [Try.pc45, zrEnt]; rfl
theorem REndE_spec (b : Nat) (s : List UInt8) (a : Nat) (e : Int) (w : World) (ho : w.heap[b]? = some (.cells #[vs s, vi a, vi e] 108 (0, 0))) :
    Rets Try.prog 47 #[vp b 0] w (fun v D => v = vi (endE s a e) ∧ D = []) := REnd_spec b s a e w ho
set_option linter.defProp false
def uOX_1 := And.intro (And.intro (And.intro (And.intro (@load_rd0) (@load_rd1)) (And.intro (@load_rd2) (@store_rd1))) (And.intro (And.intro (@store_rd2) (@load_ro0)) (And.intro (@load_ro1) (@load_ro2)))) (And.intro (And.intro (And.intro (@load_ro34) (@load_ent)) (And.intro (@store_ent0) (@store_ent1))) (And.intro (And.intro (@store_ent2) (@store_entr)) (And.intro (@cells_ent) (And.intro (@rdIn_v8) (@rdIn_vi)))))
theorem two_has {w : World} {a b : Nat} {x y : Obj} (h : w.heap[a]? = some x) (h' : w.heap[b]? = some y) : ∀ p : Nat × Obj, p ∈ [(a, x), (b, y)] → w.heap[p.1]? = some p.2 := by
  intro p hp
  simp only [List.mem_cons, List.not_mem_nil, or_false] at hp
  rcases hp with rfl | rfl <;> assumption
structure EnH where
  n : Nat
  a : Nat
  e : Int
  l : List EntL
  v : Value
  D : Heap
  H : Heap
/-- What a reader of trees leaves. -/
def TreeRd (bo bw : Nat) (s : List UInt8) (v : Value) (D : Heap) : Prop :=
  v = .bool (endE s (entsE s).2.1 (entsE s).2.2 == 0 && entsOk (entsE s).1) ∧ ∃ v1, Sx.look D bo = some (.cells (roC (vp bw 0) v1 id0 (.slice none 0 0) []).toArray 87 (0, 0)) ∧ Gr D 45 34 v1 (entsE s).1.length ((entsE s).1.map entC).flatten
theorem treeRd_spec (bo bw : Nat) (s : List UInt8) (w : World) (hs : s.length < 100000) (hne : bo ≠ bw)
    (ho : w.heap[bo]? = some (.cells (roC (vp bw 0) (.slice none 0 0) id0 (.slice none 0 0) []).toArray 87 (0, 0))) (hr : w.heap[bw]? = some (.cells #[vs s, vi 0, vi 0] 108 (0, 0))) :
    Rets Try.prog 62 #[vp bo 0] w (XS w [(bo, .cells (roC (vp bw 0) (.slice none 0 0) id0 (.slice none 0 0) []).toArray 87 (0, 0)), (bw, .cells #[vs s, vi 0, vi 0] 108 (0, 0))] (TreeRd bo bw s)) := by
  have hob : bo < w.heap.size := (Array.getElem?_eq_some_iff.1 ho).1
  have hwb : bw < w.heap.size := (Array.getElem?_eq_some_iff.1 hr).1
  refine Rets.enterX Try.func62 rfl (rs := [.tmp 2]) Try.results62 Try.ntmps62 (two_has ho hr) (by simp [keys, hne]) ?_
  simp only [List.size_toArray, List.length_cons, List.length_nil, Nat.reduceAdd, Nat.reduceSub, List.replicate_succ, List.replicate_zero, List.cons_append, List.nil_append]
  ((try with_reducible refine Cw.go [] ?_); (try simp (disch := (first | assumption | omega | (simp only [lenS, lenT, UInt64.reduceToNat]; try omega))) only [↓S0, S1, Try.fx, uOX_1, Nat.reduceAdd, Nat.reducePow, Int.reducePow, Nat.reduceBEq, ↓reduceIte, UInt8.reduceToNat, UInt16.reduceToNat, UInt32.reduceToNat, UInt64.reduceToNat, Int.reduceToNat]))
  refine Cw.loopG (G := EnH) [4, 5, 6, 7, 8, 9, 10, 11, 12, 13, 14, 15, 16, 17, 18, 19, 20, 3, 21, 22, 23, 24, 25, 26, 27, 28, 29, 30, 31, 32, 33, 34, 35, 36] (fun q => []) (fun q => q.H) (fun q => EntsJ s q.n q.a q.e q.l ∧ New w.heap.size q.D ∧ Gr q.D 45 34 q.v q.l.length (q.l.map entC).flatten ∧ ((bo, Obj.cells (roC (vp bw 0) q.v id0 (.slice none 0 0) []).toArray 87 (0, 0)) :: (bw, .cells #[vs s, vi q.a, vi q.e] 108 (0, 0)) :: q.D).Perm q.H) (fun q => q.n) ⟨s.length + 1, 0, 0, [], .slice none 0 0, [], [(bo, Obj.cells (roC (vp bw 0) (.slice none 0 0) id0 (.slice none 0 0) []).toArray 87 (0, 0)), (bw, .cells #[vs s, vi 0, vi 0] 108 (0, 0))]⟩ rfl rfl ?_ ?_
  · exact ⟨EntsJ.init s, trivial, Gr.nl, List.Perm.refl _⟩
  · intro q jq hq
    simp only [overFrom, pin, setF_0, setF_s, List.contains_cons, List.contains_nil, Nat.reduceBEq, Bool.or_false, Bool.false_or, Bool.or_true, Bool.true_or, Nat.reduceAdd, ↓reduceIte, Bool.false_eq_true]
    obtain ⟨n, a, e, l, v, D, H0⟩ := q
    simp only at hq ⊢
    obtain ⟨hJ, hN, hG, hPm⟩ := hq
    refine Cw.permL hPm ?_
    clear hPm
    have hle := hJ.le
    ((try with_reducible refine Cw.go [3] ?_); (try simp (disch := (first | assumption | omega | (simp only [lenS, lenT, UInt64.reduceToNat]; try omega))) only [↓S0, S1, Try.fx, uOX_1, Nat.reduceAdd, Nat.reducePow, Int.reducePow, Nat.reduceBEq, ↓reduceIte, UInt8.reduceToNat, UInt16.reduceToNat, UInt32.reduceToNat, UInt64.reduceToNat, Int.reduceToNat]))
    refine Ow.callFV rfl Try.call47 (fun w' hw' => REndE_spec bw s a e w' (hw'.has _ _ (List.mem_cons_of_mem _ List.mem_cons_self))) ?_
    by_cases hc : e = 0 ∧ a < s.length
    · obtain ⟨m, rfl, hJ'⟩ := hJ.next hc
      obtain ⟨he, hlt⟩ := hc
      have h5 : endE s a e = 5 := by unfold endE; rw [if_neg (by simp [he]), if_pos (by omega)]
      have d1 : (endE s a e == 5) = true := by simp [h5]
      refine Ow.go rfl ?_
      simp (disch := (first | assumption | omega | (simp only [lenS, lenT, UInt64.reduceToNat]; try omega))) only [↓S0, S1, Try.fx, uOX_1, Nat.reduceAdd, Nat.reducePow, Int.reducePow, Nat.reduceBEq, ↓reduceIte, UInt8.reduceToNat, UInt16.reduceToNat, UInt32.reduceToNat, UInt64.reduceToNat, Int.reduceToNat, d1]
      have hp := numR_le (e := e) (most := 2) hle
      have hq := textE_le (e := (numR s a e 2).2.2) (most := 32) hp.2
      have heq : entR s a e = (⟨(textR s (numR s a e 2).2.1 (numR s a e 2).2.2 32).1, (numR s a e 2).1, mkIdE (idR s (textR s (numR s a e 2).2.1 (numR s a e 2).2.2 32).2.1 (textR s (numR s a e 2).2.1 (numR s a e 2).2.2 32).2.2).1⟩, (idR s (textR s (numR s a e 2).2.1 (numR s a e 2).2.2 32).2.1 (textR s (numR s a e 2).2.1 (numR s a e 2).2.2 32).2.2).2) := rfl
      have hil := idE_len s (textR s (numR s a e 2).2.1 (numR s a e 2).2.2 32).2.1 (textR s (numR s a e 2).2.1 (numR s a e 2).2.2 32).2.2
      refine Cw.regionD [bo] [12] 11 3 45 12 _ rfl (by kernel_rfl) (by kernel_rfl) rfl (by kernel_rfl) zrEnt (fun hD => ?_)
      simp only [List.replicate_succ, List.replicate_zero]
      refine OwD.run [0, 1, 2, 3, 5, 6, 7, 8] [true, true, true, true, false, true, true, true, true, false, false, false, false] 4 rfl hD (by kernel_rfl) fun k hk => ?_
      simp only [nl_cons, ↓pickL_nil, ↓pickL_cons, ↓nthO_0, ↓nthO_s, consO_some]
      simp (disch := (first | assumption | omega | (simp only [lenS, lenT, UInt64.reduceToNat]; try omega))) only [↓S0, S1, Try.fx, uOX_1, Nat.reduceAdd, Nat.reducePow, Int.reducePow, Nat.reduceBEq, ↓reduceIte, UInt8.reduceToNat, UInt16.reduceToNat, UInt32.reduceToNat, UInt64.reduceToNat, Int.reduceToNat, Md.next_sofnil, Md.next_sofnil]
      (with_reducible refine hk _ _ _ ?_); clear hk k
      refine OwD.soft 4 _ hD rfl (by kernel_rfl) (fun E hE => ?_)
      refine Ow.callM rfl rfl Try.call68 (by simp [keys]) (fun w' hw' => RNumber_spec bw s a e 2 w' hle (by omega) (hw'.has _ _ (by simp))) ?_
      generalize numR s a e 2 = p at *
      obtain ⟨kd, a1, e1⟩ := p
      simp only at hp hq heq hil ⊢
      simp (disch := (first | assumption | omega | (simp only [lenS, lenT, UInt64.reduceToNat]; try omega))) only [setB_same, setB_other, List.cons_append, List.nil_append]
      with_reducible refine Ow.nil ?_
      refine ⟨(bo, Obj.cells (roC (vp bw 0) v id0 (.slice none 0 0) []).toArray 87 (0, 0)) :: (bw, .cells #[vs s, vi a1, vi e1] 108 (0, 0)) :: D, (by classical exact List.perm_iff_count.2 fun a => by simp only [List.count_append, List.count_cons, List.count_nil] <;> omega), fun r hr => ?_, ?_⟩
      · rw [List.mem_singleton.1 hr]
        simp only [read_same]
      simp only [List.set_cons_zero, List.set_cons_succ, putF_some, setF_0, setF_s]
      refine OwD.soft 9 _ hD rfl (by kernel_rfl) (fun E hE => ?_)
      refine Ow.callM rfl rfl Try.call46 (by simp [keys]) (fun w' hw' => RText_spec bw s a1 e1 32 w' hp.2 (by omega) (hw'.has _ _ (by simp))) ?_
      generalize textR s a1 e1 32 = q at *
      obtain ⟨tt, a2, e2⟩ := q
      simp only at hq heq hil ⊢
      simp (disch := (first | assumption | omega | (simp only [lenS, lenT, UInt64.reduceToNat]; try omega))) only [setB_same, setB_other, List.cons_append, List.nil_append]
      with_reducible refine Ow.nil ?_
      refine ⟨(bo, Obj.cells (roC (vp bw 0) v id0 (.slice none 0 0) []).toArray 87 (0, 0)) :: (bw, .cells #[vs s, vi a2, vi e2] 108 (0, 0)) :: D, (by classical exact List.perm_iff_count.2 fun a => by simp only [List.count_append, List.count_cons, List.count_nil] <;> omega), fun r hr => ?_, ?_⟩
      · rw [List.mem_singleton.1 hr]
        simp only [read_same]
      simp only [List.set_cons_zero, List.set_cons_succ, putF_some, setF_0, setF_s]
      refine OwD.soft 10 _ hD rfl (by kernel_rfl) (fun E hE => ?_)
      refine Ow.build (.agg (entC ⟨tt, kd, id0⟩).toArray) rfl (build_ent2 kd tt) ?_
      with_reducible refine Ow.nil ?_
      refine ⟨_, List.Perm.refl _, fun _ _ => rfl, ?_⟩
      simp only [List.set_cons_zero, List.set_cons_succ, putF_some, setF_0, setF_s]
      refine OwD.real [12] rfl hD (by kernel_rfl) (by kernel_rfl) (by kernel_rfl) (by kernel_rfl) (fun r hr => by rw [List.mem_singleton.1 hr]; exact .inl (by simp [keys])) ?_
      simp only [nl_cons, ↓pickL_nil, ↓pickL_cons, ↓nthO_0, ↓nthO_s, consO_some]
      intro b3 hw3 hbL
      simp only [setF_0, setF_s]
      have hst3 := store_entr ⟨tt, kd, id0⟩ ent0
      refine Ow.store rfl rfl rfl (L' := ((bo, Obj.cells (roC (vp bw 0) v id0 (.slice none 0 0) []).toArray 87 (0, 0)) :: (bw, .cells #[vs s, vi a2, vi e2] 108 (0, 0)) :: D) ++ [(b3, .cells (entC ⟨tt, kd, id0⟩).toArray 45 (0, 0))]) ?_ ?_
      · simp only [ev_tmp, getF_0, getF_s]
        rw [Try.ag45, storeAt_p, look_app_r' hbL, cells_agg, hst3, upd_some, setB_app_r hbL]
        exact []
      refine Ow.go rfl ?_
      simp (disch := (first | assumption | omega | (simp only [lenS, lenT, UInt64.reduceToNat]; try omega))) only [↓S0, S1, Try.fx, uOX_1, Nat.reduceAdd, Nat.reducePow, Int.reducePow, Nat.reduceBEq, ↓reduceIte, UInt8.reduceToNat, UInt16.reduceToNat, UInt32.reduceToNat, UInt64.reduceToNat, Int.reduceToNat]
      refine Cw.permL (M := (b3, .cells (entC ⟨tt, kd, id0⟩).toArray 45 (0, 0)) :: (bo, Obj.cells (roC (vp bw 0) v id0 (.slice none 0 0) []).toArray 87 (0, 0)) :: (bw, .cells #[vs s, vi a2, vi e2] 108 (0, 0)) :: D) (by classical exact List.perm_iff_count.2 fun a => by simp only [List.count_append, List.count_cons, List.count_nil] <;> omega) ?_
      have hb3o : bo ≠ b3 := by simp [keys] at hbL; omega
      have hb3w : bw ≠ b3 := by simp [keys] at hbL; omega
      ((try with_reducible refine Cw.go [] ?_); (try simp (disch := (first | assumption | omega | (simp only [lenS, lenT, UInt64.reduceToNat]; try omega))) only [↓S0, S1, Try.fx, uOX_1, Nat.reduceAdd, Nat.reducePow, Int.reducePow, Nat.reduceBEq, ↓reduceIte, UInt8.reduceToNat, UInt16.reduceToNat, UInt32.reduceToNat, UInt64.reduceToNat, Int.reduceToNat]))
      refine Ow.callM rfl rfl Try.call80 (by simp [keys]) (fun w' hw' => RId_spec bw s a2 e2 w' hq.2 (by omega) (hw'.has _ _ (by simp))) ?_
      generalize idR s a2 e2 = i at *
      obtain ⟨il, a3, e3⟩ := i
      simp only at heq hil ⊢
      obtain ⟨I, hI⟩ : ∃ I, mkIdE il = I := ⟨_, rfl⟩
      have hiI : il = I.l := by rw [← hI, mkIdE_eq hil]
      rw [hI] at heq
      rw [hiI]
      simp (disch := (first | assumption | omega | (simp only [lenS, lenT, UInt64.reduceToNat]; try omega))) only [setB_same, setB_other, List.cons_append, List.nil_append]
      refine Ow.go rfl ?_
      simp (disch := (first | assumption | omega | (simp only [lenS, lenT, UInt64.reduceToNat]; try omega))) only [↓S0, S1, Try.fx, uOX_1, Nat.reduceAdd, Nat.reducePow, Int.reducePow, Nat.reduceBEq, ↓reduceIte, UInt8.reduceToNat, UInt16.reduceToNat, UInt32.reduceToNat, UInt64.reduceToNat, Int.reduceToNat]
      generalize hx : ({ name := tt, kind := kd, id := I } : EntL) = x
      rw [hx] at heq
      rw [heq] at hJ'
      refine Cw.regionS [bo, b3] [0, 1, 2, 3, 4, 5, 6, 7, 8, 9, 10] [10] (by kernel_rfl) (by kernel_rfl) (by kernel_rfl) ?_
      simp only [nl_cons, ↓pickL_nil, ↓pickL_cons, ↓nthO_0, ↓nthO_s, consO_some]
      refine Ow.goQ ?_
      simp (disch := (first | assumption | omega | (simp only [lenS, lenT, UInt64.reduceToNat]; try omega))) only [↓S0, S1, Try.fx, uOX_1, Nat.reduceAdd, Nat.reducePow, Int.reducePow, Nat.reduceBEq, ↓reduceIte, UInt8.reduceToNat, UInt16.reduceToNat, UInt32.reduceToNat, UInt64.reduceToNat, Int.reduceToNat]
      refine Ow.soft rfl rfl rfl ?_
      refine Ow.buildSlice (e := 45) (entC x).toArray rfl rfl (slice_one Try.underlying22 aggEnt zrEnt (by decide) (entC_len x)) fun b13 hb13 hw13 => ?_
      have h3d : b3 < b13 := above_to hb13 (by simp [keys])
      with_reducible refine Ow.nil ?_
      refine ⟨readB_appR (by simp [keys]), ?_⟩
      try simp only [List.cons_append, List.nil_append]
      refine Ow.soft rfl rfl rfl ?_
      refine Ow.permL (M := D ++ [(b3, Obj.cells (entC x).toArray 45 (0, 0)), (bo, Obj.cells (roC (vp bw 0) v id0 (.slice none 0 0) []).toArray 87 (0, 0)), (bw, .cells #[vs s, vi a3, vi e3] 108 (0, 0)), (b13, Obj.cells (entC x).toArray 45 (0, 0))]) (by classical exact List.perm_iff_count.2 fun a => by simp only [List.count_append, List.count_cons, List.count_nil] <;> omega) ?_
      refine Ow.appendX (e := 45) (k := 1) (new := entC x) (X := D) v rfl rfl rfl rfl Try.underlying22 aggEnt (by kernel_rfl) zrEnt (by rw [cells_ent, List.size_toArray, entC_len]) Try.underlying22 (by intro k h; cases h) hG (fun w' hw' => AppX.one1 (hw'.has b13 (.cells (entC x).toArray 45 (0, 0)) (by simp)) (entC_len _) (entC_one _)) (by omega) (by have := hJ.cnt; omega) (fun B v4 D4 hA4 hB4 hbuf hk1 hk2 hlk => ?_)
      have hB3 : b3 < B := above_to hA4 (by simp [keys_app, keys])
      have hN4 : New w.heap.size D4 := New.of_le fun q hq => by
        rcases hk2 q hq with h | h
        · exact hN.le q h
        · omega
      have ho4 : bo ∉ keys D4 := hN4.not hob
      have h34 : b3 ∉ keys D4 := fun hm => by
        rcases hk2 b3 hm with h | h
        · exact hbL (by simp only [keys, List.map_cons, List.mem_cons]; exact .inr (.inr h))
        · omega
      with_reducible refine Ow.nil ?_
      refine ⟨fun q hq => ?_, ?_⟩
      · simp only [List.mem_cons, List.not_mem_nil, or_false] at hq
        rcases hq with rfl | rfl
        · rw [readB_appr ho4]
          simp (disch := omega) only [read_same, read_other]
        · rw [readB_appr h34]
          simp (disch := omega) only [read_same, read_other]
      have hlko : ∀ M, Sx.look (D4 ++ M) bo = Sx.look M bo := fun M => look_app_r ho4
      have hsbo : ∀ M x, setB (D4 ++ M) bo x = D4 ++ setB M bo x := fun M x => setB_appE ho4
      have st1 := fun a E => store_ro1 (vp bw 0) v v4 id0 (.slice none 0 0) [] a E hbuf.cell
      have hst7 : storeAtV (aggT Try.prog 22) (D4 ++ [(b3, Obj.cells (entC x).toArray 45 (0, 0)), (bo, Obj.cells (roC (vp bw 0) v id0 (.slice none 0 0) []).toArray 87 (0, 0)), (bw, .cells #[vs s, vi a3, vi e3] 108 (0, 0)), (b13, Obj.cells (entC x).toArray 45 (0, 0))]) (vp bo 1) v4 = some (D4 ++ [(b3, Obj.cells (entC x).toArray 45 (0, 0)), (bo, Obj.cells (roC (vp bw 0) v4 id0 (.slice none 0 0) []).toArray 87 (0, 0)), (bw, .cells #[vs s, vi a3, vi e3] 108 (0, 0)), (b13, Obj.cells (entC x).toArray 45 (0, 0))]) := by
        rw [Try.ag22, storeAt_p, hlko]
        simp (disch := omega) only [look_same, look_other, st1, upd_some, hsbo, setB_same, setB_other]
      refine Ow.goQ ?_
      simp (disch := (first | assumption | omega | (simp only [lenS, lenT, UInt64.reduceToNat]; try omega))) only [↓S0, S1, Try.fx, uOX_1, Nat.reduceAdd, Nat.reducePow, Int.reducePow, Nat.reduceBEq, ↓reduceIte, UInt8.reduceToNat, UInt16.reduceToNat, UInt32.reduceToNat, UInt64.reduceToNat, Int.reduceToNat]
      refine Ow.store rfl rfl rfl hst7 ?_
      refine Ow.go rfl ?_
      simp (disch := (first | assumption | omega | (simp only [lenS, lenT, UInt64.reduceToNat]; try omega))) only [↓S0, S1, Try.fx, uOX_1, Nat.reduceAdd, Nat.reducePow, Int.reducePow, Nat.reduceBEq, ↓reduceIte, UInt8.reduceToNat, UInt16.reduceToNat, UInt32.reduceToNat, UInt64.reduceToNat, Int.reduceToNat]
      refine Again.mk (EnH.mk m a3 e3 (l ++ [x]) v4 (D4 ++ [(b3, Obj.cells (entC x).toArray 45 (0, 0)), (b13, Obj.cells (entC x).toArray 45 (0, 0))]) _) (by show m < m + 1; omega) ⟨hJ', hN4.app ⟨by omega, by omega, trivial⟩, ?_, ?_⟩ rfl rfl
      · show Gr _ _ _ _ (l ++ [x]).length ((l ++ [x]).map entC).flatten
        rw [List.length_append, List.map_append, List.flatten_append, show ([x].map entC).flatten = entC x by simp]
        exact Gr.app (.inl hbuf)
      · exact (by classical exact List.perm_iff_count.2 fun a => by simp only [List.count_append, List.count_cons, List.count_nil] <;> omega)
    · have hd := hJ.done hc
      have hsh := hJ.sh (by omega)
      have hcn := hJ.cnt
      have h5 : endE s a e ≠ 5 := by
        unfold endE
        by_cases he : e = 0
        · rw [if_neg (by simp [he]), if_neg (by omega)]; decide
        · rw [if_pos he]; exact hJ.five
      have d1 : (endE s a e == 5) = false := by simpa using h5
      have hE : Ext w [(bo, Obj.cells (roC (vp bw 0) (.slice none 0 0) id0 (.slice none 0 0) []).toArray 87 (0, 0)), (bw, Obj.cells #[vs s, vi 0, vi 0] 108 (0, 0))] ((bo, Obj.cells (roC (vp bw 0) v id0 (.slice none 0 0) []).toArray 87 (0, 0)) :: (bw, Obj.cells #[vs s, vi a, vi e] 108 (0, 0)) :: D) := by
        refine ⟨fun c hc => ?_, fun c hc => ?_⟩
        · simp only [keys, List.map_cons, List.map_nil, List.mem_cons, List.not_mem_nil, or_false] at hc ⊢
          rcases hc with h | h | h
          · exact .inl (.inl h)
          · exact .inl (.inr h)
          · exact .inr (hN.le c h)
        · simp only [keys, List.map_cons, List.map_nil, List.mem_cons, List.not_mem_nil, or_false] at hc ⊢
          rcases hc with h | h
          · exact .inl h
          · exact .inr (.inl h)
      have hF : Gr ((bo, Obj.cells (roC (vp bw 0) v id0 (.slice none 0 0) []).toArray 87 (0, 0)) :: (bw, Obj.cells #[vs s, vi a, vi e] 108 (0, 0)) :: D) 45 34 v l.length (l.map entC).flatten := hG.keep fun b o hb ho => by
        have := hN.le b (key_of_look ho)
        simp (disch := omega) only [look_other]
        exact ho
      unfold TreeRd
      rw [hd]
      refine Ow.go rfl ?_
      simp (disch := (first | assumption | omega | (simp only [lenS, lenT, UInt64.reduceToNat]; try omega))) only [↓S0, S1, Try.fx, uOX_1, Nat.reduceAdd, Nat.reducePow, Int.reducePow, Nat.reduceBEq, ↓reduceIte, UInt8.reduceToNat, UInt16.reduceToNat, UInt32.reduceToNat, UInt64.reduceToNat, Int.reduceToNat, d1]
      refine Ow.callFV rfl Try.call47 (fun w' hw' => REndE_spec bw s a e w' (hw'.has _ _ (List.mem_cons_of_mem _ List.mem_cons_self))) ?_
      by_cases he : endE s a e = 0
      · have d2 : (endE s a e == 0) = true := by simp [he]
        rw [d2]
        refine Ow.go rfl ?_
        simp (disch := (first | assumption | omega | (simp only [lenS, lenT, UInt64.reduceToNat]; try omega))) only [↓S0, S1, Try.fx, uOX_1, Nat.reduceAdd, Nat.reducePow, Int.reducePow, Nat.reduceBEq, ↓reduceIte, UInt8.reduceToNat, UInt16.reduceToNat, UInt32.reduceToNat, UInt64.reduceToNat, Int.reduceToNat, d2]
        refine Ow.callFV rfl Try.call36 (fun w' hw' => entries_spec v l w' (hG.slM (fun b o hm => hw'.has b o (by simp [hm])) rfl rfl entC_len) (by omega) hsh) ?_
        refine Ow.go rfl ?_
        simp (disch := (first | assumption | omega | (simp only [lenS, lenT, UInt64.reduceToNat]; try omega))) only [↓S0, S1, Try.fx, uOX_1, Nat.reduceAdd, Nat.reducePow, Int.reducePow, Nat.reduceBEq, ↓reduceIte, UInt8.reduceToNat, UInt16.reduceToNat, UInt32.reduceToNat, UInt64.reduceToNat, Int.reduceToNat]
        ((try with_reducible refine Cw.go [] ?_); (try simp (disch := (first | assumption | omega | (simp only [lenS, lenT, UInt64.reduceToNat]; try omega))) only [↓S0, S1, Try.fx, uOX_1, Nat.reduceAdd, Nat.reducePow, Int.reducePow, Nat.reduceBEq, ↓reduceIte, UInt8.reduceToNat, UInt16.reduceToNat, UInt32.reduceToNat, UInt64.reduceToNat, Int.reduceToNat]))
        refine ⟨_, (by simp (disch := (first | assumption | omega | (simp only [lenS, lenT, UInt64.reduceToNat]; try omega))) only [↓S0, S1, Try.fx, uOX_1, Nat.reduceAdd, Nat.reducePow, Int.reducePow, Nat.reduceBEq, ↓reduceIte, UInt8.reduceToNat, UInt16.reduceToNat, UInt32.reduceToNat, UInt64.reduceToNat, Int.reduceToNat]; rfl), ?_⟩
        exact ⟨hE, rfl, v, by simp only [look_same], hF⟩
      · have d2 : (endE s a e == 0) = false := by simpa using he
        rw [d2]
        refine Ow.go rfl ?_
        simp (disch := (first | assumption | omega | (simp only [lenS, lenT, UInt64.reduceToNat]; try omega))) only [↓S0, S1, Try.fx, uOX_1, Nat.reduceAdd, Nat.reducePow, Int.reducePow, Nat.reduceBEq, ↓reduceIte, UInt8.reduceToNat, UInt16.reduceToNat, UInt32.reduceToNat, UInt64.reduceToNat, Int.reduceToNat, d2]
        ((try with_reducible refine Cw.go [] ?_); (try simp (disch := (first | assumption | omega | (simp only [lenS, lenT, UInt64.reduceToNat]; try omega))) only [↓S0, S1, Try.fx, uOX_1, Nat.reduceAdd, Nat.reducePow, Int.reducePow, Nat.reduceBEq, ↓reduceIte, UInt8.reduceToNat, UInt16.reduceToNat, UInt32.reduceToNat, UInt64.reduceToNat, Int.reduceToNat]))
        refine ⟨_, (by simp (disch := (first | assumption | omega | (simp only [lenS, lenT, UInt64.reduceToNat]; try omega))) only [↓S0, S1, Try.fx, uOX_1, Nat.reduceAdd, Nat.reducePow, Int.reducePow, Nat.reduceBEq, ↓reduceIte, UInt8.reduceToNat, UInt16.reduceToNat, UInt32.reduceToNat, UInt64.reduceToNat, Int.reduceToNat]; rfl), ?_⟩
        exact ⟨hE, rfl, v, by simp only [look_same], hF⟩
end Go.Proofs
end
section
open Go Go.Proofs Go.Sx Go.StP
namespace Go.Proofs
set_option maxRecDepth 10000
set_option maxHeartbeats 400000
set_option linter.unusedSimpArgs false
set_option linter.defProp false
def uOY_1 := And.intro (And.intro (And.intro (@load_rd0) (And.intro (@load_rd1) (@load_rd2))) (And.intro (And.intro (@store_rd1) (@store_rd2)) (And.intro (@load_ro0) (@load_ro1)))) (And.intro (And.intro (@load_ro2) (And.intro (@load_ro34) (@store_ro2))) (And.intro (And.intro (@store_ro35) (@cells_com)) (And.intro (@rdIn_v8) (@rdIn_vi))))
structure CmH where
  g : Nat
  v : Value
  D : Heap
  H : Heap
/-- What a reader of commits leaves. -/
def ComRd (bo bw : Nat) (s : List UInt8) (v : Value) (D : Heap) : Prop :=
  v = .bool (endE s (comE s).2.1 (comE s).2.2 == 0 && comOk (comE s).1) ∧ ∃ p, Sx.look D bo = some (.cells (roC (vp bw 0) (.slice none 0 0) (comE s).1.tree p (comE s).1.text).toArray 87 (0, 0)) ∧ Gr D 24 32 p (comE s).1.par.length ((comE s).1.par.map idLC).flatten
theorem comRd_spec (bo bw : Nat) (s : List UInt8) (w : World) (hs : s.length < 100000) (hne : bo ≠ bw)
    (ho : w.heap[bo]? = some (.cells (roC (vp bw 0) (.slice none 0 0) id0 (.slice none 0 0) []).toArray 87 (0, 0))) (hr : w.heap[bw]? = some (.cells #[vs s, vi 0, vi 0] 108 (0, 0))) :
    Rets Try.prog 63 #[vp bo 0] w (XS w [(bo, Obj.cells (roC (vp bw 0) (.slice none 0 0) id0 (.slice none 0 0) []).toArray 87 (0, 0)), (bw, Obj.cells #[vs s, vi 0, vi 0] 108 (0, 0))] (ComRd bo bw s)) := by
  have hob : bo < w.heap.size := (Array.getElem?_eq_some_iff.1 ho).1
  have hwb : bw < w.heap.size := (Array.getElem?_eq_some_iff.1 hr).1
  refine Rets.enterX Try.func63 rfl (rs := [.tmp 2]) Try.results63 Try.ntmps63 (two_has ho hr) (by simp [keys, hne]) ?_
  simp only [List.size_toArray, List.length_cons, List.length_nil, Nat.reduceAdd, Nat.reduceSub, List.replicate_succ, List.replicate_zero, List.cons_append, List.nil_append]
  ((try with_reducible refine Cw.go [] ?_); (try simp (disch := (first | assumption | omega | (simp only [lenS, lenT, UInt64.reduceToNat]; try omega))) only [↓S0, S1, Try.fx, uOY_1, Nat.reduceAdd, Nat.reducePow, Int.reducePow, Nat.reduceBEq, ↓reduceIte, UInt8.reduceToNat, UInt16.reduceToNat, UInt32.reduceToNat, UInt64.reduceToNat, Int.reduceToNat]))
  refine Ow.callM rfl rfl Try.call80 (by simp [keys]) (fun w' hw' => RId_spec bw s 0 0 w' (Nat.zero_le _) (by omega) (hw'.has _ _ (List.mem_cons_of_mem _ List.mem_cons_self))) ?_
  have ip := idE_le (s := s) (a := 0) (e := 0) (Nat.zero_le _)
  have np := numR_le (e := (idR s 0 0).2.2) (most := 4) ip.2
  have nm := numR_mostE (s := s) (a := (idR s 0 0).2.1) (e := (idR s 0 0).2.2) (most := 4) (by decide)
  obtain ⟨T, hT⟩ : ∃ T, mkIdE (idR s 0 0).1 = T := ⟨_, rfl⟩
  have hiT : (idR s 0 0).1 = T.l := by rw [← hT, mkIdE_eq (idE_len s 0 0)]
  have hcE : comE s = (⟨T, (comP s).1, (comT s).1⟩, (comT s).2) := by unfold comE; rw [hT]
  rw [hiT]
  simp (disch := (first | assumption | omega | (simp only [lenS, lenT, UInt64.reduceToNat]; try omega))) only [setB_same, setB_other, List.cons_append, List.nil_append]
  refine Ow.go rfl ?_
  simp (disch := (first | assumption | omega | (simp only [lenS, lenT, UInt64.reduceToNat]; try omega))) only [↓S0, S1, Try.fx, uOY_1, Nat.reduceAdd, Nat.reducePow, Int.reducePow, Nat.reduceBEq, ↓reduceIte, UInt8.reduceToNat, UInt16.reduceToNat, UInt32.reduceToNat, UInt64.reduceToNat, Int.reduceToNat]
  refine Ow.callM rfl rfl Try.call68 (by simp [keys]) (fun w' hw' => RNumber_spec bw s _ _ 4 w' ip.2 (by omega) (hw'.has _ _ (List.mem_cons_of_mem _ List.mem_cons_self))) ?_
  have hP : comP s = idsGo s (numR s (idR s 0 0).2.1 (idR s 0 0).2.2 4).2.1 (numR s (idR s 0 0).2.1 (idR s 0 0).2.2 4).2.2 (numR s (idR s 0 0).2.1 (idR s 0 0).2.2 4).1.toNat := rfl
  generalize numR s (idR s 0 0).2.1 (idR s 0 0).2.2 4 = nr at *
  obtain ⟨cn, na, ne⟩ := nr
  simp only at np nm hP ⊢
  obtain ⟨k, rfl⟩ := Int.eq_ofNat_of_zero_le nm.1
  rw [Int.toNat_natCast] at hP
  simp (disch := (first | assumption | omega | (simp only [lenS, lenT, UInt64.reduceToNat]; try omega))) only [setB_same, setB_other, List.cons_append, List.nil_append]
  refine Ow.go rfl ?_
  simp (disch := (first | assumption | omega | (simp only [lenS, lenT, UInt64.reduceToNat]; try omega))) only [↓S0, S1, Try.fx, uOY_1, Nat.reduceAdd, Nat.reducePow, Int.reducePow, Nat.reduceBEq, ↓reduceIte, UInt8.reduceToNat, UInt16.reduceToNat, UInt32.reduceToNat, UInt64.reduceToNat, Int.reduceToNat]
  refine Cw.loopG (G := CmH) [18, 19, 20, 21, 22, 23, 24, 25, 26, 27, 28, 29, 30, 31, 32, 33, 34, 35, 17] (fun q => [(17, vi q.g)]) (fun q => q.H) (fun q => q.g ≤ k ∧ New w.heap.size q.D ∧ Gr q.D 24 32 q.v q.g ((idsGo s na ne q.g).1.map idLC).flatten ∧ ((bo, Obj.cells (roC (vp bw 0) (.slice none 0 0) T q.v []).toArray 87 (0, 0)) :: (bw, Obj.cells #[vs s, vi (idsGo s na ne q.g).2.1, vi (idsGo s na ne q.g).2.2] 108 (0, 0)) :: q.D).Perm q.H) (fun q => k - q.g) ⟨0, .slice none 0 0, [], [(bo, Obj.cells (roC (vp bw 0) (.slice none 0 0) T (.slice none 0 0) []).toArray 87 (0, 0)), (bw, Obj.cells #[vs s, vi na, vi ne] 108 (0, 0))]⟩ rfl rfl ?_ ?_
  · exact ⟨Nat.zero_le _, trivial, Gr.nl, List.Perm.refl _⟩
  · intro q jq hq
    simp only [overFrom, pin, setF_0, setF_s, List.contains_cons, List.contains_nil, Nat.reduceBEq, Bool.or_false, Bool.false_or, Bool.or_true, Bool.true_or, Nat.reduceAdd, ↓reduceIte, Bool.false_eq_true]
    obtain ⟨g, v, D, H0⟩ := q
    simp only at hq ⊢
    obtain ⟨hgk, hN, hG, hPm⟩ := hq
    refine Cw.permL hPm ?_
    clear hPm
    have gle := idsGo_le (e := ne) np.2 g
    by_cases hlt : g < k
    · have hgs : idsGo s na ne (g + 1) = ((idsGo s na ne g).1 ++ [mkIdE (idR s (idsGo s na ne g).2.1 (idsGo s na ne g).2.2).1], (idR s (idsGo s na ne g).2.1 (idsGo s na ne g).2.2).2) := rfl
      ((try with_reducible refine Cw.go [] ?_); (try simp (disch := (first | assumption | omega | (simp only [lenS, lenT, UInt64.reduceToNat]; try omega))) only [↓S0, S1, Try.fx, uOY_1, Nat.reduceAdd, Nat.reducePow, Int.reducePow, Nat.reduceBEq, ↓reduceIte, UInt8.reduceToNat, UInt16.reduceToNat, UInt32.reduceToNat, UInt64.reduceToNat, Int.reduceToNat]))
      refine Cw.regionS [bo] [0, 1, 2, 3, 4, 6, 7, 8, 5, 9, 10, 11, 12, 13, 14, 15, 16] [16] (by kernel_rfl) (by kernel_rfl) (by kernel_rfl) ?_
      simp only [nl_cons, ↓pickL_nil, ↓pickL_cons, ↓nthO_0, ↓nthO_s, consO_some]
      refine Ow.goQ ?_
      simp (disch := (first | assumption | omega | (simp only [lenS, lenT, UInt64.reduceToNat]; try omega))) only [↓S0, S1, Try.fx, uOY_1, Nat.reduceAdd, Nat.reducePow, Int.reducePow, Nat.reduceBEq, ↓reduceIte, UInt8.reduceToNat, UInt16.reduceToNat, UInt32.reduceToNat, UInt64.reduceToNat, Int.reduceToNat]
      refine Ow.soft rfl rfl rfl ?_
      refine Ow.callM rfl rfl Try.call80 (by simp [keys]) (fun w' hw' => RId_spec bw s (idsGo s na ne g).2.1 (idsGo s na ne g).2.2 w' gle (by omega) (hw'.has _ _ (List.mem_cons_of_mem _ List.mem_cons_self))) ?_
      with_reducible refine Ow.nil ?_
      refine ⟨fun b hb => read_setB_ne (by simp only [List.mem_cons, List.not_mem_nil, or_false] at hb; omega), ?_⟩
      have hil := idE_len s (idsGo s na ne g).2.1 (idsGo s na ne g).2.2
      obtain ⟨I, hI⟩ : ∃ I, mkIdE (idR s (idsGo s na ne g).2.1 (idsGo s na ne g).2.2).1 = I := ⟨_, rfl⟩
      have hiI : (idR s (idsGo s na ne g).2.1 (idsGo s na ne g).2.2).1 = I.l := by rw [← hI, mkIdE_eq hil]
      rw [hI] at hgs
      have hg1 : (idsGo s na ne (g + 1)).1 = (idsGo s na ne g).1 ++ [I] := by rw [hgs]
      have hg2 : (idsGo s na ne (g + 1)).2 = (idR s (idsGo s na ne g).2.1 (idsGo s na ne g).2.2).2 := by rw [hgs]
      rw [hiI, ← hg2]
      simp (disch := (first | assumption | omega | (simp only [lenS, lenT, UInt64.reduceToNat]; try omega))) only [setB_same, setB_other, List.cons_append, List.nil_append]
      refine Ow.soft rfl rfl rfl ?_
      refine Ow.buildSlice (e := 24) (a8 I.l) rfl rfl (slice_one (cs := I.l.map v8) Try.underlying25 aggIdE zrIdE (by decide) (by simp [I.h])) fun b13 hb13 hw13 => ?_
      with_reducible refine Ow.nil ?_
      refine ⟨readB_appR (by simp [keys]), ?_⟩
      try simp only [List.cons_append, List.nil_append]
      refine Ow.soft rfl rfl rfl ?_
      refine Ow.permL (M := D ++ [(bo, Obj.cells (roC (vp bw 0) (.slice none 0 0) T v []).toArray 87 (0, 0)), (bw, Obj.cells #[vs s, vi (idsGo s na ne (g + 1)).2.1, vi (idsGo s na ne (g + 1)).2.2] 108 (0, 0)), (b13, Obj.cells (a8 I.l) 24 (0, 0))]) (by classical exact List.perm_iff_count.2 fun a => by simp only [List.count_append, List.count_cons, List.count_nil] <;> omega) ?_
      refine Ow.appendX (e := 24) (k := 1) (new := idLC I) (X := D) v rfl rfl rfl rfl Try.underlying25 aggIdE (by kernel_rfl) zrIdE (by rw [cells_agg, size_a8, id0.h]) Try.underlying25 (by intro k h; cases h) hG (fun w' hw' => AppX.one1 (hw'.has b13 (.cells (a8 I.l) 24 (0, 0)) (by simp)) (idLC_len' I) (idLC_one' I)) (by omega) (by omega) (fun B v4 D4 hA4 hB4 hbuf hk1 hk2 hlk => ?_)
      have hN4 : New w.heap.size D4 := New.of_le fun q hq => by
        rcases hk2 q hq with h | h
        · exact hN.le q h
        · omega
      have ho4 : bo ∉ keys D4 := hN4.not hob
      with_reducible refine Ow.nil ?_
      refine ⟨fun q hq => ?_, ?_⟩
      · rw [List.mem_singleton] at hq
        subst hq
        rw [readB_appr ho4]
        simp only [read_same]
      have hlko : ∀ M, Sx.look (D4 ++ M) bo = Sx.look M bo := fun M => look_app_r ho4
      have hsbo : ∀ M x, setB (D4 ++ M) bo x = D4 ++ setB M bo x := fun M x => setB_appE ho4
      have st1 := fun a E => store_ro34 (vp bw 0) (.slice none 0 0) T v v4 [] a E hbuf.cell
      have hst7 : storeAtV (aggT Try.prog 25) (D4 ++ [(bo, Obj.cells (roC (vp bw 0) (.slice none 0 0) T v []).toArray 87 (0, 0)), (bw, Obj.cells #[vs s, vi (idsGo s na ne (g + 1)).2.1, vi (idsGo s na ne (g + 1)).2.2] 108 (0, 0)), (b13, Obj.cells (a8 I.l) 24 (0, 0))]) (vp bo 34) v4 = some (D4 ++ [(bo, Obj.cells (roC (vp bw 0) (.slice none 0 0) T v4 []).toArray 87 (0, 0)), (bw, Obj.cells #[vs s, vi (idsGo s na ne (g + 1)).2.1, vi (idsGo s na ne (g + 1)).2.2] 108 (0, 0)), (b13, Obj.cells (a8 I.l) 24 (0, 0))]) := by
        rw [Try.ag25, storeAt_p, hlko]
        simp (disch := omega) only [look_same, look_other, st1, upd_some, hsbo, setB_same, setB_other]
      refine Ow.goQ ?_
      simp (disch := (first | assumption | omega | (simp only [lenS, lenT, UInt64.reduceToNat]; try omega))) only [↓S0, S1, Try.fx, uOY_1, Nat.reduceAdd, Nat.reducePow, Int.reducePow, Nat.reduceBEq, ↓reduceIte, UInt8.reduceToNat, UInt16.reduceToNat, UInt32.reduceToNat, UInt64.reduceToNat, Int.reduceToNat]
      refine Ow.store rfl rfl rfl hst7 ?_
      refine Ow.go rfl ?_
      simp (disch := (first | assumption | omega | (simp only [lenS, lenT, UInt64.reduceToNat]; try omega))) only [↓S0, S1, Try.fx, uOY_1, Nat.reduceAdd, Nat.reducePow, Int.reducePow, Nat.reduceBEq, ↓reduceIte, UInt8.reduceToNat, UInt16.reduceToNat, UInt32.reduceToNat, UInt64.reduceToNat, Int.reduceToNat]
      refine Again.mk (CmH.mk (g + 1) v4 (D4 ++ [(b13, Obj.cells (a8 I.l) 24 (0, 0))]) _) (by show k - (g + 1) < k - g; omega) ⟨by show g + 1 ≤ k; omega, hN4.app ⟨by omega, trivial⟩, ?_, ?_⟩ rfl rfl
      · show Gr _ _ _ _ (g + 1) ((idsGo s na ne (g + 1)).1.map idLC).flatten
        rw [hg1, List.map_append, List.flatten_append, show ([I].map idLC).flatten = idLC I by simp]
        exact Gr.app (.inl hbuf)
      · exact (by classical exact List.perm_iff_count.2 fun a => by simp only [List.count_append, List.count_cons, List.count_nil] <;> omega)
    · obtain rfl : g = k := by omega
      rw [← hP] at hG
      rw [← hP] at gle
      rw [← hP]
      have tp := textE_le (e := (comP s).2.2) (most := 64) gle
      ((try with_reducible refine Cw.go [] ?_); (try simp (disch := (first | assumption | omega | (simp only [lenS, lenT, UInt64.reduceToNat]; try omega))) only [↓S0, S1, Try.fx, uOY_1, Nat.reduceAdd, Nat.reducePow, Int.reducePow, Nat.reduceBEq, ↓reduceIte, UInt8.reduceToNat, UInt16.reduceToNat, UInt32.reduceToNat, UInt64.reduceToNat, Int.reduceToNat]))
      refine Ow.callM rfl rfl Try.call46 (by simp [keys]) (fun w' hw' => RText_spec bw s (comP s).2.1 (comP s).2.2 64 w' gle (by omega) (hw'.has _ _ (List.mem_cons_of_mem _ List.mem_cons_self))) ?_
      simp (disch := (first | assumption | omega | (simp only [lenS, lenT, UInt64.reduceToNat]; try omega))) only [setB_same, setB_other, List.cons_append, List.nil_append]
      refine Ow.go rfl ?_
      simp (disch := (first | assumption | omega | (simp only [lenS, lenT, UInt64.reduceToNat]; try omega))) only [↓S0, S1, Try.fx, uOY_1, Nat.reduceAdd, Nat.reducePow, Int.reducePow, Nat.reduceBEq, ↓reduceIte, UInt8.reduceToNat, UInt16.reduceToNat, UInt32.reduceToNat, UInt64.reduceToNat, Int.reduceToNat]
      have hT2 : comT s = textR s (comP s).2.1 (comP s).2.2 64 := rfl
      have htl := textE_len s (comP s).2.1 (comP s).2.2 64
      rw [hT2] at hcE
      generalize textR s (comP s).2.1 (comP s).2.2 64 = tx at *
      obtain ⟨tt, a3, e3⟩ := tx
      simp only at tp hcE htl ⊢
      have hPl : (comP s).1.length = g := by rw [hP, idsGo_len]
      generalize (comP s).1 = pl at *
      have hC : ∀ w', Hp w ((bo, Obj.cells (roC (vp bw 0) (.slice none 0 0) T v tt).toArray 87 (0, 0)) :: (bw, Obj.cells #[vs s, vi a3, vi e3] 108 (0, 0)) :: D) w' → ComS w' (.agg (comC T v tt).toArray) ⟨T, pl, tt⟩ := fun w' hw' =>
        ⟨v, rfl, hG.slM (fun b o hm => hw'.has b o (by simp [hm])) hPl rfl idLC_len'⟩
      have hE : Ext w [(bo, Obj.cells (roC (vp bw 0) (.slice none 0 0) id0 (.slice none 0 0) []).toArray 87 (0, 0)), (bw, Obj.cells #[vs s, vi 0, vi 0] 108 (0, 0))] ((bo, Obj.cells (roC (vp bw 0) (.slice none 0 0) T v tt).toArray 87 (0, 0)) :: (bw, Obj.cells #[vs s, vi a3, vi e3] 108 (0, 0)) :: D) := by
        refine ⟨fun c hc => ?_, fun c hc => ?_⟩
        · simp only [keys, List.map_cons, List.map_nil, List.mem_cons, List.not_mem_nil, or_false] at hc ⊢
          rcases hc with h | h | h
          · exact .inl (.inl h)
          · exact .inl (.inr h)
          · exact .inr (hN.le c h)
        · simp only [keys, List.map_cons, List.map_nil, List.mem_cons, List.not_mem_nil, or_false] at hc ⊢
          rcases hc with h | h
          · exact .inl h
          · exact .inr (.inl h)
      have hF : Gr ((bo, Obj.cells (roC (vp bw 0) (.slice none 0 0) T v tt).toArray 87 (0, 0)) :: (bw, Obj.cells #[vs s, vi a3, vi e3] 108 (0, 0)) :: D) 24 32 v pl.length (pl.map idLC).flatten := by
        rw [hPl]
        exact hG.keep fun b o hb ho => by
          have := hN.le b (key_of_look ho)
          simp (disch := omega) only [look_other]
          exact ho
      unfold ComRd
      rw [hcE]
      refine Ow.callFV rfl Try.call47 (fun w' hw' => REndE_spec bw s a3 e3 w' (hw'.has _ _ (List.mem_cons_of_mem _ List.mem_cons_self))) ?_
      by_cases he : endE s a3 e3 = 0
      · have d2 : (endE s a3 e3 == 0) = true := by simp [he]
        rw [d2]
        refine Ow.go rfl ?_
        simp (disch := (first | assumption | omega | (simp only [lenS, lenT, UInt64.reduceToNat]; try omega))) only [↓S0, S1, Try.fx, uOY_1, Nat.reduceAdd, Nat.reducePow, Int.reducePow, Nat.reduceBEq, ↓reduceIte, UInt8.reduceToNat, UInt16.reduceToNat, UInt32.reduceToNat, UInt64.reduceToNat, Int.reduceToNat, d2]
        refine Ow.callFV rfl Try.call37 (fun w' hw' => commit_spec _ _ w' (hC w' hw') (by show pl.length < 1000000; omega) (by show tt.length < 1099511627776; omega)) ?_
        refine Ow.go rfl ?_
        simp (disch := (first | assumption | omega | (simp only [lenS, lenT, UInt64.reduceToNat]; try omega))) only [↓S0, S1, Try.fx, uOY_1, Nat.reduceAdd, Nat.reducePow, Int.reducePow, Nat.reduceBEq, ↓reduceIte, UInt8.reduceToNat, UInt16.reduceToNat, UInt32.reduceToNat, UInt64.reduceToNat, Int.reduceToNat]
        ((try with_reducible refine Cw.go [] ?_); (try simp (disch := (first | assumption | omega | (simp only [lenS, lenT, UInt64.reduceToNat]; try omega))) only [↓S0, S1, Try.fx, uOY_1, Nat.reduceAdd, Nat.reducePow, Int.reducePow, Nat.reduceBEq, ↓reduceIte, UInt8.reduceToNat, UInt16.reduceToNat, UInt32.reduceToNat, UInt64.reduceToNat, Int.reduceToNat]))
        refine ⟨_, (by simp (disch := (first | assumption | omega | (simp only [lenS, lenT, UInt64.reduceToNat]; try omega))) only [↓S0, S1, Try.fx, uOY_1, Nat.reduceAdd, Nat.reducePow, Int.reducePow, Nat.reduceBEq, ↓reduceIte, UInt8.reduceToNat, UInt16.reduceToNat, UInt32.reduceToNat, UInt64.reduceToNat, Int.reduceToNat]; rfl), ?_⟩
        exact ⟨hE, rfl, v, by simp only [look_same], hF⟩
      · have d2 : (endE s a3 e3 == 0) = false := by simpa using he
        rw [d2]
        refine Ow.go rfl ?_
        simp (disch := (first | assumption | omega | (simp only [lenS, lenT, UInt64.reduceToNat]; try omega))) only [↓S0, S1, Try.fx, uOY_1, Nat.reduceAdd, Nat.reducePow, Int.reducePow, Nat.reduceBEq, ↓reduceIte, UInt8.reduceToNat, UInt16.reduceToNat, UInt32.reduceToNat, UInt64.reduceToNat, Int.reduceToNat, d2]
        ((try with_reducible refine Cw.go [] ?_); (try simp (disch := (first | assumption | omega | (simp only [lenS, lenT, UInt64.reduceToNat]; try omega))) only [↓S0, S1, Try.fx, uOY_1, Nat.reduceAdd, Nat.reducePow, Int.reducePow, Nat.reduceBEq, ↓reduceIte, UInt8.reduceToNat, UInt16.reduceToNat, UInt32.reduceToNat, UInt64.reduceToNat, Int.reduceToNat]))
        refine ⟨_, (by simp (disch := (first | assumption | omega | (simp only [lenS, lenT, UInt64.reduceToNat]; try omega))) only [↓S0, S1, Try.fx, uOY_1, Nat.reduceAdd, Nat.reducePow, Int.reducePow, Nat.reduceBEq, ↓reduceIte, UInt8.reduceToNat, UInt16.reduceToNat, UInt32.reduceToNat, UInt64.reduceToNat, Int.reduceToNat]; rfl), ?_⟩
        exact ⟨hE, rfl, v, by simp only [look_same], hF⟩
end Go.Proofs
end
section
open Go Go.Proofs Go.Sx Go.StP
namespace Go.Proofs
set_option maxRecDepth 10000
set_option maxHeartbeats 400000
set_option linter.unusedSimpArgs false
/-! ### Objects, read -/
theorem blobRd_spec (v : Value) (w : World) : Rets Try.prog 61 #[v] w (fun v' D => v' = .bool true ∧ D = []) := by
  refine Rets.enterV Try.func61 rfl (rs := [.tmp 2]) Try.results61 Try.ntmps61 ?_
  simp only [List.size_toArray, List.length_cons, List.length_nil, Nat.reduceAdd, Nat.reduceSub, List.replicate_succ, List.replicate_zero, List.cons_append, List.nil_append]
  ((try with_reducible refine Cw.go [] ?_); (try simp (disch := (first | assumption | omega | (simp only [lenS, lenT, UInt64.reduceToNat]; try omega))) only [↓S0, S1, Try.fx, Nat.reduceAdd, Nat.reducePow, Int.reducePow, Nat.reduceBEq, ↓reduceIte, UInt8.reduceToNat, UInt16.reduceToNat, UInt32.reduceToNat, UInt64.reduceToNat, Int.reduceToNat]))
  refine ⟨_, (by simp (disch := (first | assumption | omega | (simp only [lenS, lenT, UInt64.reduceToNat]; try omega))) only [↓S0, S1, Try.fx, Nat.reduceAdd, Nat.reducePow, Int.reducePow, Nat.reduceBEq, ↓reduceIte, UInt8.reduceToNat, UInt16.reduceToNat, UInt32.reduceToNat, UInt64.reduceToNat, Int.reduceToNat]; rfl), trivial, ?_⟩
  rfl
abbrev obV (k : Int) (t : List UInt8) : Value := .agg #[vi k, vs t]
theorem load_ob (k : Int) (t : List UInt8) (E : TypeId) (fz : Nat × Nat) : loadV (some (true, 2)) (some (.cells #[vi k, vs t] E fz)) 0 = some (obV k t) := (rfl)
theorem load_ob0 (k : Int) (t : List UInt8) (n : Nat) (E : TypeId) (fz : Nat × Nat) : loadV (some (false, n)) (some (.cells #[vi k, vs t] E fz)) 0 = some (vi k) := (rfl)
theorem load_ob1 (k : Int) (t : List UInt8) (n : Nat) (E : TypeId) (fz : Nat × Nat) : loadV (some (false, n)) (some (.cells #[vi k, vs t] E fz)) 1 = some (vs t) := (rfl)
theorem store_ob (k k' : Int) (t t' : List UInt8) (a : Bool) (E : TypeId) : storeV (some (a, 2)) (some (.cells #[vi k', vs t'] E (0, 0))) 0 (obV k t) = some (.cells #[vi k, vs t] E (0, 0)) := (rfl)
set_option linter.defProp false
def uOZ_1 := And.intro (And.intro (@load_ob) (And.intro (@load_ob0) (@load_ob1))) (And.intro (@store_ob) (And.intro (@rdIn_v8) (@rdIn_vi)))
def fnV (k : Nat) : Value := .func (.func k) #[] #[]
def fnsV : Array Value := #[.nilFunc, fnV 61, fnV 62, fnV 63]
abbrev T4 : TypeId := 106
theorem build_fns : buildV (plcT Try.prog T4) (zeroV Try.prog T4) [(1, fnV 61), (2, fnV 62), (3, fnV 63)] = some (.agg fnsV) := by
  have hp : plcT Try.prog T4 = some [(0, 1), (1, 1), (2, 1), (3, 1)] := id (by kernel_rfl)
  have hz : zeroV Try.prog T4 = some (.agg #[.nilFunc, .nilFunc, .nilFunc, .nilFunc]) := id (by kernel_rfl)
  rw [hp, hz]; rfl
theorem zrFns : zeroV Try.prog T4 = some (.agg #[.nilFunc, .nilFunc, .nilFunc, .nilFunc]) := id (by kernel_rfl)
theorem store_fns (a : Bool) (E : TypeId) : storeV (some (a, 4)) (some (.cells #[.nilFunc, .nilFunc, .nilFunc, .nilFunc] E (0, 0))) 0 (.agg fnsV) = some (.cells fnsV E (0, 0)) := (rfl)
theorem build_ro (x : Value) (hx : x.cells = #[x]) : buildV (plcT Try.prog 87) (zeroV Try.prog 87) [(0, x)] = some (.agg (roC x (.slice none 0 0) id0 (.slice none 0 0) []).toArray) := by
  have hp : plcT Try.prog 87 = some [(0, 1), (1, 1), (2, 34)] := id (by kernel_rfl)
  have hz : zeroV Try.prog 87 = some (.agg (roC (.pointer none) (.slice none 0 0) id0 (.slice none 0 0) []).toArray) := id (by kernel_rfl)
  rw [hp, hz]
  simp only [buildV, fillV, List.getElem?_cons_zero, hx]
  rfl
/-- What reading an object gives. -/
def RdOk (k : Int) (t : List UInt8) : Bool :=
  if 1 ≤ k ∧ k ≤ 3 ∧ t.length ≤ 4096 then
    (if k = 1 then true else if k = 2 then (endE t (entsE t).2.1 (entsE t).2.2 == 0 && entsOk (entsE t).1) else (endE t (comE t).2.1 (comE t).2.2 == 0 && comOk (comE t).1))
  else false
def RdS (k : Int) (t : List UInt8) (v : Value) (D : Heap) : Prop :=
  ∃ p, v = .tuple #[p, .bool (RdOk k t)] ∧ (1 ≤ k ∧ k ≤ 3 ∧ t.length ≤ 4096 → ∃ bo bw v1 c1 x1 y1, p = vp bo 0 ∧ Sx.look D bo = some (.cells (roC (vp bw 0) v1 c1 x1 y1).toArray 87 (0, 0)) ∧
    (k = 2 → Gr D 45 34 v1 (entsE t).1.length ((entsE t).1.map entC).flatten) ∧
    (k = 3 → c1 = (comE t).1.tree ∧ y1 = (comE t).1.text ∧ Gr D 24 32 x1 (comE t).1.par.length ((comE t).1.par.map idLC).flatten) ∧ (k ≠ 2 → v1 = .slice none 0 0))
theorem readO_spec (k : Int) (t : List UInt8) (w : World) : Rets Try.prog 42 #[obV k t] w (XS w [] (RdS k t)) := by
  refine Rets.enterX Try.func42 rfl (rs := [.tmp 2, .tmp 3]) Try.results42 Try.ntmps42 (fun p hp => by cases hp) (by simp [keys]) ?_
  simp only [List.size_toArray, List.length_cons, List.length_nil, Nat.reduceAdd, Nat.reduceSub, List.replicate_succ, List.replicate_zero, List.cons_append, List.nil_append]
  ((try with_reducible refine Cw.go [] ?_); (try simp (disch := (first | assumption | omega | (simp only [lenS, lenT, UInt64.reduceToNat]; try omega))) only [↓S0, S1, Try.fx, uOZ_1, Nat.reduceAdd, Nat.reducePow, Int.reducePow, Nat.reduceBEq, ↓reduceIte, UInt8.reduceToNat, UInt16.reduceToNat, UInt32.reduceToNat, UInt64.reduceToNat, Int.reduceToNat]))
  refine Ow.box rfl rfl fun b1 hb1 hw1 => ?_
  simp only [ev_tmp, getF_0, getF_s, cells_agg, List.nil_append]
  refine Ow.go rfl ?_
  simp (disch := (first | assumption | omega | (simp only [lenS, lenT, UInt64.reduceToNat]; try omega))) only [↓S0, S1, Try.fx, uOZ_1, Nat.reduceAdd, Nat.reducePow, Int.reducePow, Nat.reduceBEq, ↓reduceIte, UInt8.reduceToNat, UInt16.reduceToNat, UInt32.reduceToNat, UInt64.reduceToNat, Int.reduceToNat]
  refine Ow.build (.agg fnsV) rfl build_fns ?_
  refine Ow.go rfl ?_
  simp (disch := (first | assumption | omega | (simp only [lenS, lenT, UInt64.reduceToNat]; try omega))) only [↓S0, S1, Try.fx, uOZ_1, Nat.reduceAdd, Nat.reducePow, Int.reducePow, Nat.reduceBEq, ↓reduceIte, UInt8.reduceToNat, UInt16.reduceToNat, UInt32.reduceToNat, UInt64.reduceToNat, Int.reduceToNat]
  refine Ow.alloc rfl rfl zrFns fun b4 hb4 hw4 => ?_
  simp only [cells_agg, List.nil_append, List.cons_append]
  have h14 : b1 < b4 := above_to hb4 (by simp [keys])
  refine Ow.go rfl ?_
  simp (disch := (first | assumption | omega | (simp only [lenS, lenT, UInt64.reduceToNat]; try omega))) only [↓S0, S1, Try.fx, uOZ_1, Nat.reduceAdd, Nat.reducePow, Int.reducePow, Nat.reduceBEq, ↓reduceIte, UInt8.reduceToNat, UInt16.reduceToNat, UInt32.reduceToNat, UInt64.reduceToNat, Int.reduceToNat, store_fns]
  by_cases h1 : k < 1
  · have d1 : decide (k < 1) = true := decide_eq_true h1
    have e : RdOk k t = false := by unfold RdOk; rw [if_neg (by omega)]
    ((try with_reducible refine Cw.go [] ?_); (try simp (disch := (first | assumption | omega | (simp only [lenS, lenT, UInt64.reduceToNat]; try omega))) only [↓S0, S1, Try.fx, uOZ_1, Nat.reduceAdd, Nat.reducePow, Int.reducePow, Nat.reduceBEq, ↓reduceIte, UInt8.reduceToNat, UInt16.reduceToNat, UInt32.reduceToNat, UInt64.reduceToNat, Int.reduceToNat, d1]))
    refine ⟨_, (by simp (disch := (first | assumption | omega | (simp only [lenS, lenT, UInt64.reduceToNat]; try omega))) only [↓S0, S1, Try.fx, uOZ_1, Nat.reduceAdd, Nat.reducePow, Int.reducePow, Nat.reduceBEq, ↓reduceIte, UInt8.reduceToNat, UInt16.reduceToNat, UInt32.reduceToNat, UInt64.reduceToNat, Int.reduceToNat]; rfl), ?_⟩
    exact ⟨Ext.of_new ⟨hw1, hw4, trivial⟩, .pointer none, by rw [e]; rfl, fun h => absurd h.1 (by omega)⟩
  · have d1 : decide (k < 1) = false := decide_eq_false h1
    by_cases h2 : 3 < k
    · have d2 : decide (3 < k) = true := decide_eq_true h2
      have e : RdOk k t = false := by unfold RdOk; rw [if_neg (by omega)]
      ((try with_reducible refine Cw.go [] ?_); (try simp (disch := (first | assumption | omega | (simp only [lenS, lenT, UInt64.reduceToNat]; try omega))) only [↓S0, S1, Try.fx, uOZ_1, Nat.reduceAdd, Nat.reducePow, Int.reducePow, Nat.reduceBEq, ↓reduceIte, UInt8.reduceToNat, UInt16.reduceToNat, UInt32.reduceToNat, UInt64.reduceToNat, Int.reduceToNat, d1, d2]))
      refine ⟨_, (by simp (disch := (first | assumption | omega | (simp only [lenS, lenT, UInt64.reduceToNat]; try omega))) only [↓S0, S1, Try.fx, uOZ_1, Nat.reduceAdd, Nat.reducePow, Int.reducePow, Nat.reduceBEq, ↓reduceIte, UInt8.reduceToNat, UInt16.reduceToNat, UInt32.reduceToNat, UInt64.reduceToNat, Int.reduceToNat]; rfl), ?_⟩
      exact ⟨Ext.of_new ⟨hw1, hw4, trivial⟩, .pointer none, by rw [e]; rfl, fun h => absurd h.2.1 (by omega)⟩
    · have d2 : decide (3 < k) = false := decide_eq_false h2
      by_cases h3 : 4096 < t.length
      · have d3 : decide (4096 < (t.length : Int)) = true := decide_eq_true (by omega)
        have e : RdOk k t = false := by unfold RdOk; rw [if_neg (by omega)]
        ((try with_reducible refine Cw.go [] ?_); (try simp (disch := (first | assumption | omega | (simp only [lenS, lenT, UInt64.reduceToNat]; try omega))) only [↓S0, S1, Try.fx, uOZ_1, Nat.reduceAdd, Nat.reducePow, Int.reducePow, Nat.reduceBEq, ↓reduceIte, UInt8.reduceToNat, UInt16.reduceToNat, UInt32.reduceToNat, UInt64.reduceToNat, Int.reduceToNat, d1, d2, d3]))
        refine ⟨_, (by simp (disch := (first | assumption | omega | (simp only [lenS, lenT, UInt64.reduceToNat]; try omega))) only [↓S0, S1, Try.fx, uOZ_1, Nat.reduceAdd, Nat.reducePow, Int.reducePow, Nat.reduceBEq, ↓reduceIte, UInt8.reduceToNat, UInt16.reduceToNat, UInt32.reduceToNat, UInt64.reduceToNat, Int.reduceToNat]; rfl), ?_⟩
        exact ⟨Ext.of_new ⟨hw1, hw4, trivial⟩, .pointer none, by rw [e]; rfl, fun h => absurd h.2.2 (by omega)⟩
      · have d3 : decide (4096 < (t.length : Int)) = false := decide_eq_false (by omega)
        ((try with_reducible refine Cw.go [] ?_); (try simp (disch := (first | assumption | omega | (simp only [lenS, lenT, UInt64.reduceToNat]; try omega))) only [↓S0, S1, Try.fx, uOZ_1, Nat.reduceAdd, Nat.reducePow, Int.reducePow, Nat.reduceBEq, ↓reduceIte, UInt8.reduceToNat, UInt16.reduceToNat, UInt32.reduceToNat, UInt64.reduceToNat, Int.reduceToNat, d1, d2, d3]))
        refine Ow.callF rfl rfl Try.call43 (S := fun B v D => ∃ b', B ≤ b' ∧ v = vp b' 0 ∧ D = [(b', .cells #[vs t, vi 0, vi 0] 108 (0, 0))]) (fun w' hw' => RNew_spec t w') ?_
        rintro B v D hab hB ⟨bw, hbw, rfl, rfl⟩
        obtain ⟨h1B, h4B, -⟩ := hab
        refine ⟨_, Mrg.fresh (by intro q hq; simp only [keys, List.map_cons, List.map_nil, List.mem_singleton] at hq; omega), ?_⟩
        simp only [List.cons_append, List.nil_append]
        refine Ow.go rfl ?_
        simp (disch := (first | assumption | omega | (simp only [lenS, lenT, UInt64.reduceToNat]; try omega))) only [↓S0, S1, Try.fx, uOZ_1, Nat.reduceAdd, Nat.reducePow, Int.reducePow, Nat.reduceBEq, ↓reduceIte, UInt8.reduceToNat, UInt16.reduceToNat, UInt32.reduceToNat, UInt64.reduceToNat, Int.reduceToNat]
        refine Ow.build (.agg (roC (vp bw 0) (.slice none 0 0) id0 (.slice none 0 0) []).toArray) rfl (build_ro _ rfl) ?_
        refine Ow.go rfl ?_
        simp (disch := (first | assumption | omega | (simp only [lenS, lenT, UInt64.reduceToNat]; try omega))) only [↓S0, S1, Try.fx, uOZ_1, Nat.reduceAdd, Nat.reducePow, Int.reducePow, Nat.reduceBEq, ↓reduceIte, UInt8.reduceToNat, UInt16.reduceToNat, UInt32.reduceToNat, UInt64.reduceToNat, Int.reduceToNat]
        refine Ow.box rfl rfl fun bo hbo hwo => ?_
        simp only [ev_tmp, getF_0, getF_s, cells_agg, List.nil_append, List.cons_append]
        have hobw : bo ≠ bw := by have := above_to hbo (show bw ∈ keys _ by simp [keys]); omega
        rcases (show k = 1 ∨ k = 2 ∨ k = 3 by omega) with rfl | rfl | rfl
        · have lf : ∀ n E fz, loadV (some (false, n)) (some (.cells fnsV E fz)) 1 = some (fnV 61) := fun _ _ _ => rfl
          have e : RdOk 1 t = true := by unfold RdOk; rw [if_pos (by omega)]; rfl
          refine Ow.go rfl ?_
          simp (disch := (first | assumption | omega | (simp only [lenS, lenT, UInt64.reduceToNat]; try omega))) only [↓S0, S1, Try.fx, uOZ_1, Nat.reduceAdd, Nat.reducePow, Int.reducePow, Nat.reduceBEq, ↓reduceIte, UInt8.reduceToNat, UInt16.reduceToNat, UInt32.reduceToNat, UInt64.reduceToNat, Int.reduceToNat, lf]
          refine Ow.callV rfl rfl Try.call61 (fun w' hw' => by have := blobRd_spec (vp bo 0) w'; simpa [ev_tmp, getF_s, getF_0] using this) ?_
          refine Ow.go rfl ?_
          simp (disch := (first | assumption | omega | (simp only [lenS, lenT, UInt64.reduceToNat]; try omega))) only [↓S0, S1, Try.fx, uOZ_1, Nat.reduceAdd, Nat.reducePow, Int.reducePow, Nat.reduceBEq, ↓reduceIte, UInt8.reduceToNat, UInt16.reduceToNat, UInt32.reduceToNat, UInt64.reduceToNat, Int.reduceToNat]
          ((try with_reducible refine Cw.go [] ?_); (try simp (disch := (first | assumption | omega | (simp only [lenS, lenT, UInt64.reduceToNat]; try omega))) only [↓S0, S1, Try.fx, uOZ_1, Nat.reduceAdd, Nat.reducePow, Int.reducePow, Nat.reduceBEq, ↓reduceIte, UInt8.reduceToNat, UInt16.reduceToNat, UInt32.reduceToNat, UInt64.reduceToNat, Int.reduceToNat]))
          refine ⟨_, (by simp (disch := (first | assumption | omega | (simp only [lenS, lenT, UInt64.reduceToNat]; try omega))) only [↓S0, S1, Try.fx, uOZ_1, Nat.reduceAdd, Nat.reducePow, Int.reducePow, Nat.reduceBEq, ↓reduceIte, UInt8.reduceToNat, UInt16.reduceToNat, UInt32.reduceToNat, UInt64.reduceToNat, Int.reduceToNat]; rfl), ?_⟩
          refine ⟨Ext.of_new ⟨hw1, hw4, by omega, hwo, trivial⟩, vp bo 0, by rw [e]; rfl, fun h => ⟨bo, bw, .slice none 0 0, id0, .slice none 0 0, [], rfl, ?_, fun h => absurd h (by decide), fun h => absurd h (by decide), fun _ => rfl⟩⟩
          have hb1o : b1 ≠ bo := by have := above_to hbo (show b1 ∈ keys _ by simp [keys]); omega
          have hb4o : b4 ≠ bo := by have := above_to hbo (show b4 ∈ keys _ by simp [keys]); omega
          simp (disch := omega) only [look_same, look_other]
        · have lf : ∀ n E fz, loadV (some (false, n)) (some (.cells fnsV E fz)) 2 = some (fnV 62) := fun _ _ _ => rfl
          have e : RdOk 2 t = (endE t (entsE t).2.1 (entsE t).2.2 == 0 && entsOk (entsE t).1) := by unfold RdOk; rw [if_pos (by omega)]; rfl
          refine Ow.go rfl ?_
          simp (disch := (first | assumption | omega | (simp only [lenS, lenT, UInt64.reduceToNat]; try omega))) only [↓S0, S1, Try.fx, uOZ_1, Nat.reduceAdd, Nat.reducePow, Int.reducePow, Nat.reduceBEq, ↓reduceIte, UInt8.reduceToNat, UInt16.reduceToNat, UInt32.reduceToNat, UInt64.reduceToNat, Int.reduceToNat, lf]
          refine Ow.permL (M := [(bo, Obj.cells (roC (vp bw 0) (.slice none 0 0) id0 (.slice none 0 0) []).toArray 87 (0, 0)), (bw, Obj.cells #[vs t, vi 0, vi 0] 108 (0, 0))] ++ [(b1, Obj.cells #[vi 2, vs t] 31 (0, 0)), (b4, Obj.cells fnsV 106 (0, 0))]) (by classical exact List.perm_iff_count.2 fun a => by simp only [List.count_append, List.count_cons, List.count_nil] <;> omega) ?_
          refine Ow.callFnX (b := vp bo 0) (X := [(bo, Obj.cells (roC (vp bw 0) (.slice none 0 0) id0 (.slice none 0 0) []).toArray 87 (0, 0)), (bw, Obj.cells #[vs t, vi 0, vi 0] 108 (0, 0))]) (Y := [(b1, Obj.cells #[vi 2, vs t] 31 (0, 0)), (b4, Obj.cells fnsV 106 (0, 0))]) rfl rfl rfl rfl rfl Try.call62 (fun w' hw' hX hn => treeRd_spec bo bw t w' (by omega) hobw (hX _ List.mem_cons_self) (hX _ (List.mem_cons_of_mem _ List.mem_cons_self))) (fun v D hC hS => ?_)
          obtain ⟨rfl, v1, hl1, hg1⟩ := hS
          have hNX : New w.heap.size (D ++ [(b1, Obj.cells #[vi 2, vs t] 31 (0, 0)), (b4, Obj.cells fnsV 106 (0, 0))]) := by
            refine New.of_le fun c hc => ?_
            rw [keys_app, List.mem_append] at hc
            rcases hc with hc | hc
            · rcases hC.new c hc with h | ⟨-, h⟩
              · simp only [keys, List.map_cons, List.map_nil, List.mem_cons, List.not_mem_nil, or_false] at h; omega
              · exact h
            · simp only [keys, List.map_cons, List.map_nil, List.mem_cons, List.not_mem_nil, or_false] at hc; omega
          refine Ow.go rfl ?_
          simp (disch := (first | assumption | omega | (simp only [lenS, lenT, UInt64.reduceToNat]; try omega))) only [↓S0, S1, Try.fx, uOZ_1, Nat.reduceAdd, Nat.reducePow, Int.reducePow, Nat.reduceBEq, ↓reduceIte, UInt8.reduceToNat, UInt16.reduceToNat, UInt32.reduceToNat, UInt64.reduceToNat, Int.reduceToNat]
          ((try with_reducible refine Cw.go [] ?_); (try simp (disch := (first | assumption | omega | (simp only [lenS, lenT, UInt64.reduceToNat]; try omega))) only [↓S0, S1, Try.fx, uOZ_1, Nat.reduceAdd, Nat.reducePow, Int.reducePow, Nat.reduceBEq, ↓reduceIte, UInt8.reduceToNat, UInt16.reduceToNat, UInt32.reduceToNat, UInt64.reduceToNat, Int.reduceToNat]))
          refine ⟨_, (by simp (disch := (first | assumption | omega | (simp only [lenS, lenT, UInt64.reduceToNat]; try omega))) only [↓S0, S1, Try.fx, uOZ_1, Nat.reduceAdd, Nat.reducePow, Int.reducePow, Nat.reduceBEq, ↓reduceIte, UInt8.reduceToNat, UInt16.reduceToNat, UInt32.reduceToNat, UInt64.reduceToNat, Int.reduceToNat]; rfl), ?_⟩
          exact ⟨Ext.of_new hNX, vp bo 0, by rw [e]; rfl, fun _ => ⟨bo, bw, v1, _, _, _, rfl, look_app hl1, fun _ => hg1.app, fun h => absurd h (by decide), fun h => absurd rfl h⟩⟩
        · have lf : ∀ n E fz, loadV (some (false, n)) (some (.cells fnsV E fz)) 3 = some (fnV 63) := fun _ _ _ => rfl
          have e : RdOk 3 t = (endE t (comE t).2.1 (comE t).2.2 == 0 && comOk (comE t).1) := by unfold RdOk; rw [if_pos (by omega)]; rfl
          refine Ow.go rfl ?_
          simp (disch := (first | assumption | omega | (simp only [lenS, lenT, UInt64.reduceToNat]; try omega))) only [↓S0, S1, Try.fx, uOZ_1, Nat.reduceAdd, Nat.reducePow, Int.reducePow, Nat.reduceBEq, ↓reduceIte, UInt8.reduceToNat, UInt16.reduceToNat, UInt32.reduceToNat, UInt64.reduceToNat, Int.reduceToNat, lf]
          refine Ow.permL (M := [(bo, Obj.cells (roC (vp bw 0) (.slice none 0 0) id0 (.slice none 0 0) []).toArray 87 (0, 0)), (bw, Obj.cells #[vs t, vi 0, vi 0] 108 (0, 0))] ++ [(b1, Obj.cells #[vi 3, vs t] 31 (0, 0)), (b4, Obj.cells fnsV 106 (0, 0))]) (by classical exact List.perm_iff_count.2 fun a => by simp only [List.count_append, List.count_cons, List.count_nil] <;> omega) ?_
          refine Ow.callFnX (b := vp bo 0) (X := [(bo, Obj.cells (roC (vp bw 0) (.slice none 0 0) id0 (.slice none 0 0) []).toArray 87 (0, 0)), (bw, Obj.cells #[vs t, vi 0, vi 0] 108 (0, 0))]) (Y := [(b1, Obj.cells #[vi 3, vs t] 31 (0, 0)), (b4, Obj.cells fnsV 106 (0, 0))]) rfl rfl rfl rfl rfl Try.call63 (fun w' hw' hX hn => comRd_spec bo bw t w' (by omega) hobw (hX _ List.mem_cons_self) (hX _ (List.mem_cons_of_mem _ List.mem_cons_self))) (fun v D hC hS => ?_)
          obtain ⟨rfl, p1, hl1, hg1⟩ := hS
          have hNX : New w.heap.size (D ++ [(b1, Obj.cells #[vi 3, vs t] 31 (0, 0)), (b4, Obj.cells fnsV 106 (0, 0))]) := by
            refine New.of_le fun c hc => ?_
            rw [keys_app, List.mem_append] at hc
            rcases hc with hc | hc
            · rcases hC.new c hc with h | ⟨-, h⟩
              · simp only [keys, List.map_cons, List.map_nil, List.mem_cons, List.not_mem_nil, or_false] at h; omega
              · exact h
            · simp only [keys, List.map_cons, List.map_nil, List.mem_cons, List.not_mem_nil, or_false] at hc; omega
          refine Ow.go rfl ?_
          simp (disch := (first | assumption | omega | (simp only [lenS, lenT, UInt64.reduceToNat]; try omega))) only [↓S0, S1, Try.fx, uOZ_1, Nat.reduceAdd, Nat.reducePow, Int.reducePow, Nat.reduceBEq, ↓reduceIte, UInt8.reduceToNat, UInt16.reduceToNat, UInt32.reduceToNat, UInt64.reduceToNat, Int.reduceToNat]
          ((try with_reducible refine Cw.go [] ?_); (try simp (disch := (first | assumption | omega | (simp only [lenS, lenT, UInt64.reduceToNat]; try omega))) only [↓S0, S1, Try.fx, uOZ_1, Nat.reduceAdd, Nat.reducePow, Int.reducePow, Nat.reduceBEq, ↓reduceIte, UInt8.reduceToNat, UInt16.reduceToNat, UInt32.reduceToNat, UInt64.reduceToNat, Int.reduceToNat]))
          refine ⟨_, (by simp (disch := (first | assumption | omega | (simp only [lenS, lenT, UInt64.reduceToNat]; try omega))) only [↓S0, S1, Try.fx, uOZ_1, Nat.reduceAdd, Nat.reducePow, Int.reducePow, Nat.reduceBEq, ↓reduceIte, UInt8.reduceToNat, UInt16.reduceToNat, UInt32.reduceToNat, UInt64.reduceToNat, Int.reduceToNat]; rfl), ?_⟩
          exact ⟨Ext.of_new hNX, vp bo 0, by rw [e]; rfl, fun _ => ⟨bo, bw, _, _, p1, _, rfl, look_app hl1, fun h => absurd h (by decide), fun _ => ⟨rfl, rfl, hg1.app⟩, fun _ => rfl⟩⟩
end Go.Proofs
end
section
open Go Go.Proofs Go.Sx Go.StP
namespace Go.Proofs
set_option maxRecDepth 10000
set_option maxHeartbeats 400000
set_option linter.unusedSimpArgs false
set_option linter.defProp false
def uPA_1 := And.intro (And.intro (And.intro (@load_ob) (@load_ob0)) (And.intro (@load_ob1) (@store_ob))) (And.intro (And.intro (@Sx.tup2_0) (@Sx.tup2_1)) (And.intro (@rdIn_v8) (@rdIn_vi)))
theorem RightO_spec (k : Int) (t : List UInt8) (w : World) : Rets Try.prog 48 #[obV k t] w (fun v D => v = .bool (RdOk k t) ∧ D = []) := by
  refine Rets.enterV Try.func48 rfl (rs := [.tmp 2]) Try.results48 Try.ntmps48 ?_
  simp only [List.size_toArray, List.length_cons, List.length_nil, Nat.reduceAdd, Nat.reduceSub, List.replicate_succ, List.replicate_zero, List.cons_append, List.nil_append]
  ((try with_reducible refine Cw.go [] ?_); (try simp (disch := (first | assumption | omega | (simp only [lenS, lenT, UInt64.reduceToNat]; try omega))) only [↓S0, S1, Try.fx, uPA_1, Nat.reduceAdd, Nat.reducePow, Int.reducePow, Nat.reduceBEq, ↓reduceIte, UInt8.reduceToNat, UInt16.reduceToNat, UInt32.reduceToNat, UInt64.reduceToNat, Int.reduceToNat]))
  refine Ow.box rfl rfl fun b1 hb1 hw1 => ?_
  simp only [ev_tmp, getF_0, getF_s, cells_agg, List.nil_append]
  refine Ow.go rfl ?_
  simp (disch := (first | assumption | omega | (simp only [lenS, lenT, UInt64.reduceToNat]; try omega))) only [↓S0, S1, Try.fx, uPA_1, Nat.reduceAdd, Nat.reducePow, Int.reducePow, Nat.reduceBEq, ↓reduceIte, UInt8.reduceToNat, UInt16.reduceToNat, UInt32.reduceToNat, UInt64.reduceToNat, Int.reduceToNat]
  refine Ow.callC rfl rfl Try.call42 (fun w' hw' => readO_spec k t w') (fun B v D hA hB hN hS => ?_)
  obtain ⟨p, rfl, -⟩ := hS
  refine Ow.go rfl ?_
  simp (disch := (first | assumption | omega | (simp only [lenS, lenT, UInt64.reduceToNat]; try omega))) only [↓S0, S1, Try.fx, uPA_1, Nat.reduceAdd, Nat.reducePow, Int.reducePow, Nat.reduceBEq, ↓reduceIte, UInt8.reduceToNat, UInt16.reduceToNat, UInt32.reduceToNat, UInt64.reduceToNat, Int.reduceToNat]
  ((try with_reducible refine Cw.go [] ?_); (try simp (disch := (first | assumption | omega | (simp only [lenS, lenT, UInt64.reduceToNat]; try omega))) only [↓S0, S1, Try.fx, uPA_1, Nat.reduceAdd, Nat.reducePow, Int.reducePow, Nat.reduceBEq, ↓reduceIte, UInt8.reduceToNat, UInt16.reduceToNat, UInt32.reduceToNat, UInt64.reduceToNat, Int.reduceToNat]))
  refine ⟨_, (by simp (disch := (first | assumption | omega | (simp only [lenS, lenT, UInt64.reduceToNat]; try omega))) only [↓S0, S1, Try.fx, uPA_1, Nat.reduceAdd, Nat.reducePow, Int.reducePow, Nat.reduceBEq, ↓reduceIte, UInt8.reduceToNat, UInt16.reduceToNat, UInt32.reduceToNat, UInt64.reduceToNat, Int.reduceToNat]; rfl), ⟨hw1, New.mono hB hN⟩, ?_⟩
  rfl
/-- What is made of an object that should be. -/
def madeK (k : Int) (t : List UInt8) (ok : Bool) : Int := if ok && RdOk k t then k else 0
def madeT (k : Int) (t : List UInt8) (ok : Bool) : List UInt8 := if ok && RdOk k t then t else []
def madeE (k : Int) (t : List UInt8) (ok : Bool) : Int := if ok && RdOk k t then 0 else 1
theorem zrOb : zeroV Try.prog 31 = some (obV 0 []) := id (by kernel_rfl)
theorem build_ob0 : buildV (plcT Try.prog 31) (zeroV Try.prog 31) [] = some (obV 0 []) := by
  have hp : plcT Try.prog 31 = some [(0, 1), (1, 1)] := id (by kernel_rfl)
  rw [hp, zrOb]; rfl
theorem build_ob2 (k : Int) (t : List UInt8) : buildV (plcT Try.prog 31) (zeroV Try.prog 31) [(0, vi k), (1, vs t)] = some (obV k t) := by
  have hp : plcT Try.prog 31 = some [(0, 1), (1, 1)] := id (by kernel_rfl)
  rw [hp, zrOb]; rfl
theorem made_spec (k : Int) (t : List UInt8) (ok : Bool) (w : World) : Rets Try.prog 27 #[obV k t, .bool ok] w (fun v D => v = .tuple #[obV (madeK k t ok) (madeT k t ok), vi (madeE k t ok)] ∧ D = []) := by
  refine Rets.enterV Try.func27 rfl (rs := [.cell 4 31, .tmp 5]) Try.results27 Try.ntmps27 ?_
  simp only [List.size_toArray, List.length_cons, List.length_nil, Nat.reduceAdd, Nat.reduceSub, List.replicate_succ, List.replicate_zero, List.cons_append, List.nil_append]
  ((try with_reducible refine Cw.go [] ?_); (try simp (disch := (first | assumption | omega | (simp only [lenS, lenT, UInt64.reduceToNat]; try omega))) only [↓S0, S1, Try.fx, uPA_1, Nat.reduceAdd, Nat.reducePow, Int.reducePow, Nat.reduceBEq, ↓reduceIte, UInt8.reduceToNat, UInt16.reduceToNat, UInt32.reduceToNat, UInt64.reduceToNat, Int.reduceToNat]))
  refine Ow.box rfl rfl fun b2 hb2 hw2 => ?_
  simp only [ev_tmp, getF_0, getF_s, cells_agg, List.nil_append]
  refine Ow.go rfl ?_
  simp (disch := (first | assumption | omega | (simp only [lenS, lenT, UInt64.reduceToNat]; try omega))) only [↓S0, S1, Try.fx, uPA_1, Nat.reduceAdd, Nat.reducePow, Int.reducePow, Nat.reduceBEq, ↓reduceIte, UInt8.reduceToNat, UInt16.reduceToNat, UInt32.reduceToNat, UInt64.reduceToNat, Int.reduceToNat]
  refine Ow.alloc rfl rfl zrOb fun b4 hb4 hw4 => ?_
  simp only [cells_agg, List.nil_append, List.cons_append]
  have h24 : b2 < b4 := above_to hb4 (by simp [keys])
  unfold madeK madeT madeE
  cases ok
  · refine Ow.go rfl ?_
    simp (disch := (first | assumption | omega | (simp only [lenS, lenT, UInt64.reduceToNat]; try omega))) only [↓S0, S1, Try.fx, uPA_1, Nat.reduceAdd, Nat.reducePow, Int.reducePow, Nat.reduceBEq, ↓reduceIte, UInt8.reduceToNat, UInt16.reduceToNat, UInt32.reduceToNat, UInt64.reduceToNat, Int.reduceToNat]
    refine Ow.build (obV 0 []) rfl build_ob0 ?_
    refine Ow.go rfl ?_
    simp (disch := (first | assumption | omega | (simp only [lenS, lenT, UInt64.reduceToNat]; try omega))) only [↓S0, S1, Try.fx, uPA_1, Nat.reduceAdd, Nat.reducePow, Int.reducePow, Nat.reduceBEq, ↓reduceIte, UInt8.reduceToNat, UInt16.reduceToNat, UInt32.reduceToNat, UInt64.reduceToNat, Int.reduceToNat]
    ((try with_reducible refine Cw.go [] ?_); (try simp (disch := (first | assumption | omega | (simp only [lenS, lenT, UInt64.reduceToNat]; try omega))) only [↓S0, S1, Try.fx, uPA_1, Nat.reduceAdd, Nat.reducePow, Int.reducePow, Nat.reduceBEq, ↓reduceIte, UInt8.reduceToNat, UInt16.reduceToNat, UInt32.reduceToNat, UInt64.reduceToNat, Int.reduceToNat]))
    refine ⟨_, (by simp (disch := (first | assumption | omega | (simp only [lenS, lenT, UInt64.reduceToNat]; try omega))) only [↓S0, S1, Try.fx, uPA_1, Nat.reduceAdd, Nat.reducePow, Int.reducePow, Nat.reduceBEq, ↓reduceIte, UInt8.reduceToNat, UInt16.reduceToNat, UInt32.reduceToNat, UInt64.reduceToNat, Int.reduceToNat]; rfl), ⟨hw2, hw4, trivial⟩, ?_⟩
    rfl
  · refine Ow.go rfl ?_
    simp (disch := (first | assumption | omega | (simp only [lenS, lenT, UInt64.reduceToNat]; try omega))) only [↓S0, S1, Try.fx, uPA_1, Nat.reduceAdd, Nat.reducePow, Int.reducePow, Nat.reduceBEq, ↓reduceIte, UInt8.reduceToNat, UInt16.reduceToNat, UInt32.reduceToNat, UInt64.reduceToNat, Int.reduceToNat]
    refine Ow.callFV rfl Try.call48 (fun w' hw' => RightO_spec k t w') ?_
    cases hr : RdOk k t
    · refine Ow.go rfl ?_
      simp (disch := (first | assumption | omega | (simp only [lenS, lenT, UInt64.reduceToNat]; try omega))) only [↓S0, S1, Try.fx, uPA_1, Nat.reduceAdd, Nat.reducePow, Int.reducePow, Nat.reduceBEq, ↓reduceIte, UInt8.reduceToNat, UInt16.reduceToNat, UInt32.reduceToNat, UInt64.reduceToNat, Int.reduceToNat]
      refine Ow.build (obV 0 []) rfl build_ob0 ?_
      refine Ow.go rfl ?_
      simp (disch := (first | assumption | omega | (simp only [lenS, lenT, UInt64.reduceToNat]; try omega))) only [↓S0, S1, Try.fx, uPA_1, Nat.reduceAdd, Nat.reducePow, Int.reducePow, Nat.reduceBEq, ↓reduceIte, UInt8.reduceToNat, UInt16.reduceToNat, UInt32.reduceToNat, UInt64.reduceToNat, Int.reduceToNat]
      ((try with_reducible refine Cw.go [] ?_); (try simp (disch := (first | assumption | omega | (simp only [lenS, lenT, UInt64.reduceToNat]; try omega))) only [↓S0, S1, Try.fx, uPA_1, Nat.reduceAdd, Nat.reducePow, Int.reducePow, Nat.reduceBEq, ↓reduceIte, UInt8.reduceToNat, UInt16.reduceToNat, UInt32.reduceToNat, UInt64.reduceToNat, Int.reduceToNat]))
      refine ⟨_, (by simp (disch := (first | assumption | omega | (simp only [lenS, lenT, UInt64.reduceToNat]; try omega))) only [↓S0, S1, Try.fx, uPA_1, Nat.reduceAdd, Nat.reducePow, Int.reducePow, Nat.reduceBEq, ↓reduceIte, UInt8.reduceToNat, UInt16.reduceToNat, UInt32.reduceToNat, UInt64.reduceToNat, Int.reduceToNat]; rfl), ⟨hw2, hw4, trivial⟩, ?_⟩
      rfl
    · refine Ow.go rfl ?_
      simp (disch := (first | assumption | omega | (simp only [lenS, lenT, UInt64.reduceToNat]; try omega))) only [↓S0, S1, Try.fx, uPA_1, Nat.reduceAdd, Nat.reducePow, Int.reducePow, Nat.reduceBEq, ↓reduceIte, UInt8.reduceToNat, UInt16.reduceToNat, UInt32.reduceToNat, UInt64.reduceToNat, Int.reduceToNat]
      ((try with_reducible refine Cw.go [] ?_); (try simp (disch := (first | assumption | omega | (simp only [lenS, lenT, UInt64.reduceToNat]; try omega))) only [↓S0, S1, Try.fx, uPA_1, Nat.reduceAdd, Nat.reducePow, Int.reducePow, Nat.reduceBEq, ↓reduceIte, UInt8.reduceToNat, UInt16.reduceToNat, UInt32.reduceToNat, UInt64.reduceToNat, Int.reduceToNat]))
      refine ⟨_, (by simp (disch := (first | assumption | omega | (simp only [lenS, lenT, UInt64.reduceToNat]; try omega))) only [↓S0, S1, Try.fx, uPA_1, Nat.reduceAdd, Nat.reducePow, Int.reducePow, Nat.reduceBEq, ↓reduceIte, UInt8.reduceToNat, UInt16.reduceToNat, UInt32.reduceToNat, UInt64.reduceToNat, Int.reduceToNat]; rfl), ⟨hw2, hw4, trivial⟩, ?_⟩
      rfl
theorem Blob_spec (t : List UInt8) (w : World) : Rets Try.prog 10 #[vs t] w (fun v D => v = .tuple #[obV (madeK 1 t true) (madeT 1 t true), vi (madeE 1 t true)] ∧ D = []) := by
  refine Rets.enterV Try.func10 rfl (rs := [.cell 2 31, .tmp 3]) Try.results10 Try.ntmps10 ?_
  simp only [List.size_toArray, List.length_cons, List.length_nil, Nat.reduceAdd, Nat.reduceSub, List.replicate_succ, List.replicate_zero, List.cons_append, List.nil_append]
  ((try with_reducible refine Cw.go [] ?_); (try simp (disch := (first | assumption | omega | (simp only [lenS, lenT, UInt64.reduceToNat]; try omega))) only [↓S0, S1, Try.fx, uPA_1, Nat.reduceAdd, Nat.reducePow, Int.reducePow, Nat.reduceBEq, ↓reduceIte, UInt8.reduceToNat, UInt16.reduceToNat, UInt32.reduceToNat, UInt64.reduceToNat, Int.reduceToNat]))
  refine Ow.alloc rfl rfl zrOb fun b2 hb2 hw2 => ?_
  simp only [cells_agg, List.nil_append, List.cons_append]
  refine Ow.go rfl ?_
  simp (disch := (first | assumption | omega | (simp only [lenS, lenT, UInt64.reduceToNat]; try omega))) only [↓S0, S1, Try.fx, uPA_1, Nat.reduceAdd, Nat.reducePow, Int.reducePow, Nat.reduceBEq, ↓reduceIte, UInt8.reduceToNat, UInt16.reduceToNat, UInt32.reduceToNat, UInt64.reduceToNat, Int.reduceToNat]
  refine Ow.build (obV 1 t) rfl (build_ob2 1 t) ?_
  refine Ow.go rfl ?_
  simp (disch := (first | assumption | omega | (simp only [lenS, lenT, UInt64.reduceToNat]; try omega))) only [↓S0, S1, Try.fx, uPA_1, Nat.reduceAdd, Nat.reducePow, Int.reducePow, Nat.reduceBEq, ↓reduceIte, UInt8.reduceToNat, UInt16.reduceToNat, UInt32.reduceToNat, UInt64.reduceToNat, Int.reduceToNat]
  refine Ow.callFV rfl Try.call27 (fun w' hw' => made_spec 1 t true w') ?_
  refine Ow.go rfl ?_
  simp (disch := (first | assumption | omega | (simp only [lenS, lenT, UInt64.reduceToNat]; try omega))) only [↓S0, S1, Try.fx, uPA_1, Nat.reduceAdd, Nat.reducePow, Int.reducePow, Nat.reduceBEq, ↓reduceIte, UInt8.reduceToNat, UInt16.reduceToNat, UInt32.reduceToNat, UInt64.reduceToNat, Int.reduceToNat]
  ((try with_reducible refine Cw.go [] ?_); (try simp (disch := (first | assumption | omega | (simp only [lenS, lenT, UInt64.reduceToNat]; try omega))) only [↓S0, S1, Try.fx, uPA_1, Nat.reduceAdd, Nat.reducePow, Int.reducePow, Nat.reduceBEq, ↓reduceIte, UInt8.reduceToNat, UInt16.reduceToNat, UInt32.reduceToNat, UInt64.reduceToNat, Int.reduceToNat]))
  refine ⟨_, (by simp (disch := (first | assumption | omega | (simp only [lenS, lenT, UInt64.reduceToNat]; try omega))) only [↓S0, S1, Try.fx, uPA_1, Nat.reduceAdd, Nat.reducePow, Int.reducePow, Nat.reduceBEq, ↓reduceIte, UInt8.reduceToNat, UInt16.reduceToNat, UInt32.reduceToNat, UInt64.reduceToNat, Int.reduceToNat]; rfl), ⟨hw2, trivial⟩, ?_⟩
  rfl
end Go.Proofs
end
section
open Go Go.Proofs Go.Sx Go.StP
namespace Go.Proofs
set_option maxRecDepth 10000
set_option maxHeartbeats 400000
set_option linter.unusedSimpArgs false
set_option linter.defProp false
def uPB_1 := And.intro (And.intro (And.intro (@load_ob) (And.intro (@load_ob0) (@load_ob1))) (And.intro (@store_ob) (And.intro (@Sx.tup2_0) (@Sx.tup2_1)))) (And.intro (And.intro (@load_com0) (And.intro (@load_com1) (@load_com2))) (And.intro (And.intro (@load_com) (@cells_com)) (And.intro (@rdIn_v8) (@rdIn_vi))))
theorem BldAt.zeroE (b : Nat) {L : Heap} (h : Sx.look L b = some (.cells #[.pointer none, .slice none 0 0] 74 (0, 0))) : BldAt b [] L :=
  ⟨_, _, h, .inl rfl, .nl, fun h => by cases h⟩
theorem zrWr : zeroV Try.prog 74 = some (.agg #[.pointer none, .slice none 0 0]) := id (by kernel_rfl)
theorem slice_idE (x : IdL) : sliceB Try.prog 25 1 [(0, .agg (a8 x.l))] = some (24, a8 x.l) := slice_one (cs := x.l.map v8) Try.underlying25 aggIdE zrIdE (by decide) (by simp [x.h])
theorem row_oneId (x : IdL) {w' : World} {b : Nat} (h : w'.heap[b]? = some (.cells (a8 x.l) 24 (0, 0))) : RowS 32 idLC id0 w' (vsl b 0 1 1) [x] b 0 (a8 x.l) 24 (0, 0) := RowS.sl rfl h (by
  intro k hk j hj
  obtain rfl : k = 0 := by simpa using hk
  simp only [Nat.zero_mul, Nat.zero_add, List.getD_cons_zero]
  rw [← idLC_a8, List.getElem?_toArray])
theorem Came.newE {w0 : World} {L X D : Heap} {b : Nat} (hC : Came w0 L X D) (hN : New (b + 1) X) (hb : b ∈ keys L) : New (b + 1) D := New.of_le fun c hc => by
  rcases hC.new c hc with h | ⟨h, -⟩
  · exact hN.le c h
  · have := above_to h hb; omega
theorem CommitO_spec (v : Value) (c : ComL) (w : World) (hv : ComS w v c) (hl : c.par.length < 1000) (ht : c.text.length < 100000) :
    Rets Try.prog 12 #[v] w (XS w [] (fun v' _ => v' = .tuple #[obV (madeK 3 (comB c) (comOk c)) (madeT 3 (comB c) (comOk c)), vi (madeE 3 (comB c) (comOk c))])) := by
  obtain ⟨p, rfl, hp⟩ := hv
  have ln := hp.len
  refine Rets.enterX Try.func12 rfl (rs := [.cell 2 31, .tmp 3]) Try.results12 Try.ntmps12 (fun p hp => by cases hp) (by simp [keys]) ?_
  simp only [List.size_toArray, List.length_cons, List.length_nil, Nat.reduceAdd, Nat.reduceSub, List.replicate_succ, List.replicate_zero, List.cons_append, List.nil_append]
  ((try with_reducible refine Cw.go [] ?_); (try simp (disch := (first | assumption | omega | (simp only [lenS, lenT, UInt64.reduceToNat]; try omega))) only [↓S0, S1, Try.fx, uPB_1, Nat.reduceAdd, Nat.reducePow, Int.reducePow, Nat.reduceBEq, ↓reduceIte, UInt8.reduceToNat, UInt16.reduceToNat, UInt32.reduceToNat, UInt64.reduceToNat, Int.reduceToNat]))
  refine Ow.box rfl rfl fun b0 hb0 hw0 => ?_
  simp only [ev_tmp, getF_0, getF_s, cells_com, List.nil_append]
  refine Ow.go rfl ?_
  simp (disch := (first | assumption | omega | (simp only [lenS, lenT, UInt64.reduceToNat]; try omega))) only [↓S0, S1, Try.fx, uPB_1, Nat.reduceAdd, Nat.reducePow, Int.reducePow, Nat.reduceBEq, ↓reduceIte, UInt8.reduceToNat, UInt16.reduceToNat, UInt32.reduceToNat, UInt64.reduceToNat, Int.reduceToNat]
  refine Ow.alloc rfl rfl zrOb fun b2 hb2 hw2 => ?_
  simp only [cells_agg, List.nil_append, List.cons_append]
  have h02 : b0 < b2 := above_to hb2 (by simp [keys])
  refine Ow.go rfl ?_
  simp (disch := (first | assumption | omega | (simp only [lenS, lenT, UInt64.reduceToNat]; try omega))) only [↓S0, S1, Try.fx, uPB_1, Nat.reduceAdd, Nat.reducePow, Int.reducePow, Nat.reduceBEq, ↓reduceIte, UInt8.reduceToNat, UInt16.reduceToNat, UInt32.reduceToNat, UInt64.reduceToNat, Int.reduceToNat]
  refine Ow.alloc rfl rfl zrWr fun b1 hb1 hw1 => ?_
  simp only [cells_agg, List.nil_append, List.cons_append]
  have h01 : b0 < b1 := above_to hb1 (by simp [keys])
  have h21 : b2 < b1 := above_to hb1 (by simp [keys])
  refine Ow.permL (M := [(b1, Obj.cells #[.pointer none, .slice none 0 0] 74 (0, 0))] ++ [(b0, Obj.cells (comC c.tree p c.text).toArray 27 (0, 0)), (b2, Obj.cells #[vi 0, vs []] 31 (0, 0))]) (by classical exact List.perm_iff_count.2 fun a => by simp only [List.count_append, List.count_cons, List.count_nil] <;> omega) ?_
  have hB : BldAt b1 [] [(b1, Obj.cells #[.pointer none, .slice none 0 0] 74 (0, 0))] := BldAt.zeroE b1 (look_same _ _ _)
  have hN : New (b2 + 1) [(b1, Obj.cells #[.pointer none, .slice none 0 0] 74 (0, 0))] := ⟨by omega, trivial⟩
  generalize [(b1, Obj.cells #[.pointer none, .slice none 0 0] 74 (0, 0))] = D0 at hB hN ⊢
  have hB0 := hB
  have hN0 := hN
  have rdc : ∀ {D}, New (b2 + 1) D → ∀ M, readB w (D ++ (b0, Obj.cells (comC c.tree p c.text).toArray 27 (0, 0)) :: M) b0 = some (.cells (comC c.tree p c.text).toArray 27 (0, 0)) := fun hn M => read_look (by rw [look_app_r (hn.not (by omega))]; exact look_same _ _ _)
  have r0 := rdc hN
  refine Ow.go rfl ?_
  simp (disch := (first | assumption | omega | (simp only [lenS, lenT, UInt64.reduceToNat]; try omega))) only [↓S0, S1, Try.fx, uPB_1, Nat.reduceAdd, Nat.reducePow, Int.reducePow, Nat.reduceBEq, ↓reduceIte, UInt8.reduceToNat, UInt16.reduceToNat, UInt32.reduceToNat, UInt64.reduceToNat, Int.reduceToNat, r0]
  refine Ow.buildSlice (e := 24) (a8 c.tree.l) rfl rfl (slice_idE c.tree) fun b6 hb6 hw6 => ?_
  have h26 : b2 < b6 := above_to hb6 (by simp [keys])
  have hD6 : b6 ∉ keys D0 := fun hm => Nat.lt_irrefl _ (above_to hb6 (by rw [keys_app]; exact List.mem_append_left _ hm))
  refine Ow.go rfl ?_
  simp (disch := (first | assumption | omega | (simp only [lenS, lenT, UInt64.reduceToNat]; try omega))) only [↓S0, S1, Try.fx, uPB_1, Nat.reduceAdd, Nat.reducePow, Int.reducePow, Nat.reduceBEq, ↓reduceIte, UInt8.reduceToNat, UInt16.reduceToNat, UInt32.reduceToNat, UInt64.reduceToNat, Int.reduceToNat]
  refine Ow.callX (Y := [(b0, Obj.cells (comC c.tree p c.text).toArray 27 (0, 0)), (b2, Obj.cells #[vi 0, vs []] 31 (0, 0)), (b6, Obj.cells (a8 c.tree.l) 24 (0, 0))]) (by simp) rfl rfl Try.call34 (fun w' hw' hX hn => WId_spec b1 D0 _ _ b6 0 [c.tree] _ _ _ w' hB0 hX hn (row_oneId c.tree (hw'.has _ _ (by simp))) (fun _ => hD6) (by simp)) (fun v0 D0' hC0 hS0 => ?_)
  obtain ⟨rfl, hB0'⟩ := hS0
  have hN0' := Came.newE hC0 hN0 (by simp [keys])
  have hB0a := hB0'.app (Y := [(b6, Obj.cells (a8 c.tree.l) 24 (0, 0))])
  have hN0a := hN0'.app (show New (b2 + 1) [(b6, Obj.cells (a8 c.tree.l) 24 (0, 0))] from ⟨by omega, trivial⟩)
  refine Ow.permL (M := (D0' ++ [(b6, Obj.cells (a8 c.tree.l) 24 (0, 0))]) ++ [(b0, Obj.cells (comC c.tree p c.text).toArray 27 (0, 0)), (b2, Obj.cells #[vi 0, vs []] 31 (0, 0))]) (by classical exact List.perm_iff_count.2 fun a => by simp only [List.count_append, List.count_cons, List.count_nil] <;> omega) ?_
  generalize D0' ++ [(b6, Obj.cells (a8 c.tree.l) 24 (0, 0))] = D1 at hB0a hN0a ⊢
  have hB1 := hB0a
  have hN1 := hN0a
  have r1 := rdc hN1
  refine Ow.go rfl ?_
  simp (disch := (first | assumption | omega | (simp only [lenS, lenT, UInt64.reduceToNat]; try omega))) only [↓S0, S1, Try.fx, uPB_1, Nat.reduceAdd, Nat.reducePow, Int.reducePow, Nat.reduceBEq, ↓reduceIte, UInt8.reduceToNat, UInt16.reduceToNat, UInt32.reduceToNat, UInt64.reduceToNat, Int.reduceToNat, r1, ln]
  refine Ow.buildSlice (e := 3) #[vi c.par.length] rfl rfl (by kernel_rfl) fun b7 hb7 hw7 => ?_
  have h27 : b2 < b7 := above_to hb7 (by simp [keys])
  have hD7 : b7 ∉ keys D1 := fun hm => Nat.lt_irrefl _ (above_to hb7 (by rw [keys_app]; exact List.mem_append_left _ hm))
  have il0 := idsL_len [c.tree]
  have il1 := idsL_len c.par
  have nl0 := numL_clamp_len (c.par.length : Int)
  simp only [List.length_cons, List.length_nil] at il0
  refine Ow.go rfl ?_
  simp (disch := (first | assumption | omega | (simp only [lenS, lenT, UInt64.reduceToNat]; try omega))) only [↓S0, S1, Try.fx, uPB_1, Nat.reduceAdd, Nat.reducePow, Int.reducePow, Nat.reduceBEq, ↓reduceIte, UInt8.reduceToNat, UInt16.reduceToNat, UInt32.reduceToNat, UInt64.reduceToNat, Int.reduceToNat]
  refine Ow.callX (Y := [(b0, Obj.cells (comC c.tree p c.text).toArray 27 (0, 0)), (b2, Obj.cells #[vi 0, vs []] 31 (0, 0)), (b7, Obj.cells #[vi c.par.length] 3 (0, 0))]) (by simp) rfl rfl Try.call32 (fun w' hw' hX hn => WNumber_spec b1 D1 _ _ b7 0 [(c.par.length : Int)] _ _ _ w' hB1 hX hn (OneS.lit [(c.par.length : Int)] rfl rfl (hw'.has _ _ (List.mem_append_right _ List.mem_cons_self))) (fun _ => hD7) (by simp only [List.length_append, List.length_cons, List.length_nil]; omega)) (fun v1 D1' hC1 hS1 => ?_)
  obtain ⟨rfl, hB1'⟩ := hS1
  have hN1' := Came.newE hC1 hN1 (by simp [keys])
  have hB1a := hB1'.app (Y := [(b7, Obj.cells #[vi c.par.length] 3 (0, 0))])
  have hN1a := hN1'.app (show New (b2 + 1) [(b7, Obj.cells #[vi c.par.length] 3 (0, 0))] from ⟨by omega, trivial⟩)
  refine Ow.permL (M := (D1' ++ [(b7, Obj.cells #[vi c.par.length] 3 (0, 0))]) ++ [(b0, Obj.cells (comC c.tree p c.text).toArray 27 (0, 0)), (b2, Obj.cells #[vi 0, vs []] 31 (0, 0))]) (by classical exact List.perm_iff_count.2 fun a => by simp only [List.count_append, List.count_cons, List.count_nil] <;> omega) ?_
  generalize D1' ++ [(b7, Obj.cells #[vi c.par.length] 3 (0, 0))] = D2 at hB1a hN1a ⊢
  have hB2 := hB1a
  have hN2 := hN1a
  rw [numsL_one] at hB2
  have r2 := rdc hN2
  obtain ⟨pb, poff, parr, pE, pfz, hpr⟩ := hp.row
  have hpo : ∀ {D}, New (b2 + 1) D → ∀ w', Hp w (D ++ [(b0, Obj.cells (comC c.tree p c.text).toArray 27 (0, 0)), (b2, Obj.cells #[vi 0, vs []] 31 (0, 0))]) w' → RowS 32 idLC id0 w' p c.par pb poff parr pE pfz := fun hn w' hw' => hpr.old hw' (fun h0 hm => by
    have := hpr.lt h0
    rw [keys_app, List.mem_append] at hm
    rcases hm with hm | hm
    · have := hn.le _ hm; omega
    · simp only [keys, List.map_cons, List.map_nil, List.mem_cons, List.not_mem_nil, or_false] at hm; omega)
  refine Ow.go rfl ?_
  simp (disch := (first | assumption | omega | (simp only [lenS, lenT, UInt64.reduceToNat]; try omega))) only [↓S0, S1, Try.fx, uPB_1, Nat.reduceAdd, Nat.reducePow, Int.reducePow, Nat.reduceBEq, ↓reduceIte, UInt8.reduceToNat, UInt16.reduceToNat, UInt32.reduceToNat, UInt64.reduceToNat, Int.reduceToNat, r2]
  refine Ow.callX (Y := [(b0, Obj.cells (comC c.tree p c.text).toArray 27 (0, 0)), (b2, Obj.cells #[vi 0, vs []] 31 (0, 0))]) (by simp) rfl rfl Try.call34 (fun w' hw' hX hn => WId_spec b1 D2 _ _ pb poff c.par parr pE pfz w' hB2 hX hn (hpo hN2 w' hw') (fun h0 hm => by have := hpr.lt h0; have := hN2.le _ hm; omega) (by simp only [List.length_append, List.length_cons, List.length_nil]; omega)) (fun v2 D2' hC2 hS2 => ?_)
  obtain ⟨rfl, hB2'⟩ := hS2
  have hN2' := Came.newE hC2 hN2 (by simp [keys])
  generalize D2' = D3 at hB2' hN2' ⊢
  have hB3 := hB2'
  have hN3 := hN2'
  have r3 := rdc hN3
  refine Ow.go rfl ?_
  simp (disch := (first | assumption | omega | (simp only [lenS, lenT, UInt64.reduceToNat]; try omega))) only [↓S0, S1, Try.fx, uPB_1, Nat.reduceAdd, Nat.reducePow, Int.reducePow, Nat.reduceBEq, ↓reduceIte, UInt8.reduceToNat, UInt16.reduceToNat, UInt32.reduceToNat, UInt64.reduceToNat, Int.reduceToNat, r3]
  refine Ow.buildSlice (e := 9) #[vs c.text] rfl rfl (by kernel_rfl) fun b9 hb9 hw9 => ?_
  have h29 : b2 < b9 := above_to hb9 (by simp [keys])
  have hD9 : b9 ∉ keys D3 := fun hm => Nat.lt_irrefl _ (above_to hb9 (by rw [keys_app]; exact List.mem_append_left _ hm))
  have htl : textsL [c.text] = textL c.text := by simp [textsL]
  have tll := textL_len (s := c.text) (by omega)
  have tnl : (textL c.text).length = (numL (clampN c.text.length)).length + c.text.length := by unfold textL; rw [List.length_append]
  have nl1 := numL_clamp_len (c.text.length : Int)
  refine Ow.go rfl ?_
  simp (disch := (first | assumption | omega | (simp only [lenS, lenT, UInt64.reduceToNat]; try omega))) only [↓S0, S1, Try.fx, uPB_1, Nat.reduceAdd, Nat.reducePow, Int.reducePow, Nat.reduceBEq, ↓reduceIte, UInt8.reduceToNat, UInt16.reduceToNat, UInt32.reduceToNat, UInt64.reduceToNat, Int.reduceToNat]
  refine Ow.callX (Y := [(b0, Obj.cells (comC c.tree p c.text).toArray 27 (0, 0)), (b2, Obj.cells #[vi 0, vs []] 31 (0, 0)), (b9, Obj.cells #[vs c.text] 9 (0, 0))]) (by simp) rfl rfl Try.call33 (fun w' hw' hX hn => WText_spec b1 D3 _ _ b9 0 [c.text] _ _ _ w' hB3 hX hn (StrS.lit [c.text] rfl rfl (hw'.has _ _ (List.mem_append_right _ List.mem_cons_self))) (fun _ => hD9) (by rw [htl]; simp only [List.length_append, List.length_cons, List.length_nil]; omega) (by simp)) (fun v3 D3' hC3 hS3 => ?_)
  obtain ⟨rfl, hB3'⟩ := hS3
  have hN3' := Came.newE hC3 hN3 (by simp [keys])
  have hB3a := hB3'.app (Y := [(b9, Obj.cells #[vs c.text] 9 (0, 0))])
  have hN3a := hN3'.app (show New (b2 + 1) [(b9, Obj.cells #[vs c.text] 9 (0, 0))] from ⟨by omega, trivial⟩)
  refine Ow.permL (M := (D3' ++ [(b9, Obj.cells #[vs c.text] 9 (0, 0))]) ++ [(b0, Obj.cells (comC c.tree p c.text).toArray 27 (0, 0)), (b2, Obj.cells #[vi 0, vs []] 31 (0, 0))]) (by classical exact List.perm_iff_count.2 fun a => by simp only [List.count_append, List.count_cons, List.count_nil] <;> omega) ?_
  generalize D3' ++ [(b9, Obj.cells #[vs c.text] 9 (0, 0))] = D4 at hB3a hN3a ⊢
  have hB4 := hB3a
  have hN4 := hN3a
  have hcb : [] ++ idsL [c.tree] ++ numL (clampN c.par.length) ++ idsL c.par ++ textsL [c.text] = comB c := by
    rw [htl]; unfold comB comHd idsB idsL; simp
  rw [hcb] at hB4
  have r4 := rdc hN4
  refine Ow.go rfl ?_
  simp (disch := (first | assumption | omega | (simp only [lenS, lenT, UInt64.reduceToNat]; try omega))) only [↓S0, S1, Try.fx, uPB_1, Nat.reduceAdd, Nat.reducePow, Int.reducePow, Nat.reduceBEq, ↓reduceIte, UInt8.reduceToNat, UInt16.reduceToNat, UInt32.reduceToNat, UInt64.reduceToNat, Int.reduceToNat]
  refine Cw.regionS [b0] [2, 0, 1, 3, 4, 5, 6, 7, 8] [7] (by kernel_rfl) (by kernel_rfl) (by kernel_rfl) ?_
  simp only [nl_cons, ↓pickL_nil, ↓pickL_cons, ↓nthO_0, ↓nthO_s, consO_some]
  refine Ow.goQ ?_
  simp (disch := (first | assumption | omega | (simp only [lenS, lenT, UInt64.reduceToNat]; try omega))) only [↓S0, S1, Try.fx, uPB_1, Nat.reduceAdd, Nat.reducePow, Int.reducePow, Nat.reduceBEq, ↓reduceIte, UInt8.reduceToNat, UInt16.reduceToNat, UInt32.reduceToNat, UInt64.reduceToNat, Int.reduceToNat, r4]
  refine Ow.soft rfl rfl rfl ?_
  have hcl : (comB c).length < 34359738368 := by rw [← hcb, htl]; simp only [List.length_append, List.length_nil]; omega
  refine Ow.callX (Y := [(b0, Obj.cells (comC c.tree p c.text).toArray 27 (0, 0)), (b2, Obj.cells #[vi 0, vs []] 31 (0, 0))]) (by simp) rfl rfl Try.call35 (fun w' hw' hX hn => WString_spec b1 D4 (comB c) w' hB4 hX hn hcl) (fun v5 D5 hC5 hS5 => ?_)
  obtain rfl := hS5
  have hN5 := Came.newE hC5 hN4 (by simp [keys])
  have r5 := rdc hN5
  with_reducible refine Ow.nil ?_
  refine ⟨fun q hq => by rw [List.mem_singleton.1 hq, r4, r5], ?_⟩
  refine Ow.goQ ?_
  simp (disch := (first | assumption | omega | (simp only [lenS, lenT, UInt64.reduceToNat]; try omega))) only [↓S0, S1, Try.fx, uPB_1, Nat.reduceAdd, Nat.reducePow, Int.reducePow, Nat.reduceBEq, ↓reduceIte, UInt8.reduceToNat, UInt16.reduceToNat, UInt32.reduceToNat, UInt64.reduceToNat, Int.reduceToNat, r5]
  have hNe : New w.heap.size (D5 ++ [(b0, Obj.cells (comC c.tree p c.text).toArray 27 (0, 0)), (b2, Obj.cells #[vi 0, vs []] 31 (0, 0))]) := (New.mono (show w.heap.size ≤ b2 + 1 by omega) hN5).app ⟨hw0, hw2, trivial⟩
  refine Ow.build (obV 3 (comB c)) rfl (build_ob2 3 _) ?_
  refine Ow.goQ ?_
  simp (disch := (first | assumption | omega | (simp only [lenS, lenT, UInt64.reduceToNat]; try omega))) only [↓S0, S1, Try.fx, uPB_1, Nat.reduceAdd, Nat.reducePow, Int.reducePow, Nat.reduceBEq, ↓reduceIte, UInt8.reduceToNat, UInt16.reduceToNat, UInt32.reduceToNat, UInt64.reduceToNat, Int.reduceToNat]
  refine Ow.callFV rfl Try.call37 (fun w' hw' => commit_spec _ c w' ⟨p, rfl, hp.oldN hw' hNe⟩ (by omega) (by omega)) ?_
  refine Ow.goQ ?_
  simp (disch := (first | assumption | omega | (simp only [lenS, lenT, UInt64.reduceToNat]; try omega))) only [↓S0, S1, Try.fx, uPB_1, Nat.reduceAdd, Nat.reducePow, Int.reducePow, Nat.reduceBEq, ↓reduceIte, UInt8.reduceToNat, UInt16.reduceToNat, UInt32.reduceToNat, UInt64.reduceToNat, Int.reduceToNat]
  refine Ow.callFV rfl Try.call27 (fun w' hw' => made_spec 3 (comB c) (comOk c) w') ?_
  generalize madeK 3 (comB c) (comOk c) = mk
  generalize madeT 3 (comB c) (comOk c) = mt
  generalize madeE 3 (comB c) (comOk c) = me
  have hlk2 : ∀ M, Sx.look (D5 ++ M) b2 = Sx.look M b2 := fun M => look_app_r (hN5.not (by omega))
  have hsb2 : ∀ M x, setB (D5 ++ M) b2 x = D5 ++ setB M b2 x := fun M x => setB_appE (hN5.not (by omega))
  refine Ow.goQ ?_
  simp (disch := (first | assumption | omega | (simp only [lenS, lenT, UInt64.reduceToNat]; try omega))) only [↓S0, S1, Try.fx, uPB_1, Nat.reduceAdd, Nat.reducePow, Int.reducePow, Nat.reduceBEq, ↓reduceIte, UInt8.reduceToNat, UInt16.reduceToNat, UInt32.reduceToNat, UInt64.reduceToNat, Int.reduceToNat]
  have hst7 : storeAtV (aggT Try.prog 31) (D5 ++ [(b0, Obj.cells (comC c.tree p c.text).toArray 27 (0, 0)), (b2, Obj.cells #[vi 0, vs []] 31 (0, 0))]) (vp b2 0) (obV mk mt) = some (D5 ++ [(b0, Obj.cells (comC c.tree p c.text).toArray 27 (0, 0)), (b2, Obj.cells #[vi mk, vs mt] 31 (0, 0))]) := by
    rw [Try.ag31, storeAt_p, hlk2]
    simp (disch := omega) only [look_same, look_other, store_ob, upd_some, hsb2, setB_same, setB_other]
  refine Ow.store rfl rfl rfl hst7 ?_
  have rd2 : readB w (D5 ++ [(b0, Obj.cells (comC c.tree p c.text).toArray 27 (0, 0)), (b2, Obj.cells #[vi mk, vs mt] 31 (0, 0))]) b2 = some (.cells #[vi mk, vs mt] 31 (0, 0)) := read_look (by rw [hlk2]; simp (disch := omega) only [look_same, look_other])
  refine Ow.go rfl ?_
  simp (disch := (first | assumption | omega | (simp only [lenS, lenT, UInt64.reduceToNat]; try omega))) only [↓S0, S1, Try.fx, uPB_1, Nat.reduceAdd, Nat.reducePow, Int.reducePow, Nat.reduceBEq, ↓reduceIte, UInt8.reduceToNat, UInt16.reduceToNat, UInt32.reduceToNat, UInt64.reduceToNat, Int.reduceToNat]
  ((try with_reducible refine Cw.go [] ?_); (try simp (disch := (first | assumption | omega | (simp only [lenS, lenT, UInt64.reduceToNat]; try omega))) only [↓S0, S1, Try.fx, uPB_1, Nat.reduceAdd, Nat.reducePow, Int.reducePow, Nat.reduceBEq, ↓reduceIte, UInt8.reduceToNat, UInt16.reduceToNat, UInt32.reduceToNat, UInt64.reduceToNat, Int.reduceToNat]))
  refine ⟨_, (by simp (disch := (first | assumption | omega | (simp only [lenS, lenT, UInt64.reduceToNat]; try omega))) only [↓S0, S1, Try.fx, uPB_1, Nat.reduceAdd, Nat.reducePow, Int.reducePow, Nat.reduceBEq, ↓reduceIte, UInt8.reduceToNat, UInt16.reduceToNat, UInt32.reduceToNat, UInt64.reduceToNat, Int.reduceToNat, rd2]; rfl), ?_⟩
  exact ⟨Ext.of_new ((New.mono (show w.heap.size ≤ b2 + 1 by omega) hN5).app ⟨hw0, hw2, trivial⟩), rfl⟩
end Go.Proofs
end
