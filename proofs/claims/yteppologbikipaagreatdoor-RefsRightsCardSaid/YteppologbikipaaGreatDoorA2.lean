/-
  Part 2 of the walk: contracts of the functions that the law reaches, and the calculus they stand on.
  No conditions.
-/
import Derived.Test.YteppologbikipaaGreatDoorA1
section
open Go Go.Proofs Go.Sx
namespace Go.Proofs
set_option maxRecDepth 10000
set_option maxHeartbeats 4000000
set_option linter.unusedSimpArgs false
set_option linter.defProp false
def uWD_1 := And.intro (And.intro (@rdIn_v8) (@rdIn_v16)) (And.intro (@rdIn_v32) (And.intro (@rdIn_v64) (@rdIn_vi)))
theorem HasPrefix_spec (s p : List UInt8) (w : World) (_hs : s.length < 1099511627776) : Rets Tryz.prog 106 #[vs s, vs p] w (fun v D => v = .bool (decide (p.length ≤ s.length) && (s.take p.length == p)) ∧ D = []) := by
  refine Rets.enterV Tryz.func106 rfl (rs := [.tmp 4]) Tryz.results106 Tryz.ntmps106 ?_
  simp only [List.size_toArray, List.length_cons, List.length_nil, Nat.reduceAdd, Nat.reduceSub, List.replicate_succ, List.replicate_zero, List.cons_append, List.nil_append]
  by_cases h : p.length ≤ s.length
  · have e1 : decide ((p.length : Int) ≤ (s.length : Int)) = true := decide_eq_true (by omega)
    ((try with_reducible refine Cw.go [] ?_); (try simp (disch := (first | assumption | omega | (simp only [lenS, lenT, UInt64.reduceToNat]; try omega))) only [↓Sx.S0, Sx.S1, Tryz.fx, uWD_1, Nat.reduceAdd, Nat.reducePow, Int.reducePow, Nat.reduceBEq, ↓reduceIte, UInt8.reduceToNat, UInt16.reduceToNat, UInt32.reduceToNat, UInt64.reduceToNat, Int.reduceToNat, e1]))
    refine ⟨_, (by simp (disch := (first | assumption | omega | (simp only [lenS, lenT, UInt64.reduceToNat]; try omega))) only [↓Sx.S0, Sx.S1, Tryz.fx, uWD_1, Nat.reduceAdd, Nat.reducePow, Int.reducePow, Nat.reduceBEq, ↓reduceIte, UInt8.reduceToNat, UInt16.reduceToNat, UInt32.reduceToNat, UInt64.reduceToNat, Int.reduceToNat]; rfl), trivial, ?_⟩
    simp [tupV, h]
  · have e1 : decide ((p.length : Int) ≤ (s.length : Int)) = false := decide_eq_false (by omega)
    ((try with_reducible refine Cw.go [] ?_); (try simp (disch := (first | assumption | omega | (simp only [lenS, lenT, UInt64.reduceToNat]; try omega))) only [↓Sx.S0, Sx.S1, Tryz.fx, uWD_1, Nat.reduceAdd, Nat.reducePow, Int.reducePow, Nat.reduceBEq, ↓reduceIte, UInt8.reduceToNat, UInt16.reduceToNat, UInt32.reduceToNat, UInt64.reduceToNat, Int.reduceToNat, e1]))
    refine ⟨_, (by simp (disch := (first | assumption | omega | (simp only [lenS, lenT, UInt64.reduceToNat]; try omega))) only [↓Sx.S0, Sx.S1, Tryz.fx, uWD_1, Nat.reduceAdd, Nat.reducePow, Int.reducePow, Nat.reduceBEq, ↓reduceIte, UInt8.reduceToNat, UInt16.reduceToNat, UInt32.reduceToNat, UInt64.reduceToNat, Int.reduceToNat]; rfl), trivial, ?_⟩
    simp [tupV, h]
/-- A text without its beginning. -/
def cutP (s p : List UInt8) : List UInt8 × Bool := if (decide (p.length ≤ s.length) && (s.take p.length == p)) = true then (s.drop p.length, true) else (s, false)
theorem CutPrefixL_spec (s p : List UInt8) (w : World) (hs : s.length < 1099511627776) : Rets Tryz.prog 88 #[vs s, vs p] w (fun v D => v = .tuple #[vs (cutP s p).1, .bool (cutP s p).2] ∧ D = []) := by
  refine Rets.enterV Tryz.func88 rfl (rs := [.tmp 4, .tmp 5]) Tryz.results88 Tryz.ntmps88 ?_
  simp only [List.size_toArray, List.length_cons, List.length_nil, Nat.reduceAdd, Nat.reduceSub, List.replicate_succ, List.replicate_zero, List.cons_append, List.nil_append]
  ((try with_reducible refine Cw.go [] ?_); (try simp (disch := (first | assumption | omega | (simp only [lenS, lenT, UInt64.reduceToNat]; try omega))) only [↓Sx.S0, Sx.S1, Tryz.fx, uWD_1, Nat.reduceAdd, Nat.reducePow, Int.reducePow, Nat.reduceBEq, ↓reduceIte, UInt8.reduceToNat, UInt16.reduceToNat, UInt32.reduceToNat, UInt64.reduceToNat, Int.reduceToNat]))
  refine Ow.callFV rfl Tryz.call106 (fun w' hw' => HasPrefix_spec s p w' hs) ?_
  refine Ow.go rfl ?_
  simp (disch := (first | assumption | omega | (simp only [lenS, lenT, UInt64.reduceToNat]; try omega))) only [↓Sx.S0, Sx.S1, Tryz.fx, uWD_1, Nat.reduceAdd, Nat.reducePow, Int.reducePow, Nat.reduceBEq, ↓reduceIte, UInt8.reduceToNat, UInt16.reduceToNat, UInt32.reduceToNat, UInt64.reduceToNat, Int.reduceToNat]
  unfold cutP
  cases h : (decide (p.length ≤ s.length) && (s.take p.length == p))
  · ((try with_reducible refine Cw.go [] ?_); (try simp (disch := (first | assumption | omega | (simp only [lenS, lenT, UInt64.reduceToNat]; try omega))) only [↓Sx.S0, Sx.S1, Tryz.fx, uWD_1, Nat.reduceAdd, Nat.reducePow, Int.reducePow, Nat.reduceBEq, ↓reduceIte, UInt8.reduceToNat, UInt16.reduceToNat, UInt32.reduceToNat, UInt64.reduceToNat, Int.reduceToNat]))
    refine ⟨_, (by simp (disch := (first | assumption | omega | (simp only [lenS, lenT, UInt64.reduceToNat]; try omega))) only [↓Sx.S0, Sx.S1, Tryz.fx, uWD_1, Nat.reduceAdd, Nat.reducePow, Int.reducePow, Nat.reduceBEq, ↓reduceIte, UInt8.reduceToNat, UInt16.reduceToNat, UInt32.reduceToNat, UInt64.reduceToNat, Int.reduceToNat]; rfl), trivial, ?_⟩
    rfl
  · have hle : p.length ≤ s.length := by
      rw [Bool.and_eq_true, decide_eq_true_eq] at h; exact h.1
    ((try with_reducible refine Cw.go [] ?_); (try simp (disch := (first | assumption | omega | (simp only [lenS, lenT, UInt64.reduceToNat]; try omega))) only [↓Sx.S0, Sx.S1, Tryz.fx, uWD_1, Nat.reduceAdd, Nat.reducePow, Int.reducePow, Nat.reduceBEq, ↓reduceIte, UInt8.reduceToNat, UInt16.reduceToNat, UInt32.reduceToNat, UInt64.reduceToNat, Int.reduceToNat]))
    refine ⟨_, (by simp (disch := (first | assumption | omega | (simp only [lenS, lenT, UInt64.reduceToNat]; try omega))) only [↓Sx.S0, Sx.S1, Tryz.fx, uWD_1, Nat.reduceAdd, Nat.reducePow, Int.reducePow, Nat.reduceBEq, ↓reduceIte, UInt8.reduceToNat, UInt16.reduceToNat, UInt32.reduceToNat, UInt64.reduceToNat, Int.reduceToNat]; rfl), trivial, ?_⟩
    rfl
theorem CutPrefix_spec (s p : List UInt8) (w : World) (hs : s.length < 1099511627776) : Rets Tryz.prog 66 #[vs s, vs p] w (fun v D => v = .tuple #[vs (cutP s p).1, .bool (cutP s p).2] ∧ D = []) := by
  refine Rets.enterV Tryz.func66 rfl (rs := [.tmp 4, .tmp 5]) Tryz.results66 Tryz.ntmps66 ?_
  simp only [List.size_toArray, List.length_cons, List.length_nil, Nat.reduceAdd, Nat.reduceSub, List.replicate_succ, List.replicate_zero, List.cons_append, List.nil_append]
  ((try with_reducible refine Cw.go [] ?_); (try simp (disch := (first | assumption | omega | (simp only [lenS, lenT, UInt64.reduceToNat]; try omega))) only [↓Sx.S0, Sx.S1, Tryz.fx, uWD_1, Nat.reduceAdd, Nat.reducePow, Int.reducePow, Nat.reduceBEq, ↓reduceIte, UInt8.reduceToNat, UInt16.reduceToNat, UInt32.reduceToNat, UInt64.reduceToNat, Int.reduceToNat]))
  refine Ow.callFV rfl Tryz.call88 (fun w' hw' => CutPrefixL_spec s p w' hs) ?_
  refine Ow.go rfl ?_
  simp (disch := (first | assumption | omega | (simp only [lenS, lenT, UInt64.reduceToNat]; try omega))) only [↓Sx.S0, Sx.S1, Tryz.fx, uWD_1, Nat.reduceAdd, Nat.reducePow, Int.reducePow, Nat.reduceBEq, ↓reduceIte, UInt8.reduceToNat, UInt16.reduceToNat, UInt32.reduceToNat, UInt64.reduceToNat, Int.reduceToNat, Sx.tup2_0, Sx.tup2_1]
  ((try with_reducible refine Cw.go [] ?_); (try simp (disch := (first | assumption | omega | (simp only [lenS, lenT, UInt64.reduceToNat]; try omega))) only [↓Sx.S0, Sx.S1, Tryz.fx, uWD_1, Nat.reduceAdd, Nat.reducePow, Int.reducePow, Nat.reduceBEq, ↓reduceIte, UInt8.reduceToNat, UInt16.reduceToNat, UInt32.reduceToNat, UInt64.reduceToNat, Int.reduceToNat]))
  refine ⟨_, (by simp (disch := (first | assumption | omega | (simp only [lenS, lenT, UInt64.reduceToNat]; try omega))) only [↓Sx.S0, Sx.S1, Tryz.fx, uWD_1, Nat.reduceAdd, Nat.reducePow, Int.reducePow, Nat.reduceBEq, ↓reduceIte, UInt8.reduceToNat, UInt16.reduceToNat, UInt32.reduceToNat, UInt64.reduceToNat, Int.reduceToNat]; rfl), trivial, ?_⟩
  rfl
/-! ### Names -/
def badR (c : Int) : Bool := decide (c < 33) || decide (126 < c) || (c == 47)
def badB (b : UInt8) : Bool := decide (b.toNat < 33) || decide (126 < b.toNat) || (b.toNat == 47)
theorem eqb (a b : Bool) : binX Tryz.prog .eql 4 (.bool a) (.bool b) = some (.bool (a == b)) := by
  simp [binX, eqX, plainV, eqNilV, Tryz.underlying4]
theorem tup1_0 (a : Value) : (#[a] : Array Value)[0]? = some a := (rfl)
set_option linter.defProp false
def uWD_2 := And.intro (And.intro (And.intro (@rdIn_v8) (And.intro (@rdIn_v16) (@rdIn_v32))) (And.intro (And.intro (@rdIn_v64) (@rdIn_vi)) (And.intro (@binX_i32) (@bin_lss_i32)))) (And.intro (And.intro (And.intro (@bin_gtr_i32) (@bin_eql_i32)) (And.intro (@lit_i32) (@tup1_0))) (And.intro (And.intro (@Sx.tup3_0) (@Sx.tup3_1)) (And.intro (@Sx.tup3_2) (@eqb))))
theorem isNameC_spec (c : Int) (w : World) : Rets Tryz.prog 63 #[v32i c] w (fun v D => v = .bool (badR c) ∧ D = []) := by
  refine Rets.enterV Tryz.func63 rfl (rs := [.tmp 2]) Tryz.results63 Tryz.ntmps63 ?_
  simp only [List.size_toArray, List.length_cons, List.length_nil, Nat.reduceAdd, Nat.reduceSub, List.replicate_succ, List.replicate_zero, List.cons_append, List.nil_append]
  unfold badR
  cases h1 : decide (c < 33)
  · cases h2 : decide (126 < c)
    · ((try with_reducible refine Cw.go [] ?_); (try simp (disch := (first | assumption | omega | (simp only [lenS, lenT, UInt64.reduceToNat]; try omega))) only [↓Sx.S0, Sx.S1, Tryz.fx, uWD_2, Nat.reduceAdd, Nat.reducePow, Int.reducePow, Nat.reduceBEq, ↓reduceIte, UInt8.reduceToNat, UInt16.reduceToNat, UInt32.reduceToNat, UInt64.reduceToNat, Int.reduceToNat, h1, h2]))
      refine ⟨_, (by simp (disch := (first | assumption | omega | (simp only [lenS, lenT, UInt64.reduceToNat]; try omega))) only [↓Sx.S0, Sx.S1, Tryz.fx, uWD_2, Nat.reduceAdd, Nat.reducePow, Int.reducePow, Nat.reduceBEq, ↓reduceIte, UInt8.reduceToNat, UInt16.reduceToNat, UInt32.reduceToNat, UInt64.reduceToNat, Int.reduceToNat]; rfl), trivial, ?_⟩
      simp [tupV]
    · ((try with_reducible refine Cw.go [] ?_); (try simp (disch := (first | assumption | omega | (simp only [lenS, lenT, UInt64.reduceToNat]; try omega))) only [↓Sx.S0, Sx.S1, Tryz.fx, uWD_2, Nat.reduceAdd, Nat.reducePow, Int.reducePow, Nat.reduceBEq, ↓reduceIte, UInt8.reduceToNat, UInt16.reduceToNat, UInt32.reduceToNat, UInt64.reduceToNat, Int.reduceToNat, h1, h2]))
      refine ⟨_, (by simp (disch := (first | assumption | omega | (simp only [lenS, lenT, UInt64.reduceToNat]; try omega))) only [↓Sx.S0, Sx.S1, Tryz.fx, uWD_2, Nat.reduceAdd, Nat.reducePow, Int.reducePow, Nat.reduceBEq, ↓reduceIte, UInt8.reduceToNat, UInt16.reduceToNat, UInt32.reduceToNat, UInt64.reduceToNat, Int.reduceToNat]; rfl), trivial, ?_⟩
      simp [tupV]
  · ((try with_reducible refine Cw.go [] ?_); (try simp (disch := (first | assumption | omega | (simp only [lenS, lenT, UInt64.reduceToNat]; try omega))) only [↓Sx.S0, Sx.S1, Tryz.fx, uWD_2, Nat.reduceAdd, Nat.reducePow, Int.reducePow, Nat.reduceBEq, ↓reduceIte, UInt8.reduceToNat, UInt16.reduceToNat, UInt32.reduceToNat, UInt64.reduceToNat, Int.reduceToNat, h1]))
    refine ⟨_, (by simp (disch := (first | assumption | omega | (simp only [lenS, lenT, UInt64.reduceToNat]; try omega))) only [↓Sx.S0, Sx.S1, Tryz.fx, uWD_2, Nat.reduceAdd, Nat.reducePow, Int.reducePow, Nat.reduceBEq, ↓reduceIte, UInt8.reduceToNat, UInt16.reduceToNat, UInt32.reduceToNat, UInt64.reduceToNat, Int.reduceToNat]; rfl), trivial, ?_⟩
    simp [tupV]
theorem bad_rune (l : List UInt8) (i : Nat) (h : i < l.length) : badR ((Utf8.decode ⟨l.toArray⟩ i).1 : Nat) = badB (l.getD i 0) ∧ (badB (l.getD i 0) = false → (Utf8.decode ⟨l.toArray⟩ i).2 = 1) := by
  obtain ⟨h0, h1, h2⟩ := decode_rune l i h
  by_cases hc : (l.getD i 0).toNat < 128
  · rw [h1 hc]
    refine ⟨?_, fun _ => rfl⟩
    unfold badR badB
    congr 1
    · congr 1
      · apply decide_eq_decide.2; omega
      · apply decide_eq_decide.2; omega
    · rw [Bool.eq_iff_iff, beq_iff_eq, beq_iff_eq]; omega
  · have h2' := h2 (by omega)
    have hb : badB (l.getD i 0) = true := by
      unfold badB
      rw [decide_eq_true (show 126 < (l.getD i 0).toNat by omega)]; simp
    rw [hb]
    refine ⟨?_, fun h => by cases h⟩
    unfold badR
    rw [decide_eq_true (show (126 : Int) < (((Utf8.decode ⟨l.toArray⟩ i).1 : Nat) : Int) by omega)]; simp
theorem indexFunc_spec (s : List UInt8) (k : FuncId) (hk : ∀ a w, (callFunc k a).run Tryz.prog w = .ok (.enter k a) w) (hc : ∀ c w, Rets Tryz.prog k #[v32i c] w (fun v D => v = .bool (badR c) ∧ D = [])) (w : World) (hs : s.length < 1099511627776) :
    Rets Tryz.prog 105 #[vs s, .func (.func k) #[] #[], .bool true] w (fun v D => ∃ n : Int, v = vi n ∧ (0 ≤ n ↔ s.any badB = true) ∧ D = []) := by
  refine Rets.mono (S := fun v D => (∃ n : Int, v = vi n ∧ (0 ≤ n ↔ s.any badB = true)) ∧ D = []) ?_ (by rintro v D ⟨⟨n, h1, h2⟩, h3⟩; exact ⟨n, h1, h2, h3⟩)
  refine Rets.enterV Tryz.func105 rfl (rs := [.tmp 6]) Tryz.results105 Tryz.ntmps105 ?_
  simp only [List.size_toArray, List.length_cons, List.length_nil, Nat.reduceAdd, Nat.reduceSub, List.replicate_succ, List.replicate_zero, List.cons_append, List.nil_append]
  ((try with_reducible refine Cw.go [] ?_); (try simp (disch := (first | assumption | omega | (simp only [lenS, lenT, UInt64.reduceToNat]; try omega))) only [↓Sx.S0, Sx.S1, Tryz.fx, uWD_2, Nat.reduceAdd, Nat.reducePow, Int.reducePow, Nat.reduceBEq, ↓reduceIte, UInt8.reduceToNat, UInt16.reduceToNat, UInt32.reduceToNat, UInt64.reduceToNat, Int.reduceToNat]))
  refine Ow.rangeText rfl rfl Tryz.underlying9 rfl fun b1 hb1 hw1 => ?_
  refine Ow.go rfl ?_
  simp (disch := (first | assumption | omega | (simp only [lenS, lenT, UInt64.reduceToNat]; try omega))) only [↓Sx.S0, Sx.S1, Tryz.fx, uWD_2, Nat.reduceAdd, Nat.reducePow, Int.reducePow, Nat.reduceBEq, ↓reduceIte, UInt8.reduceToNat, UInt16.reduceToNat, UInt32.reduceToNat, UInt64.reduceToNat, Int.reduceToNat]
  ((try with_reducible refine Cw.go [] ?_); (try simp (disch := (first | assumption | omega | (simp only [lenS, lenT, UInt64.reduceToNat]; try omega))) only [↓Sx.S0, Sx.S1, Tryz.fx, uWD_2, Nat.reduceAdd, Nat.reducePow, Int.reducePow, Nat.reduceBEq, ↓reduceIte, UInt8.reduceToNat, UInt16.reduceToNat, UInt32.reduceToNat, UInt64.reduceToNat, Int.reduceToNat]))
  refine Cw.loopG (G := Nat) [11, 12, 13, 14, 7, 8, 15, 16, 17, 18, 19, 20, 6] (fun g => []) (fun g => [(b1, .stringIter ⟨s.toArray⟩ g)]) (fun g => g ≤ s.length ∧ ∀ i, i < g → badB (s.getD i 0) = false) (fun g => s.length - g) 0 rfl rfl ?_ ?_
  · exact ⟨by omega, fun i hi => by omega⟩
  intro g j hg
  simp only [overFrom, pin, setF_0, setF_s, List.contains_cons, List.contains_nil, Nat.reduceBEq, Bool.or_false, Bool.false_or, Bool.or_true, Bool.true_or, Nat.reduceAdd, ↓reduceIte, Bool.false_eq_true]
  obtain ⟨hgL, hgood⟩ := hg
  by_cases hlt : g < s.length
  · have hbr := bad_rune s g hlt
    ((try with_reducible refine Cw.go [] ?_); (try simp (disch := (first | assumption | omega | (simp only [lenS, lenT, UInt64.reduceToNat]; try omega))) only [↓Sx.S0, Sx.S1, Tryz.fx, uWD_2, Nat.reduceAdd, Nat.reducePow, Int.reducePow, Nat.reduceBEq, ↓reduceIte, UInt8.reduceToNat, UInt16.reduceToNat, UInt32.reduceToNat, UInt64.reduceToNat, Int.reduceToNat]))
    refine Ow.nextText rfl rfl rfl (look_same _ _ _) hlt ?_
    rw [setB_same]
    generalize hdd : Utf8.decode ⟨s.toArray⟩ g = dd at *
    obtain ⟨c, n⟩ := dd
    simp only at hbr ⊢
    refine Ow.go rfl ?_
    simp (disch := (first | assumption | omega | (simp only [lenS, lenT, UInt64.reduceToNat]; try omega))) only [↓Sx.S0, Sx.S1, Tryz.fx, uWD_2, Nat.reduceAdd, Nat.reducePow, Int.reducePow, Nat.reduceBEq, ↓reduceIte, UInt8.reduceToNat, UInt16.reduceToNat, UInt32.reduceToNat, UInt64.reduceToNat, Int.reduceToNat]
    ((try with_reducible refine Cw.go [] ?_); (try simp (disch := (first | assumption | omega | (simp only [lenS, lenT, UInt64.reduceToNat]; try omega))) only [↓Sx.S0, Sx.S1, Tryz.fx, uWD_2, Nat.reduceAdd, Nat.reducePow, Int.reducePow, Nat.reduceBEq, ↓reduceIte, UInt8.reduceToNat, UInt16.reduceToNat, UInt32.reduceToNat, UInt64.reduceToNat, Int.reduceToNat]))
    refine Ow.callFn1 (v := .bool (badR c)) (k := k) rfl rfl rfl hk (fun w' hw' => hc _ w') ?_
    rw [hbr.1]
    refine Ow.go rfl ?_
    simp (disch := (first | assumption | omega | (simp only [lenS, lenT, UInt64.reduceToNat]; try omega))) only [↓Sx.S0, Sx.S1, Tryz.fx, uWD_2, Nat.reduceAdd, Nat.reducePow, Int.reducePow, Nat.reduceBEq, ↓reduceIte, UInt8.reduceToNat, UInt16.reduceToNat, UInt32.reduceToNat, UInt64.reduceToNat, Int.reduceToNat]
    cases hbb : badB (s.getD g 0)
    · ((try with_reducible refine Cw.go [] ?_); (try simp (disch := (first | assumption | omega | (simp only [lenS, lenT, UInt64.reduceToNat]; try omega))) only [↓Sx.S0, Sx.S1, Tryz.fx, uWD_2, Nat.reduceAdd, Nat.reducePow, Int.reducePow, Nat.reduceBEq, ↓reduceIte, UInt8.reduceToNat, UInt16.reduceToNat, UInt32.reduceToNat, UInt64.reduceToNat, Int.reduceToNat]))
      refine Again.mk (g + 1) (by omega) ⟨by omega, fun i hi => ?_⟩ ?_ rfl
      · by_cases hig : i = g
        · rw [hig]; exact hbb
        · exact hgood i (by omega)
      · rw [hbr.2 hbb]
    · ((try with_reducible refine Cw.go [] ?_); (try simp (disch := (first | assumption | omega | (simp only [lenS, lenT, UInt64.reduceToNat]; try omega))) only [↓Sx.S0, Sx.S1, Tryz.fx, uWD_2, Nat.reduceAdd, Nat.reducePow, Int.reducePow, Nat.reduceBEq, ↓reduceIte, UInt8.reduceToNat, UInt16.reduceToNat, UInt32.reduceToNat, UInt64.reduceToNat, Int.reduceToNat]))
      refine ⟨_, (by simp (disch := (first | assumption | omega | (simp only [lenS, lenT, UInt64.reduceToNat]; try omega))) only [↓Sx.S0, Sx.S1, Tryz.fx, uWD_2, Nat.reduceAdd, Nat.reducePow, Int.reducePow, Nat.reduceBEq, ↓reduceIte, UInt8.reduceToNat, UInt16.reduceToNat, UInt32.reduceToNat, UInt64.reduceToNat, Int.reduceToNat]; rfl), ⟨hw1, trivial⟩, ?_⟩
      refine ⟨(g : Int), rfl, ⟨fun _ => ?_, fun _ => by omega⟩⟩
      rw [List.any_eq_true]
      refine ⟨s.getD g 0, ?_, hbb⟩
      rw [List.getD_eq_getElem?_getD, List.getElem?_eq_getElem hlt]
      exact List.getElem_mem hlt
  · obtain rfl : g = s.length := by omega
    ((try with_reducible refine Cw.go [] ?_); (try simp (disch := (first | assumption | omega | (simp only [lenS, lenT, UInt64.reduceToNat]; try omega))) only [↓Sx.S0, Sx.S1, Tryz.fx, uWD_2, Nat.reduceAdd, Nat.reducePow, Int.reducePow, Nat.reduceBEq, ↓reduceIte, UInt8.reduceToNat, UInt16.reduceToNat, UInt32.reduceToNat, UInt64.reduceToNat, Int.reduceToNat]))
    refine Ow.nextOver rfl rfl rfl (look_same _ _ _) hlt ?_
    refine Ow.go rfl ?_
    simp (disch := (first | assumption | omega | (simp only [lenS, lenT, UInt64.reduceToNat]; try omega))) only [↓Sx.S0, Sx.S1, Tryz.fx, uWD_2, Nat.reduceAdd, Nat.reducePow, Int.reducePow, Nat.reduceBEq, ↓reduceIte, UInt8.reduceToNat, UInt16.reduceToNat, UInt32.reduceToNat, UInt64.reduceToNat, Int.reduceToNat]
    ((try with_reducible refine Cw.go [] ?_); (try simp (disch := (first | assumption | omega | (simp only [lenS, lenT, UInt64.reduceToNat]; try omega))) only [↓Sx.S0, Sx.S1, Tryz.fx, uWD_2, Nat.reduceAdd, Nat.reducePow, Int.reducePow, Nat.reduceBEq, ↓reduceIte, UInt8.reduceToNat, UInt16.reduceToNat, UInt32.reduceToNat, UInt64.reduceToNat, Int.reduceToNat]))
    refine ⟨_, (by simp (disch := (first | assumption | omega | (simp only [lenS, lenT, UInt64.reduceToNat]; try omega))) only [↓Sx.S0, Sx.S1, Tryz.fx, uWD_2, Nat.reduceAdd, Nat.reducePow, Int.reducePow, Nat.reduceBEq, ↓reduceIte, UInt8.reduceToNat, UInt16.reduceToNat, UInt32.reduceToNat, UInt64.reduceToNat, Int.reduceToNat]; rfl), ⟨hw1, trivial⟩, ?_⟩
    refine ⟨-1, rfl, ⟨fun h => by omega, fun h => ?_⟩⟩
    rw [List.any_eq_true] at h
    obtain ⟨x, hx, hxb⟩ := h
    obtain ⟨i, hi, rfl⟩ := List.getElem_of_mem hx
    have := hgood i hi
    rw [List.getD_eq_getElem?_getD, List.getElem?_eq_getElem hi] at this
    exact absurd hxb (by simpa using this)
theorem IndexFunc_spec (s : List UInt8) (k : FuncId) (hk : ∀ a w, (callFunc k a).run Tryz.prog w = .ok (.enter k a) w) (hc : ∀ c w, Rets Tryz.prog k #[v32i c] w (fun v D => v = .bool (badR c) ∧ D = [])) (w : World) (hs : s.length < 1099511627776) :
    Rets Tryz.prog 86 #[vs s, .func (.func k) #[] #[]] w (fun v D => ∃ n : Int, v = vi n ∧ (0 ≤ n ↔ s.any badB = true) ∧ D = []) := by
  refine Rets.mono (S := fun v D => (∃ n : Int, v = vi n ∧ (0 ≤ n ↔ s.any badB = true)) ∧ D = []) ?_ (by rintro v D ⟨⟨n, h1, h2⟩, h3⟩; exact ⟨n, h1, h2, h3⟩)
  refine Rets.enterV Tryz.func86 rfl (rs := [.tmp 4]) Tryz.results86 Tryz.ntmps86 ?_
  simp only [List.size_toArray, List.length_cons, List.length_nil, Nat.reduceAdd, Nat.reduceSub, List.replicate_succ, List.replicate_zero, List.cons_append, List.nil_append]
  ((try with_reducible refine Cw.go [] ?_); (try simp (disch := (first | assumption | omega | (simp only [lenS, lenT, UInt64.reduceToNat]; try omega))) only [↓Sx.S0, Sx.S1, Tryz.fx, uWD_2, Nat.reduceAdd, Nat.reducePow, Int.reducePow, Nat.reduceBEq, ↓reduceIte, UInt8.reduceToNat, UInt16.reduceToNat, UInt32.reduceToNat, UInt64.reduceToNat, Int.reduceToNat]))
  refine Ow.callF rfl rfl Tryz.call105 (S := fun _ v D => ∃ n : Int, v = vi n ∧ (0 ≤ n ↔ s.any badB = true) ∧ D = []) (fun w' hw' => indexFunc_spec s k hk hc w' hs) ?_
  rintro B v D - - ⟨n, rfl, hn, rfl⟩
  refine ⟨_, Mrg.nil, ?_⟩
  refine Ow.go rfl ?_
  simp (disch := (first | assumption | omega | (simp only [lenS, lenT, UInt64.reduceToNat]; try omega))) only [↓Sx.S0, Sx.S1, Tryz.fx, uWD_2, Nat.reduceAdd, Nat.reducePow, Int.reducePow, Nat.reduceBEq, ↓reduceIte, UInt8.reduceToNat, UInt16.reduceToNat, UInt32.reduceToNat, UInt64.reduceToNat, Int.reduceToNat]
  ((try with_reducible refine Cw.go [] ?_); (try simp (disch := (first | assumption | omega | (simp only [lenS, lenT, UInt64.reduceToNat]; try omega))) only [↓Sx.S0, Sx.S1, Tryz.fx, uWD_2, Nat.reduceAdd, Nat.reducePow, Int.reducePow, Nat.reduceBEq, ↓reduceIte, UInt8.reduceToNat, UInt16.reduceToNat, UInt32.reduceToNat, UInt64.reduceToNat, Int.reduceToNat]))
  refine ⟨_, (by simp (disch := (first | assumption | omega | (simp only [lenS, lenT, UInt64.reduceToNat]; try omega))) only [↓Sx.S0, Sx.S1, Tryz.fx, uWD_2, Nat.reduceAdd, Nat.reducePow, Int.reducePow, Nat.reduceBEq, ↓reduceIte, UInt8.reduceToNat, UInt16.reduceToNat, UInt32.reduceToNat, UInt64.reduceToNat, Int.reduceToNat]; rfl), trivial, ?_⟩
  exact ⟨n, rfl, hn⟩
theorem ContainsFunc_spec (s : List UInt8) (k : FuncId) (hk : ∀ a w, (callFunc k a).run Tryz.prog w = .ok (.enter k a) w) (hc : ∀ c w, Rets Tryz.prog k #[v32i c] w (fun v D => v = .bool (badR c) ∧ D = [])) (w : World) (hs : s.length < 1099511627776) :
    Rets Tryz.prog 62 #[vs s, .func (.func k) #[] #[]] w (fun v D => v = .bool (s.any badB) ∧ D = []) := by
  refine Rets.enterV Tryz.func62 rfl (rs := [.tmp 4]) Tryz.results62 Tryz.ntmps62 ?_
  simp only [List.size_toArray, List.length_cons, List.length_nil, Nat.reduceAdd, Nat.reduceSub, List.replicate_succ, List.replicate_zero, List.cons_append, List.nil_append]
  ((try with_reducible refine Cw.go [] ?_); (try simp (disch := (first | assumption | omega | (simp only [lenS, lenT, UInt64.reduceToNat]; try omega))) only [↓Sx.S0, Sx.S1, Tryz.fx, uWD_2, Nat.reduceAdd, Nat.reducePow, Int.reducePow, Nat.reduceBEq, ↓reduceIte, UInt8.reduceToNat, UInt16.reduceToNat, UInt32.reduceToNat, UInt64.reduceToNat, Int.reduceToNat]))
  refine Ow.callF rfl rfl Tryz.call86 (S := fun _ v D => ∃ n : Int, v = vi n ∧ (0 ≤ n ↔ s.any badB = true) ∧ D = []) (fun w' hw' => IndexFunc_spec s k hk hc w' hs) ?_
  rintro B v D - - ⟨n, rfl, hn, rfl⟩
  refine ⟨_, Mrg.nil, ?_⟩
  refine Ow.go rfl ?_
  simp (disch := (first | assumption | omega | (simp only [lenS, lenT, UInt64.reduceToNat]; try omega))) only [↓Sx.S0, Sx.S1, Tryz.fx, uWD_2, Nat.reduceAdd, Nat.reducePow, Int.reducePow, Nat.reduceBEq, ↓reduceIte, UInt8.reduceToNat, UInt16.reduceToNat, UInt32.reduceToNat, UInt64.reduceToNat, Int.reduceToNat]
  ((try with_reducible refine Cw.go [] ?_); (try simp (disch := (first | assumption | omega | (simp only [lenS, lenT, UInt64.reduceToNat]; try omega))) only [↓Sx.S0, Sx.S1, Tryz.fx, uWD_2, Nat.reduceAdd, Nat.reducePow, Int.reducePow, Nat.reduceBEq, ↓reduceIte, UInt8.reduceToNat, UInt16.reduceToNat, UInt32.reduceToNat, UInt64.reduceToNat, Int.reduceToNat]))
  refine ⟨_, (by simp (disch := (first | assumption | omega | (simp only [lenS, lenT, UInt64.reduceToNat]; try omega))) only [↓Sx.S0, Sx.S1, Tryz.fx, uWD_2, Nat.reduceAdd, Nat.reducePow, Int.reducePow, Nat.reduceBEq, ↓reduceIte, UInt8.reduceToNat, UInt16.reduceToNat, UInt32.reduceToNat, UInt64.reduceToNat, Int.reduceToNat]; rfl), trivial, ?_⟩
  exact congrArg Value.bool (by rw [Bool.eq_iff_iff, decide_eq_true_eq]; exact hn)
theorem isName_spec (s : List UInt8) (w : World) (hs : s.length < 1099511627776) :
    Rets Tryz.prog 40 #[vs s] w (fun v D => v = .bool (!(s == []) && decide (s.length ≤ 32) && !(s.any badB)) ∧ D = []) := by
  refine Rets.enterV Tryz.func40 rfl (rs := [.tmp 2]) Tryz.results40 Tryz.ntmps40 ?_
  simp only [List.size_toArray, List.length_cons, List.length_nil, Nat.reduceAdd, Nat.reduceSub, List.replicate_succ, List.replicate_zero, List.cons_append, List.nil_append]
  cases h0 : (s != [])
  · have e0 : (s == []) = true := by simpa using h0
    ((try with_reducible refine Cw.go [] ?_); (try simp (disch := (first | assumption | omega | (simp only [lenS, lenT, UInt64.reduceToNat]; try omega))) only [↓Sx.S0, Sx.S1, Tryz.fx, uWD_2, Nat.reduceAdd, Nat.reducePow, Int.reducePow, Nat.reduceBEq, ↓reduceIte, UInt8.reduceToNat, UInt16.reduceToNat, UInt32.reduceToNat, UInt64.reduceToNat, Int.reduceToNat, h0]))
    refine ⟨_, (by simp (disch := (first | assumption | omega | (simp only [lenS, lenT, UInt64.reduceToNat]; try omega))) only [↓Sx.S0, Sx.S1, Tryz.fx, uWD_2, Nat.reduceAdd, Nat.reducePow, Int.reducePow, Nat.reduceBEq, ↓reduceIte, UInt8.reduceToNat, UInt16.reduceToNat, UInt32.reduceToNat, UInt64.reduceToNat, Int.reduceToNat]; rfl), trivial, ?_⟩
    simp [tupV, e0]
  · have e0 : (s == []) = false := by simpa using h0
    cases h1 : decide ((s.length : Int) ≤ 32)
    · have e1 : decide (s.length ≤ 32) = false := decide_eq_false (by have := of_decide_eq_false h1; omega)
      ((try with_reducible refine Cw.go [] ?_); (try simp (disch := (first | assumption | omega | (simp only [lenS, lenT, UInt64.reduceToNat]; try omega))) only [↓Sx.S0, Sx.S1, Tryz.fx, uWD_2, Nat.reduceAdd, Nat.reducePow, Int.reducePow, Nat.reduceBEq, ↓reduceIte, UInt8.reduceToNat, UInt16.reduceToNat, UInt32.reduceToNat, UInt64.reduceToNat, Int.reduceToNat, h0, h1]))
      refine ⟨_, (by simp (disch := (first | assumption | omega | (simp only [lenS, lenT, UInt64.reduceToNat]; try omega))) only [↓Sx.S0, Sx.S1, Tryz.fx, uWD_2, Nat.reduceAdd, Nat.reducePow, Int.reducePow, Nat.reduceBEq, ↓reduceIte, UInt8.reduceToNat, UInt16.reduceToNat, UInt32.reduceToNat, UInt64.reduceToNat, Int.reduceToNat]; rfl), trivial, ?_⟩
      simp only [tupV, e0, e1, Bool.not_false, Bool.true_and, Bool.false_and, Bool.and_false]
    · have e1 : decide (s.length ≤ 32) = true := decide_eq_true (by have := of_decide_eq_true h1; omega)
      ((try with_reducible refine Cw.go [] ?_); (try simp (disch := (first | assumption | omega | (simp only [lenS, lenT, UInt64.reduceToNat]; try omega))) only [↓Sx.S0, Sx.S1, Tryz.fx, uWD_2, Nat.reduceAdd, Nat.reducePow, Int.reducePow, Nat.reduceBEq, ↓reduceIte, UInt8.reduceToNat, UInt16.reduceToNat, UInt32.reduceToNat, UInt64.reduceToNat, Int.reduceToNat, h0, h1]))
      refine Ow.callFV rfl Tryz.call62 (fun w' hw' => ContainsFunc_spec s 63 Tryz.call63 isNameC_spec w' hs) ?_
      refine Ow.go rfl ?_
      simp (disch := (first | assumption | omega | (simp only [lenS, lenT, UInt64.reduceToNat]; try omega))) only [↓Sx.S0, Sx.S1, Tryz.fx, uWD_2, Nat.reduceAdd, Nat.reducePow, Int.reducePow, Nat.reduceBEq, ↓reduceIte, UInt8.reduceToNat, UInt16.reduceToNat, UInt32.reduceToNat, UInt64.reduceToNat, Int.reduceToNat]
      ((try with_reducible refine Cw.go [] ?_); (try simp (disch := (first | assumption | omega | (simp only [lenS, lenT, UInt64.reduceToNat]; try omega))) only [↓Sx.S0, Sx.S1, Tryz.fx, uWD_2, Nat.reduceAdd, Nat.reducePow, Int.reducePow, Nat.reduceBEq, ↓reduceIte, UInt8.reduceToNat, UInt16.reduceToNat, UInt32.reduceToNat, UInt64.reduceToNat, Int.reduceToNat]))
      refine ⟨_, (by simp (disch := (first | assumption | omega | (simp only [lenS, lenT, UInt64.reduceToNat]; try omega))) only [↓Sx.S0, Sx.S1, Tryz.fx, uWD_2, Nat.reduceAdd, Nat.reducePow, Int.reducePow, Nat.reduceBEq, ↓reduceIte, UInt8.reduceToNat, UInt16.reduceToNat, UInt32.reduceToNat, UInt64.reduceToNat, Int.reduceToNat]; rfl), trivial, ?_⟩
      simp only [tupV, e0, e1, Bool.not_false, Bool.true_and]
end Go.Proofs
end
section
open Go Go.Proofs Go.Sx
namespace Go.Proofs
set_option maxRecDepth 10000
set_option maxHeartbeats 4000000
set_option linter.unusedSimpArgs false
set_option linter.defProp false
def uWE_1 := And.intro (And.intro (@rdIn_v8) (@rdIn_v16)) (And.intro (@rdIn_v32) (And.intro (@rdIn_v64) (@rdIn_vi)))
/-- May a text be a name? -/
def nameV (s : List UInt8) : Bool := !(s == []) && decide (s.length ≤ 32) && !(s.any badB)
theorem badB_eq (c : UInt8) : badB c = (decide (c < 33) || decide (126 < c) || (c == 47)) := by
  unfold badB
  congr 1
  rw [Bool.eq_iff_iff, beq_iff_eq, beq_iff_eq, ← UInt8.toNat_inj]; rfl
theorem refName_spec (s : List UInt8) (w : World) (hs : s.length < 1099511627776) :
    Rets Tryz.prog 19 #[vs s] w (fun v D => v = .bool (nameV s) ∧ D = []) := by
  refine Rets.enterV Tryz.func19 rfl (rs := [.tmp 2]) Tryz.results19 Tryz.ntmps19 ?_
  simp only [List.size_toArray, List.length_cons, List.length_nil, Nat.reduceAdd, Nat.reduceSub, List.replicate_succ, List.replicate_zero, List.cons_append, List.nil_append]
  ((try with_reducible refine Cw.go [] ?_); (try simp (disch := (first | assumption | omega | (simp only [lenS, lenT, UInt64.reduceToNat]; try omega))) only [↓Sx.S0, Sx.S1, Tryz.fx, uWE_1, Nat.reduceAdd, Nat.reducePow, Int.reducePow, Nat.reduceBEq, ↓reduceIte, UInt8.reduceToNat, UInt16.reduceToNat, UInt32.reduceToNat, UInt64.reduceToNat, Int.reduceToNat]))
  refine Cw.loopG (G := Nat) [4, 5, 6, 7, 10, 11, 12, 13, 14, 15, 16, 17, 18, 19, 20, 21, 22, 23, 24, 25, 2, 8, 9, 3] (fun g => [(3, vi g)]) (fun g => []) (fun g => g ≤ s.length ∧ ∀ i, i < g → badB (s.getD i 0) = false) (fun g => s.length - g) 0 rfl rfl ?_ ?_
  · exact ⟨by omega, fun i hi => by omega⟩
  intro g j hg
  simp only [overFrom, pin, setF_0, setF_s, List.contains_cons, List.contains_nil, Nat.reduceBEq, Bool.or_false, Bool.false_or, Bool.or_true, Bool.true_or, Nat.reduceAdd, ↓reduceIte, Bool.false_eq_true]
  obtain ⟨hgL, hgood⟩ := hg
  by_cases hlt : g < s.length
  · have hb := badB_eq (s.getD g 0)
    have hbad : badB (s.getD g 0) = true → nameV s = false := by
      intro h
      have : s.any badB = true := List.any_eq_true.2 ⟨s.getD g 0, by rw [List.getD_eq_getElem?_getD, List.getElem?_eq_getElem hlt]; exact List.getElem_mem hlt, h⟩
      unfold nameV
      rw [this]; simp
    have hgo : badB (s.getD g 0) = false → ∀ i, i < g + 1 → badB (s.getD i 0) = false := fun h i hi => by
      by_cases hig : i = g
      · rw [hig]; exact h
      · exact hgood i (by omega)
    generalize hc : s.getD g 0 = c at *
    cases h1 : decide (c < 33)
    · cases h2 : decide (126 < c)
      · cases h3 : (c == 47)
        · ((try with_reducible refine Cw.go [] ?_); (try simp (disch := (first | assumption | omega | (simp only [lenS, lenT, UInt64.reduceToNat]; try omega))) only [↓Sx.S0, Sx.S1, Tryz.fx, uWE_1, Nat.reduceAdd, Nat.reducePow, Int.reducePow, Nat.reduceBEq, ↓reduceIte, UInt8.reduceToNat, UInt16.reduceToNat, UInt32.reduceToNat, UInt64.reduceToNat, Int.reduceToNat, hc, h1, h2, h3]))
          refine Again.mk (g + 1) (by omega) ⟨by omega, hgo (by rw [hb, h1, h2, h3]; rfl)⟩ rfl rfl
        · ((try with_reducible refine Cw.go [] ?_); (try simp (disch := (first | assumption | omega | (simp only [lenS, lenT, UInt64.reduceToNat]; try omega))) only [↓Sx.S0, Sx.S1, Tryz.fx, uWE_1, Nat.reduceAdd, Nat.reducePow, Int.reducePow, Nat.reduceBEq, ↓reduceIte, UInt8.reduceToNat, UInt16.reduceToNat, UInt32.reduceToNat, UInt64.reduceToNat, Int.reduceToNat, hc, h1, h2, h3]))
          rw [hbad (by rw [hb, h1, h2, h3]; rfl)]
          refine ⟨_, (by simp (disch := (first | assumption | omega | (simp only [lenS, lenT, UInt64.reduceToNat]; try omega))) only [↓Sx.S0, Sx.S1, Tryz.fx, uWE_1, Nat.reduceAdd, Nat.reducePow, Int.reducePow, Nat.reduceBEq, ↓reduceIte, UInt8.reduceToNat, UInt16.reduceToNat, UInt32.reduceToNat, UInt64.reduceToNat, Int.reduceToNat]; rfl), trivial, ?_⟩
          rfl
      · ((try with_reducible refine Cw.go [] ?_); (try simp (disch := (first | assumption | omega | (simp only [lenS, lenT, UInt64.reduceToNat]; try omega))) only [↓Sx.S0, Sx.S1, Tryz.fx, uWE_1, Nat.reduceAdd, Nat.reducePow, Int.reducePow, Nat.reduceBEq, ↓reduceIte, UInt8.reduceToNat, UInt16.reduceToNat, UInt32.reduceToNat, UInt64.reduceToNat, Int.reduceToNat, hc, h1, h2]))
        rw [hbad (by rw [hb, h1, h2]; rfl)]
        refine ⟨_, (by simp (disch := (first | assumption | omega | (simp only [lenS, lenT, UInt64.reduceToNat]; try omega))) only [↓Sx.S0, Sx.S1, Tryz.fx, uWE_1, Nat.reduceAdd, Nat.reducePow, Int.reducePow, Nat.reduceBEq, ↓reduceIte, UInt8.reduceToNat, UInt16.reduceToNat, UInt32.reduceToNat, UInt64.reduceToNat, Int.reduceToNat]; rfl), trivial, ?_⟩
        rfl
    · ((try with_reducible refine Cw.go [] ?_); (try simp (disch := (first | assumption | omega | (simp only [lenS, lenT, UInt64.reduceToNat]; try omega))) only [↓Sx.S0, Sx.S1, Tryz.fx, uWE_1, Nat.reduceAdd, Nat.reducePow, Int.reducePow, Nat.reduceBEq, ↓reduceIte, UInt8.reduceToNat, UInt16.reduceToNat, UInt32.reduceToNat, UInt64.reduceToNat, Int.reduceToNat, hc, h1]))
      rw [hbad (by rw [hb, h1]; simp)]
      refine ⟨_, (by simp (disch := (first | assumption | omega | (simp only [lenS, lenT, UInt64.reduceToNat]; try omega))) only [↓Sx.S0, Sx.S1, Tryz.fx, uWE_1, Nat.reduceAdd, Nat.reducePow, Int.reducePow, Nat.reduceBEq, ↓reduceIte, UInt8.reduceToNat, UInt16.reduceToNat, UInt32.reduceToNat, UInt64.reduceToNat, Int.reduceToNat]; rfl), trivial, ?_⟩
      rfl
  · obtain rfl : g = s.length := by omega
    have hany : s.any badB = false := by
      rw [List.any_eq_false]
      intro x hx
      obtain ⟨i, hi, rfl⟩ := List.getElem_of_mem hx
      have := hgood i hi
      rw [List.getD_eq_getElem?_getD, List.getElem?_eq_getElem hi] at this
      simpa using this
    unfold nameV
    rw [hany]
    cases h1 : decide (1 ≤ (s.length : Int))
    · have e0 : (s == []) = true := by
        have := of_decide_eq_false h1
        rw [List.eq_nil_of_length_eq_zero (show s.length = 0 by omega)]; rfl
      ((try with_reducible refine Cw.go [] ?_); (try simp (disch := (first | assumption | omega | (simp only [lenS, lenT, UInt64.reduceToNat]; try omega))) only [↓Sx.S0, Sx.S1, Tryz.fx, uWE_1, Nat.reduceAdd, Nat.reducePow, Int.reducePow, Nat.reduceBEq, ↓reduceIte, UInt8.reduceToNat, UInt16.reduceToNat, UInt32.reduceToNat, UInt64.reduceToNat, Int.reduceToNat, h1]))
      refine ⟨_, (by simp (disch := (first | assumption | omega | (simp only [lenS, lenT, UInt64.reduceToNat]; try omega))) only [↓Sx.S0, Sx.S1, Tryz.fx, uWE_1, Nat.reduceAdd, Nat.reducePow, Int.reducePow, Nat.reduceBEq, ↓reduceIte, UInt8.reduceToNat, UInt16.reduceToNat, UInt32.reduceToNat, UInt64.reduceToNat, Int.reduceToNat]; rfl), trivial, ?_⟩
      simp only [tupV, e0, Bool.not_true, Bool.false_and]
    · have e0 : (s == []) = false := by
        have := of_decide_eq_true h1
        cases s with
        | nil => simp at this
        | cons x r => rfl
      have e1 : decide ((s.length : Int) ≤ 32) = decide (s.length ≤ 32) := decide_eq_decide.2 (by omega)
      ((try with_reducible refine Cw.go [] ?_); (try simp (disch := (first | assumption | omega | (simp only [lenS, lenT, UInt64.reduceToNat]; try omega))) only [↓Sx.S0, Sx.S1, Tryz.fx, uWE_1, Nat.reduceAdd, Nat.reducePow, Int.reducePow, Nat.reduceBEq, ↓reduceIte, UInt8.reduceToNat, UInt16.reduceToNat, UInt32.reduceToNat, UInt64.reduceToNat, Int.reduceToNat, h1]))
      refine ⟨_, (by simp (disch := (first | assumption | omega | (simp only [lenS, lenT, UInt64.reduceToNat]; try omega))) only [↓Sx.S0, Sx.S1, Tryz.fx, uWE_1, Nat.reduceAdd, Nat.reducePow, Int.reducePow, Nat.reduceBEq, ↓reduceIte, UInt8.reduceToNat, UInt16.reduceToNat, UInt32.reduceToNat, UInt64.reduceToNat, Int.reduceToNat]; rfl), trivial, ?_⟩
      simp only [tupV, e0, e1, Bool.not_false, Bool.true_and, Bool.and_true]
end Go.Proofs
end
namespace Go.Sx
open Go
abbrev Vals := List (List UInt8 × List UInt8)
/-- The first place of a name. -/
def fnd (k : List UInt8) : Vals → Nat → Option (Nat × List UInt8)
  | [], _ => none
  | p :: r, i => if k == p.1 then some (i, p.2) else fnd k r (i + 1)
/-- A name is given a value. -/
def updV (k v : List UInt8) : Vals → Vals
  | [] => [(k, v)]
  | p :: r => if k == p.1 then (p.1, v) :: r else p :: updV k v r
/-- A name is taken away. -/
def delV (k : List UInt8) : Vals → Vals
  | [] => []
  | p :: r => if k == p.1 then r else p :: delV k r
def pairV (p : List UInt8 × List UInt8) : Value × Value := (vs p.1, .agg (a8 p.2))
/-- What a map holds. -/
def MapR (o : Obj) (m : Vals) : Prop := ∃ es clock, o = .map es clock ∧ es.toList.map (fun e => (e.key, e.val)) = m.map pairV ∧ (es.toList.map (·.born) ++ [clock]).Pairwise (· < ·)
theorem born_push {es : List MapEntry} {c : Nat} {e : MapEntry} (h : (es.map (·.born) ++ [c]).Pairwise (· < ·)) (he : e.born = c) : ((es ++ [e]).map (·.born) ++ [c + 1]).Pairwise (· < ·) := by
  rw [List.map_append, List.map_cons, List.map_nil, he]
  refine List.pairwise_append.2 ⟨h, List.pairwise_singleton _ _, ?_⟩
  intro a ha b hb
  rw [List.mem_singleton] at hb
  subst hb
  rcases List.mem_append.1 ha with hm | hm
  · have := (List.pairwise_append.1 h).2.2 a hm c (List.mem_singleton.2 rfl)
    omega
  · rw [List.mem_singleton] at hm
    omega
theorem born_modify {es : List MapEntry} {j : Nat} {g : MapEntry → MapEntry} (hg : ∀ e, (g e).born = e.born) : (es.modify j g).map (·.born) = es.map (·.born) := by
  apply List.ext_getElem?
  intro i
  rw [List.getElem?_map, List.getElem?_map, List.getElem?_modify]
  cases es[i]? with
  | none => rfl
  | some e =>
    by_cases h : j = i
    · simp [h, hg]
    · simp [h]
theorem born_erase {es : List MapEntry} {c j : Nat} (h : (es.map (·.born) ++ [c]).Pairwise (· < ·)) : ((es.eraseIdx j).map (·.born) ++ [c]).Pairwise (· < ·) :=
  h.sublist (((List.eraseIdx_sublist es j).map _).append_right [c])

theorem bs_beq (a b : List UInt8) : ((ByteArray.mk a.toArray) == (ByteArray.mk b.toArray)) = (a == b) := by
  show (a.toArray == b.toArray) = (a == b)
  simp
theorem findNow_eq (k : List UInt8) : ∀ (es : List MapEntry) (m : Vals) (i : Nat), es.map (fun e => (e.key, e.val)) = m.map pairV →
    Instr.findNow .string (vs k) es i = some ((fnd k m i).map fun p => (p.1, .agg (a8 p.2)))
  | [], [], i, _ => rfl
  | [], _ :: _, _, h => by cases h
  | _ :: _, [], _, h => by cases h
  | e :: es, p :: m, i, h => by
    simp only [List.map_cons, List.cons.injEq, pairV, Prod.mk.injEq] at h
    obtain ⟨⟨h1, h2⟩, h3⟩ := h
    unfold Instr.findNow
    have hs : Instr.sameNow .string (vs k) e.key = some (k == p.1) := by
      rw [h1]
      simp only [vs, Instr.sameNow, bs_beq]
    rw [hs]
    unfold fnd
    cases hk : (k == p.1)
    · simp only [Bool.false_eq_true, ↓reduceIte]
      exact findNow_eq k es m (i + 1) h3
    · simp [h2]

theorem fnd_spec (k : List UInt8) : ∀ (m : Vals) (i j : Nat) (v : List UInt8), fnd k m i = some (j, v) → i ≤ j ∧ ∃ a, m[j - i]? = some (k, a) ∧ a = v
  | [], _, _, _, h => by cases h
  | p :: r, i, j, v, h => by
    unfold fnd at h
    split at h
    · rename_i hk
      cases h
      refine ⟨Nat.le_refl _, p.2, ?_, rfl⟩
      rw [Nat.sub_self, List.getElem?_cons_zero, eq_of_beq hk]
    · obtain ⟨h1, a, h2, h3⟩ := fnd_spec k r (i + 1) j v h
      refine ⟨by omega, a, ?_, h3⟩
      rw [show j - i = (j - (i + 1)) + 1 by omega, List.getElem?_cons_succ]; exact h2

theorem updV_some (k v : List UInt8) : ∀ (es : List MapEntry) (m : Vals) (i j : Nat) (a : List UInt8), es.map (fun e => (e.key, e.val)) = m.map pairV → fnd k m i = some (j, a) →
    (es.modify (j - i) fun e => { e with key := vs k, val := .agg (a8 v) }).map (fun e => (e.key, e.val)) = (updV k v m).map pairV
  | [], [], _, _, _, _, h => by cases h
  | [], _ :: _, _, _, _, h, _ => by cases h
  | _ :: _, [], _, _, _, h, _ => by cases h
  | e :: es, p :: m, i, j, a, h, hf => by
    simp only [List.map_cons, List.cons.injEq, pairV, Prod.mk.injEq] at h
    obtain ⟨⟨h1, h2⟩, h3⟩ := h
    unfold fnd at hf
    unfold updV
    split at hf
    · rename_i hk
      cases hf
      rw [if_pos hk, Nat.sub_self]
      simp only [List.modify_zero_cons, List.map_cons, pairV, eq_of_beq hk]
      rw [h3]
    · rename_i hk
      have hle := (fnd_spec k m (i + 1) j a hf).1
      rw [if_neg hk, show j - i = (j - (i + 1)) + 1 by omega]
      simp only [List.modify_succ_cons, List.map_cons, pairV]
      rw [updV_some k v es m (i + 1) j a h3 hf, h1, h2]
theorem updV_none (k v : List UInt8) : ∀ (m : Vals) (i : Nat), fnd k m i = none → updV k v m = m ++ [(k, v)]
  | [], _, _ => rfl
  | p :: r, i, h => by
    unfold fnd at h
    split at h
    · cases h
    · rename_i hk
      unfold updV
      rw [if_neg hk, updV_none k v r (i + 1) h]; rfl
theorem delV_some (k : List UInt8) : ∀ (es : List MapEntry) (m : Vals) (i j : Nat) (a : List UInt8), es.map (fun e => (e.key, e.val)) = m.map pairV → fnd k m i = some (j, a) →
    (es.eraseIdx (j - i)).map (fun e => (e.key, e.val)) = (delV k m).map pairV
  | [], [], _, _, _, _, h => by cases h
  | [], _ :: _, _, _, _, h, _ => by cases h
  | _ :: _, [], _, _, _, h, _ => by cases h
  | e :: es, p :: m, i, j, a, h, hf => by
    simp only [List.map_cons, List.cons.injEq] at h
    obtain ⟨h1, h3⟩ := h
    unfold fnd at hf
    unfold delV
    split at hf
    · rename_i hk
      cases hf
      rw [if_pos hk, Nat.sub_self]
      exact h3
    · rename_i hk
      have hle := (fnd_spec k m (i + 1) j a hf).1
      rw [if_neg hk, show j - i = (j - (i + 1)) + 1 by omega]
      simp only [List.eraseIdx_cons_succ, List.map_cons]
      rw [delV_some k es m (i + 1) j a h3 hf, h1]
theorem delV_none (k : List UInt8) : ∀ (m : Vals) (i : Nat), fnd k m i = none → delV k m = m
  | [], _, _ => rfl
  | p :: r, i, h => by
    unfold fnd at h
    split at h
    · cases h
    · rename_i hk
      unfold delV
      rw [if_neg hk, delV_none k r (i + 1) h]

section
variable {P : Program} {w0 : World} {f : Fr} {L : Heap} {N : Fr → Heap → Prop} {ops : Array Oper} {rest : List Oper} {md : Md}
  {d : Option Tmp} {ty : TypeId} {ps : String} {af : Array Edge} {g : Option (Nat × Bool)}

theorem run_findKey {w : World} {t : TypeId} (hu : P.underlying t = some .string) (k : List UInt8) (es : List MapEntry) (m : Vals) (h : es.map (fun e => (e.key, e.val)) = m.map pairV) :
    (Instr.findKey t (vs k) es).run P w = .ok ((fnd k m 0).map fun p => (p.1, .agg (a8 p.2))) w := by
  simp only [Instr.findKey, Sem.run_bind, run_underlying hu w, Result.andThen_ok, findNow_eq k es m 0 h]
  rfl
theorem run_checkKey {w : World} {t : TypeId} (hu : P.underlying t = some .string) (e : Bool) (k : List UInt8) : (Instr.checkKey e 10000 t (vs k)).run P w = .ok () w := by
  unfold Instr.checkKey
  simp only [Sem.run_bind, run_underlying hu w, Result.andThen_ok, vs]
  rfl
theorem run_getMap {w : World} {b : Nat} {es : Array MapEntry} {c : Nat} (hb : w.heap[b]? = some (.map es c)) : (getObj b).run P w = .ok (.map es c) w := by
  simp only [getObj, Sem.run, hb]
theorem run_setMap {w : World} {b : Nat} {es : Array MapEntry} {c : Nat} (hb : w.heap[b]? = some (.map es c)) (o : Obj) : (setObj b o).run P w = .ok () { w with heap := w.heap.setIfInBounds b o } := by
  simp only [setObj, Sem.run, hb]

def vm (b : Nat) : Value := .map (some b)

/-- A new map. -/
theorem Ow.makeMap {t : TypeId} {md' : Md} (he : md.turn = some md') (hs : skipped ops f ⟨d, .makeMap t none, ty, ps, af, g⟩ = false)
    (hn : ∀ b o, Above L b → w0.heap.size ≤ b → MapR o [] → Ow P w0 ops md' rest (putF f d (vm b)) (L ++ [(b, o)]) N) :
    Ow P w0 ops md (⟨d, .makeMap t none, ty, ps, af, g⟩ :: rest) f L N := by
  refine Ow.step he rfl hs fun w hw => .inl ⟨vm w.heap.size, w.alloc (.map #[] 0), _, ?_, hw.alloc _, hn _ _ (above_of fun b hb => hw.lt hb) hw.size ⟨#[], 0, rfl, rfl, List.pairwise_singleton _ _⟩⟩
  simp only [execOp, Instr.makeMap, Sem.run_bind, Option.map_none]
  rfl

/-- How many names a map holds. -/
theorem Ow.lenMap {t kt vt : TypeId} {x : Operand} {b : Nat} {o : Obj} {m : Vals} (hs : skipped ops f ⟨d, .call ⟨.builtin .len, #[x], #[t]⟩, ty, ps, af, g⟩ = false) (hsq : md = .seq) (hu : P.underlying t = some (.map kt vt)) (hx : ev f x = vm b) (hl : readB w0 L b = some o) (hm : MapR o m)
    (hn : Ow P w0 ops md rest (putF f d (vi m.length)) L N) : Ow P w0 ops md (⟨d, .call ⟨.builtin .len, #[x], #[t]⟩, ty, ps, af, g⟩ :: rest) f L N := by
  subst hsq
  obtain ⟨es, c, rfl, he, -⟩ := hm
  have hlen : es.size = m.length := by have := congrArg List.length he; simpa using this
  intro w hw
  have hb := hw.read hl
  have hS : OpS P w0 f L ⟨d, .call ⟨.builtin .len, #[x], #[t]⟩, ty, ps, af, g⟩ (fun v L' => v = vi m.length ∧ L' = L) := by
    intro w hw
    have hb := hw.read hl
    refine .inl ⟨_, w, L, ?_, hw, rfl, rfl⟩
    simp only [execOp, resolve, Sem.run_bind, Sem.run_pure, Result.andThen_ok, invoke, builtin, List.map_toArray, List.map_cons, List.map_nil, hx]
    have : (Builtin.len_ #[t] ty #[vm b]).run P w = .ok (vi m.length) w := by
      simp only [Builtin.len_, vm, List.getElem?_toArray, List.getElem?_cons_zero, Sem.run_bind, run_underlying hu w, Result.andThen_ok, run_getMap hb, hlen]
      rfl
    rw [this]; rfl
  unfold wpList
  rw [wanted_eq, hs]
  simp only [Bool.not_false, ↓reduceIte]
  exact .inl (hS.wp (fun v L' w' hp ⟨h1, h2⟩ => by subst h1; subst h2; exact hn w' hp) hw)

theorem fnd_key {k : List UInt8} {m : Vals} {es : List MapEntry} {j : Nat} {a : List UInt8} (h : es.map (fun e => (e.key, e.val)) = m.map pairV) (hf : fnd k m 0 = some (j, a)) : ∃ e, es[j]? = some e ∧ e.key = vs k := by
  obtain ⟨-, a', h1, rfl⟩ := fnd_spec k m 0 j a hf
  rw [Nat.sub_zero] at h1
  have := congrArg (·[j]?) h
  simp only [List.getElem?_map, h1, Option.map_some] at this
  cases he : es[j]? with
  | none => rw [he] at this; cases this
  | some e =>
    rw [he] at this
    simp only [Option.map_some, Option.some.injEq, pairV, Prod.mk.injEq] at this
    exact ⟨e, rfl, this.1⟩

/-- A map's name is given a value. -/
theorem Ow.mapUpdate {t kt vt : TypeId} {x y z : Operand} {b : Nat} {o : Obj} {m : Vals} {k v : List UInt8} {md' : Md} (he : md.turn = some md') (hs : skipped ops f ⟨d, .mapUpdate t x y z, ty, ps, af, g⟩ = false) (hu : P.underlying t = some (.map kt vt)) (huk : P.underlying kt = some .string)
    (hx : ev f x = vm b) (hy : ev f y = vs k) (hz : ev f z = .agg (a8 v)) (hl : look L b = some o) (hm : MapR o m)
    (hn : ∀ o', MapR o' (updV k v m) → Ow P w0 ops md' rest (putF f d undef) (setB L b o') N) :
    Ow P w0 ops md (⟨d, .mapUpdate t x y z, ty, ps, af, g⟩ :: rest) f L N := by
  obtain ⟨es, c, rfl, hes, hbo⟩ := hm
  refine Ow.step he rfl hs fun w hw => ?_
  have hb := hw.has _ _ (look_mem hl)
  have hfk := run_findKey (w := w) huk k es.toList m hes
  cases hf : fnd k m 0 with
  | none =>
    rw [hf] at hfk
    refine .inr (.inl ⟨{ w with heap := w.heap.setIfInBounds b (.map (es.push { key := vs k, val := .agg (a8 v), born := c }) (c + 1)) }, _, ?_, hw.set (key_of_look hl) rfl rfl rfl rfl, hn _ ⟨_, _, rfl, ?_, by rw [Array.toList_push]; exact born_push hbo rfl⟩⟩)
    · have : (Instr.mapUpdate t (vm b) (vs k) (.agg (a8 v))).run P w = .ok () { w with heap := w.heap.setIfInBounds b (.map (es.push { key := vs k, val := .agg (a8 v), born := c }) (c + 1)) } := by
        simp only [Instr.mapUpdate, vm, Sem.run_bind, run_underlying hu w, Result.andThen_ok, run_getMap hb, run_checkKey huk, hfk, Option.map_none, run_setMap hb]
      simp only [execOp, Sem.run_bind, hx, hy, hz]
      rw [this]; rfl
    · rw [updV_none k v m 0 hf, Array.toList_push, List.map_append, hes, List.map_append]; rfl
  | some p =>
    obtain ⟨j, a⟩ := p
    rw [hf] at hfk
    obtain ⟨e, hej, hek⟩ := fnd_key hes hf
    have hej' : es[j]? = some e := by simpa using hej
    have hkt : (Instr.keyThatStays (((es[j]?).map (·.key)).getD (vs k)) (vs k)).run P w = .ok (vs k) w := by
      rw [hej', Option.map_some, Option.getD_some, hek]
      unfold Instr.keyThatStays
      have : Instr.sameBits 10000 (vs k) (vs k) = true := by simp [vs, Instr.sameBits, bs_beq]
      rw [if_pos this]; rfl
    refine .inr (.inl ⟨{ w with heap := w.heap.setIfInBounds b (.map (es.modify j fun e => { e with key := vs k, val := .agg (a8 v) }) c) }, _, ?_, hw.set (key_of_look hl) rfl rfl rfl rfl, hn _ ⟨_, _, rfl, ?_, by rw [Array.toList_modify, born_modify (g := fun e => { e with key := vs k, val := .agg (a8 v) }) fun _ => rfl]; exact hbo⟩⟩)
    · have : (Instr.mapUpdate t (vm b) (vs k) (.agg (a8 v))).run P w = .ok () { w with heap := w.heap.setIfInBounds b (.map (es.modify j fun e => { e with key := vs k, val := .agg (a8 v) }) c) } := by
        simp only [Instr.mapUpdate, vm, Sem.run_bind, run_underlying hu w, Result.andThen_ok, run_getMap hb, run_checkKey huk, hfk, Option.map_some, hkt, run_setMap hb]
      simp only [execOp, Sem.run_bind, hx, hy, hz]
      rw [this]; rfl
    · rw [Array.toList_modify]
      have := updV_some k v es.toList m 0 j a hes hf
      rw [Nat.sub_zero] at this
      exact this

/-- A map's name is taken away. -/
theorem Ow.mapDelete {t kt vt : TypeId} {x y : Operand} {t2 : TypeId} {b : Nat} {o : Obj} {m : Vals} {k : List UInt8} {md' : Md} (he : md.turn = some md') (hs : skipped ops f ⟨d, .call ⟨.builtin .delete, #[x, y], #[t, t2]⟩, ty, ps, af, g⟩ = false) (hu : P.underlying t = some (.map kt vt)) (huk : P.underlying kt = some .string)
    (hx : ev f x = vm b) (hy : ev f y = vs k) (hl : look L b = some o) (hm : MapR o m)
    (hn : ∀ o', MapR o' (delV k m) → Ow P w0 ops md' rest (putF f d (.tuple #[])) (setB L b o') N) :
    Ow P w0 ops md (⟨d, .call ⟨.builtin .delete, #[x, y], #[t, t2]⟩, ty, ps, af, g⟩ :: rest) f L N := by
  obtain ⟨es, c, rfl, hes, hbo⟩ := hm
  refine Ow.step he rfl hs fun w hw => ?_
  have hb := hw.has _ _ (look_mem hl)
  have hfk := run_findKey (w := w) huk k es.toList m hes
  cases hf : fnd k m 0 with
  | none =>
    rw [hf] at hfk
    refine .inl ⟨.tuple #[], { w with heap := w.heap.setIfInBounds b (.map es c) }, _, ?_, hw.set (key_of_look hl) rfl rfl rfl rfl, hn _ ⟨es, c, rfl, by rw [delV_none k m 0 hf]; exact hes, hbo⟩⟩
    have : (Builtin.delete_ #[t, t2] ty #[vm b, vs k]).run P w = .ok (.tuple #[]) { w with heap := w.heap.setIfInBounds b (.map es c) } := by
      simp only [Builtin.delete_, vm, List.getElem?_toArray, List.getElem?_cons_zero, List.getElem?_cons_succ, Sem.run_bind, run_underlying hu w, Result.andThen_ok, run_getMap hb, run_checkKey huk, hfk, Option.map_none, run_setMap hb]
      rfl
    simp only [execOp, resolve, Sem.run_bind, Sem.run_pure, Result.andThen_ok, invoke, builtin, List.map_toArray, List.map_cons, List.map_nil, hx, hy]
    rw [this]; rfl
  | some p =>
    obtain ⟨j, a⟩ := p
    rw [hf] at hfk
    refine .inl ⟨.tuple #[], { w with heap := w.heap.setIfInBounds b (.map (es.eraseIdxIfInBounds j) c) }, _, ?_, hw.set (key_of_look hl) rfl rfl rfl rfl, hn _ ⟨_, c, rfl, ?_, by rw [Array.toList_eraseIdxIfInBounds]; exact born_erase hbo⟩⟩
    · have : (Builtin.delete_ #[t, t2] ty #[vm b, vs k]).run P w = .ok (.tuple #[]) { w with heap := w.heap.setIfInBounds b (.map (es.eraseIdxIfInBounds j) c) } := by
        simp only [Builtin.delete_, vm, List.getElem?_toArray, List.getElem?_cons_zero, List.getElem?_cons_succ, Sem.run_bind, run_underlying hu w, Result.andThen_ok, run_getMap hb, run_checkKey huk, hfk, Option.map_some, run_setMap hb]
        rfl
      simp only [execOp, resolve, Sem.run_bind, Sem.run_pure, Result.andThen_ok, invoke, builtin, List.map_toArray, List.map_cons, List.map_nil, hx, hy]
      rw [this]; rfl
    · have := delV_some k es.toList m 0 j a hes hf
      rw [Nat.sub_zero] at this
      rw [← this]
      simp
end
end Go.Sx
section
open Go Go.Proofs Go.Sx
namespace Go.Proofs
set_option maxRecDepth 10000
set_option maxHeartbeats 4000000
set_option linter.unusedSimpArgs false
/-! ### Refs -/
structure RefL where
  name : List UInt8
  id : IdL
def refC (r : RefL) : List Value := vs r.name :: r.id.l.map v8
theorem refC_len (r : RefL) : (refC r).length = 33 := by simp [refC, r.id.h]
theorem load_ref0 (r : RefL) (E : TypeId) (n : Nat) : loadV (some (false, n)) (some (.cells (refC r).toArray E (0, 0))) 0 = some (vs r.name) := (rfl)
theorem load_ref1 (r : RefL) (E : TypeId) : loadV (some (true, 32)) (some (.cells (refC r).toArray E (0, 0))) 1 = some (.agg (a8 r.id.l)) := by
  have hs : 1 + 32 ≤ (refC r).toArray.size := by rw [List.size_toArray, refC_len]; decide
  simp only [loadV, hs, ↓reduceIte]
  congr 2
  show (refC r).toArray.extract 1 33 = (r.id.l.map v8).toArray
  rw [List.extract_toArray]
  congr 1
  unfold refC
  rw [List.extract_eq_take_drop, List.drop_succ_cons, List.drop_zero, List.take_of_length_le (by simp [r.id.h])]
theorem cells_ref (r : RefL) : Value.cells (.agg (refC r).toArray) = (refC r).toArray := cells_agg _
theorem eqId (l l' : List UInt8) (h : l.length = 32 ∧ l'.length = 32) : binX Tryz.prog .eql 34 (.agg (a8 l)) (.agg (a8 l')) = some (.bool (l == l')) :=
  binX_a8 Tryz.underlying34 Tryz.underlying5 Tryz.ag5 (by kernel_rfl) l l' h
set_option linter.defProp false
def uWF_1 := And.intro (And.intro (And.intro (@rdIn_v8) (@rdIn_v16)) (And.intro (@rdIn_v32) (@rdIn_v64))) (And.intro (And.intro (@rdIn_vi) (@load_ref0)) (And.intro (@load_ref1) (And.intro (@cells_ref) (@eqId))))
/-- A name is given a value, or taken away. -/
def setV (r : RefL) (m : Vals) : Vals := if r.id.l == z32 then delV r.name (updV r.name r.id.l m) else updV r.name r.id.l m
theorem set_spec (b : Nat) (o : Obj) (m : Vals) (r : RefL) (w : World) (ho : w.heap[b]? = some o) (hm : MapR o m) :
    Rets Tryz.prog 52 #[vm b, .agg (refC r).toArray] w (fun v D => ∃ o', D = [(b, o')] ∧ v = .bool (decide ((setV r m).length ≤ 16)) ∧ MapR o' (setV r m)) := by
  have hbl := (Array.getElem?_eq_some_iff.1 ho).1
  refine Rets.enterM Tryz.func52 rfl (rs := [.tmp 4]) Tryz.results52 Tryz.ntmps52 ho ?_
  simp only [List.size_toArray, List.length_cons, List.length_nil, Nat.reduceAdd, Nat.reduceSub, List.replicate_succ, List.replicate_zero, List.cons_append, List.nil_append]
  ((try with_reducible refine Cw.go [] ?_); (try simp (disch := (first | assumption | omega | (simp only [lenS, lenT, UInt64.reduceToNat]; try omega))) only [↓Sx.S0, Sx.S1, Tryz.fx, uWF_1, Nat.reduceAdd, Nat.reducePow, Int.reducePow, Nat.reduceBEq, ↓reduceIte, UInt8.reduceToNat, UInt16.reduceToNat, UInt32.reduceToNat, UInt64.reduceToNat, Int.reduceToNat]))
  refine Ow.box rfl rfl fun b1 hb1 hw1 => ?_
  obtain ⟨h01, -⟩ := hb1
  refine Ow.go rfl ?_
  simp (disch := (first | assumption | omega | (simp only [lenS, lenT, UInt64.reduceToNat]; try omega))) only [↓Sx.S0, Sx.S1, Tryz.fx, uWF_1, Nat.reduceAdd, Nat.reducePow, Int.reducePow, Nat.reduceBEq, ↓reduceIte, UInt8.reduceToNat, UInt16.reduceToNat, UInt32.reduceToNat, UInt64.reduceToNat, Int.reduceToNat]
  ((try with_reducible refine Cw.go [] ?_); (try simp (disch := (first | assumption | omega | (simp only [lenS, lenT, UInt64.reduceToNat]; try omega))) only [↓Sx.S0, Sx.S1, Tryz.fx, uWF_1, Nat.reduceAdd, Nat.reducePow, Int.reducePow, Nat.reduceBEq, ↓reduceIte, UInt8.reduceToNat, UInt16.reduceToNat, UInt32.reduceToNat, UInt64.reduceToNat, Int.reduceToNat]))
  refine Ow.mapUpdate rfl rfl Tryz.underlying64 Tryz.underlying9 rfl rfl rfl (look_same _ _ _) hm (fun o1 hm1 => ?_)
  rw [setB_same]
  have hil := r.id.h
  have hz := show z32.length = 32 by simp [z32]
  refine Ow.go rfl ?_
  simp (disch := (first | assumption | omega | (simp only [lenS, lenT, UInt64.reduceToNat]; try omega))) only [↓Sx.S0, Sx.S1, Tryz.fx, uWF_1, Nat.reduceAdd, Nat.reducePow, Int.reducePow, Nat.reduceBEq, ↓reduceIte, UInt8.reduceToNat, UInt16.reduceToNat, UInt32.reduceToNat, UInt64.reduceToNat, Int.reduceToNat]
  ((try with_reducible refine Cw.go [] ?_); (try simp (disch := (first | assumption | omega | (simp only [lenS, lenT, UInt64.reduceToNat]; try omega))) only [↓Sx.S0, Sx.S1, Tryz.fx, uWF_1, Nat.reduceAdd, Nat.reducePow, Int.reducePow, Nat.reduceBEq, ↓reduceIte, UInt8.reduceToNat, UInt16.reduceToNat, UInt32.reduceToNat, UInt64.reduceToNat, Int.reduceToNat]))
  refine Ow.build (.agg (a8 z32)) rfl (by kernel_rfl) ?_
  refine Ow.go rfl ?_
  simp (disch := (first | assumption | omega | (simp only [lenS, lenT, UInt64.reduceToNat]; try omega))) only [↓Sx.S0, Sx.S1, Tryz.fx, uWF_1, Nat.reduceAdd, Nat.reducePow, Int.reducePow, Nat.reduceBEq, ↓reduceIte, UInt8.reduceToNat, UInt16.reduceToNat, UInt32.reduceToNat, UInt64.reduceToNat, Int.reduceToNat]
  unfold setV
  cases hid : (r.id.l == z32)
  · rw [if_neg Bool.false_ne_true]
    ((try with_reducible refine Cw.go [] ?_); (try simp (disch := (first | assumption | omega | (simp only [lenS, lenT, UInt64.reduceToNat]; try omega))) only [↓Sx.S0, Sx.S1, Tryz.fx, uWF_1, Nat.reduceAdd, Nat.reducePow, Int.reducePow, Nat.reduceBEq, ↓reduceIte, UInt8.reduceToNat, UInt16.reduceToNat, UInt32.reduceToNat, UInt64.reduceToNat, Int.reduceToNat]))
    refine Ow.lenMap rfl rfl Tryz.underlying64 rfl (read_same _ _ _ _) hm1 ?_
    refine Ow.go rfl ?_
    simp (disch := (first | assumption | omega | (simp only [lenS, lenT, UInt64.reduceToNat]; try omega))) only [↓Sx.S0, Sx.S1, Tryz.fx, uWF_1, Nat.reduceAdd, Nat.reducePow, Int.reducePow, Nat.reduceBEq, ↓reduceIte, UInt8.reduceToNat, UInt16.reduceToNat, UInt32.reduceToNat, UInt64.reduceToNat, Int.reduceToNat]
    ((try with_reducible refine Cw.go [] ?_); (try simp (disch := (first | assumption | omega | (simp only [lenS, lenT, UInt64.reduceToNat]; try omega))) only [↓Sx.S0, Sx.S1, Tryz.fx, uWF_1, Nat.reduceAdd, Nat.reducePow, Int.reducePow, Nat.reduceBEq, ↓reduceIte, UInt8.reduceToNat, UInt16.reduceToNat, UInt32.reduceToNat, UInt64.reduceToNat, Int.reduceToNat]))
    refine ⟨_, _, _, (by simp (disch := omega) only [resVs_cons, resVs_nil, resV_tmp, getF_0, getF_s, cons2_some]; rfl), rfl, ⟨hw1, trivial⟩, ?_, hm1⟩
    exact congrArg Value.bool (decide_eq_decide.2 (by omega))
  · rw [if_pos rfl]
    ((try with_reducible refine Cw.go [] ?_); (try simp (disch := (first | assumption | omega | (simp only [lenS, lenT, UInt64.reduceToNat]; try omega))) only [↓Sx.S0, Sx.S1, Tryz.fx, uWF_1, Nat.reduceAdd, Nat.reducePow, Int.reducePow, Nat.reduceBEq, ↓reduceIte, UInt8.reduceToNat, UInt16.reduceToNat, UInt32.reduceToNat, UInt64.reduceToNat, Int.reduceToNat]))
    refine Ow.mapDelete rfl rfl Tryz.underlying64 Tryz.underlying9 rfl rfl (look_same _ _ _) hm1 (fun o2 hm2 => ?_)
    rw [setB_same]
    refine Ow.go rfl ?_
    simp (disch := (first | assumption | omega | (simp only [lenS, lenT, UInt64.reduceToNat]; try omega))) only [↓Sx.S0, Sx.S1, Tryz.fx, uWF_1, Nat.reduceAdd, Nat.reducePow, Int.reducePow, Nat.reduceBEq, ↓reduceIte, UInt8.reduceToNat, UInt16.reduceToNat, UInt32.reduceToNat, UInt64.reduceToNat, Int.reduceToNat]
    ((try with_reducible refine Cw.go [] ?_); (try simp (disch := (first | assumption | omega | (simp only [lenS, lenT, UInt64.reduceToNat]; try omega))) only [↓Sx.S0, Sx.S1, Tryz.fx, uWF_1, Nat.reduceAdd, Nat.reducePow, Int.reducePow, Nat.reduceBEq, ↓reduceIte, UInt8.reduceToNat, UInt16.reduceToNat, UInt32.reduceToNat, UInt64.reduceToNat, Int.reduceToNat]))
    refine Ow.lenMap rfl rfl Tryz.underlying64 rfl (read_same _ _ _ _) hm2 ?_
    refine Ow.go rfl ?_
    simp (disch := (first | assumption | omega | (simp only [lenS, lenT, UInt64.reduceToNat]; try omega))) only [↓Sx.S0, Sx.S1, Tryz.fx, uWF_1, Nat.reduceAdd, Nat.reducePow, Int.reducePow, Nat.reduceBEq, ↓reduceIte, UInt8.reduceToNat, UInt16.reduceToNat, UInt32.reduceToNat, UInt64.reduceToNat, Int.reduceToNat]
    ((try with_reducible refine Cw.go [] ?_); (try simp (disch := (first | assumption | omega | (simp only [lenS, lenT, UInt64.reduceToNat]; try omega))) only [↓Sx.S0, Sx.S1, Tryz.fx, uWF_1, Nat.reduceAdd, Nat.reducePow, Int.reducePow, Nat.reduceBEq, ↓reduceIte, UInt8.reduceToNat, UInt16.reduceToNat, UInt32.reduceToNat, UInt64.reduceToNat, Int.reduceToNat]))
    refine ⟨_, _, _, (by simp (disch := omega) only [resVs_cons, resVs_nil, resV_tmp, getF_0, getF_s, cons2_some]; rfl), rfl, ⟨hw1, trivial⟩, ?_, hm2⟩
    exact congrArg Value.bool (decide_eq_decide.2 (by omega))
end Go.Proofs
end
section
open Go Go.Proofs Go.Sx
namespace Go.Proofs
set_option maxRecDepth 10000
set_option maxHeartbeats 4000000
set_option linter.unusedSimpArgs false
theorem build_ref (n : List UInt8) (id : IdL) : buildV (plcT Tryz.prog 48) (zeroV Tryz.prog 48) [(0, vs n), (1, .agg (a8 id.l))] = some (.agg (refC ⟨n, id⟩).toArray) := by
  have hz : zeroV Tryz.prog 48 = some (.agg (vs [] :: (List.replicate 32 (0 : UInt8)).map v8).toArray) := Tryz.zr48
  rw [Tryz.pc48, hz]
  have h1 : (Value.cells (vs n)) = #[vs n] := rfl
  have h2 : Value.cells (.agg (a8 id.l)) = (id.l.map v8).toArray := cells_agg _
  have hp1 : putC (vs [] :: (List.replicate 32 (0 : UInt8)).map v8).toArray 0 [vs n] = (vs n :: (List.replicate 32 (0 : UInt8)).map v8).toArray := rfl
  have hp2 := putC_app (id.l.map v8) [vs n] ((List.replicate 32 (0 : UInt8)).map v8) (by simp [id.h])
  simp only [List.cons_append, List.nil_append, List.length_cons, List.length_nil, Nat.zero_add] at hp2
  have hd : List.drop (id.l.map v8).length ((List.replicate 32 (0 : UInt8)).map v8) = [] := List.drop_eq_nil_of_le (by simp [id.h])
  rw [hd, List.append_nil] at hp2
  have s1 : (vs [] :: (List.replicate 32 (0 : UInt8)).map v8).toArray.size = 33 := by simp
  have s2 : (vs n :: (List.replicate 32 (0 : UInt8)).map v8).toArray.size = 33 := by simp
  have s3 : (id.l.map v8).toArray.size = 32 := by simp [id.h]
  simp only [buildV, fillV, List.getElem?_cons_zero, List.getElem?_cons_succ, h1, h2, s3]
  rw [if_pos ⟨rfl, by rw [s1]; decide⟩, if_pos ⟨trivial, by rw [hp1, s2]; decide⟩, hp1, hp2]
  rfl
theorem idR_len {s : List UInt8} {a : Nat} {e : Int} (_ha : a ≤ s.length) : (idR s a e).1.length = 32 := by
  unfold idR
  simp only
  split
  · assumption
  · simp [z32]
theorem idR_le {s : List UInt8} {a : Nat} {e : Int} (ha : a ≤ s.length) : a ≤ (idR s a e).2.1 ∧ (idR s a e).2.1 ≤ s.length := rawR_le ha
theorem textR_le {s : List UInt8} {a : Nat} {e most : Int} (ha : a ≤ s.length) : a ≤ (textR s a e most).2.1 ∧ (textR s a e most).2.1 ≤ s.length := by
  have hp := numR_le (e := e) (most := most) ha
  have hq := rawR_le (e := (numR s a e most).2.2) (n := (numR s a e most).1) hp.2
  unfold textR
  simp only
  split
  · exact ⟨Nat.le_refl _, ha⟩
  · exact ⟨by omega, hq.2⟩
theorem store_ref (old : Array Value) (r : RefL) (E : TypeId) (h : old.size = 33) : storeV (some (true, 33)) (some (.cells old E (0, 0))) 0 (.agg (refC r).toArray) = some (.cells (refC r).toArray E (0, 0)) := by
  have h1 : Value.cells (.agg (refC r).toArray) = (refC r).toArray := cells_agg _
  have hp := putC_app (refC r) [] old.toList (by rw [refC_len, Array.length_toList, h]; exact Nat.le_refl _)
  simp only [List.nil_append, List.length_nil, Array.toArray_toList] at hp
  have hd : List.drop (refC r).length old.toList = [] := List.drop_eq_nil_of_le (by rw [refC_len, Array.length_toList, h]; exact Nat.le_refl _)
  rw [hd, List.append_nil] at hp
  have ho : (refC r).all Value.oneCell' = true := by
    unfold refC
    rw [List.all_cons, List.all_map, Bool.and_eq_true]
    exact ⟨rfl, List.all_eq_true.2 fun x _ => rfl⟩
  unfold storeV
  simp only [h1]
  rw [if_pos ⟨by rw [List.size_toArray, refC_len], by omega, .inl (Nat.le_refl 0), ho⟩, hp]
theorem load_ref (r : RefL) (E : TypeId) : loadV (some (true, 33)) (some (.cells (refC r).toArray E (0, 0))) 0 = some (.agg (refC r).toArray) := load_all _ E (0, 0) 33 (by rw [List.size_toArray, refC_len])
theorem store_rr (r r' : RefL) (E : TypeId) : storeV (some (true, 33)) (some (.cells (refC r').toArray E (0, 0))) 0 (.agg (refC r).toArray) = some (.cells (refC r).toArray E (0, 0)) := store_ref _ _ _ (by rw [List.size_toArray, refC_len])
def ref0 : RefL := ⟨[], id0⟩
theorem zrRef : zeroV Tryz.prog 48 = some (.agg (refC ref0).toArray) := Tryz.zr48
/-- A ref. -/
def oneR (s : List UInt8) (a : Nat) (e : Int) (ha : a ≤ s.length) : RefL × Nat × Int :=
  (⟨(textR s a e 32).1, ⟨(idR s (textR s a e 32).2.1 (textR s a e 32).2.2).1, idR_len (textR_le ha).2⟩⟩, (idR s (textR s a e 32).2.1 (textR s a e 32).2.2).2)
set_option linter.defProp false
def uWG_1 := And.intro (And.intro (And.intro (@rdIn_v8) (@rdIn_v16)) (And.intro (@rdIn_v32) (And.intro (@rdIn_v64) (@rdIn_vi)))) (And.intro (And.intro (@load_ref0) (And.intro (@load_ref1) (@cells_ref))) (And.intro (@eqId) (And.intro (@store_rr) (@load_ref))))
theorem one_spec (b : Nat) (s : List UInt8) (a : Nat) (e : Int) (w : World) (ha : a ≤ s.length) (hs : s.length < 1099511627776) (ho : w.heap[b]? = some (.cells #[vs s, vi a, vi e] 108 (0, 0))) :
    Rets Tryz.prog 45 #[vp b 0] w (fun v D => ∃ o, D = [(b, o)] ∧ v = .agg (refC (oneR s a e ha).1).toArray ∧ o = .cells #[vs s, vi (oneR s a e ha).2.1, vi (oneR s a e ha).2.2] 108 (0, 0)) := by
  have hbl := (Array.getElem?_eq_some_iff.1 ho).1
  have ht := textR_le (e := e) (most := 32) ha
  unfold oneR
  refine Rets.enterM Tryz.func45 rfl (rs := [.cell 2 48]) Tryz.results45 Tryz.ntmps45 ho ?_
  simp only [List.size_toArray, List.length_cons, List.length_nil, Nat.reduceAdd, Nat.reduceSub, List.replicate_succ, List.replicate_zero, List.cons_append, List.nil_append]
  ((try with_reducible refine Cw.go [] ?_); (try simp (disch := (first | assumption | omega | (simp only [lenS, lenT, UInt64.reduceToNat]; try omega))) only [↓Sx.S0, Sx.S1, Tryz.fx, uWG_1, Nat.reduceAdd, Nat.reducePow, Int.reducePow, Nat.reduceBEq, ↓reduceIte, UInt8.reduceToNat, UInt16.reduceToNat, UInt32.reduceToNat, UInt64.reduceToNat, Int.reduceToNat]))
  refine Ow.alloc rfl rfl zrRef fun b1 hb1 hw1 => ?_
  rw [cells_ref]
  obtain ⟨h01, -⟩ := hb1
  refine Ow.go rfl ?_
  simp (disch := (first | assumption | omega | (simp only [lenS, lenT, UInt64.reduceToNat]; try omega))) only [↓Sx.S0, Sx.S1, Tryz.fx, uWG_1, Nat.reduceAdd, Nat.reducePow, Int.reducePow, Nat.reduceBEq, ↓reduceIte, UInt8.reduceToNat, UInt16.reduceToNat, UInt32.reduceToNat, UInt64.reduceToNat, Int.reduceToNat]
  ((try with_reducible refine Cw.go [] ?_); (try simp (disch := (first | assumption | omega | (simp only [lenS, lenT, UInt64.reduceToNat]; try omega))) only [↓Sx.S0, Sx.S1, Tryz.fx, uWG_1, Nat.reduceAdd, Nat.reducePow, Int.reducePow, Nat.reduceBEq, ↓reduceIte, UInt8.reduceToNat, UInt16.reduceToNat, UInt32.reduceToNat, UInt64.reduceToNat, Int.reduceToNat]))
  refine Ow.callM rfl rfl Tryz.call65 (by simp [keys]) (fun w' hw' => RText_spec b s a e 32 w' ha hs (hw'.has _ _ List.mem_cons_self)) ?_
  refine Ow.go rfl ?_
  simp (disch := (first | assumption | omega | (simp only [lenS, lenT, UInt64.reduceToNat]; try omega))) only [↓Sx.S0, Sx.S1, Tryz.fx, uWG_1, Nat.reduceAdd, Nat.reducePow, Int.reducePow, Nat.reduceBEq, ↓reduceIte, UInt8.reduceToNat, UInt16.reduceToNat, UInt32.reduceToNat, UInt64.reduceToNat, Int.reduceToNat]
  refine Ow.callM rfl rfl Tryz.call69 (by simp [keys]) (fun w' hw' => RId_spec b s _ _ w' ht.2 hs (hw'.has _ _ List.mem_cons_self)) ?_
  rw [setB_same]
  refine Ow.build _ rfl (build_ref (textR s a e 32).1 ⟨(idR s (textR s a e 32).2.1 (textR s a e 32).2.2).1, idR_len (textR_le ha).2⟩) ?_
  generalize (⟨(textR s a e 32).1, ⟨(idR s (textR s a e 32).2.1 (textR s a e 32).2.2).1, idR_len (textR_le ha).2⟩⟩ : RefL) = r
  generalize hq : (idR s (textR s a e 32).2.1 (textR s a e 32).2.2).2 = q
  refine Ow.go rfl ?_
  simp (disch := (first | assumption | omega | (simp only [lenS, lenT, UInt64.reduceToNat]; try omega))) only [↓Sx.S0, Sx.S1, Tryz.fx, uWG_1, Nat.reduceAdd, Nat.reducePow, Int.reducePow, Nat.reduceBEq, ↓reduceIte, UInt8.reduceToNat, UInt16.reduceToNat, UInt32.reduceToNat, UInt64.reduceToNat, Int.reduceToNat]
  ((try with_reducible refine Cw.go [] ?_); (try simp (disch := (first | assumption | omega | (simp only [lenS, lenT, UInt64.reduceToNat]; try omega))) only [↓Sx.S0, Sx.S1, Tryz.fx, uWG_1, Nat.reduceAdd, Nat.reducePow, Int.reducePow, Nat.reduceBEq, ↓reduceIte, UInt8.reduceToNat, UInt16.reduceToNat, UInt32.reduceToNat, UInt64.reduceToNat, Int.reduceToNat]))
  refine ⟨_, _, _, (by simp (disch := (first | assumption | omega | (simp only [lenS, lenT, UInt64.reduceToNat]; try omega))) only [↓Sx.S0, Sx.S1, Tryz.fx, uWG_1, Nat.reduceAdd, Nat.reducePow, Int.reducePow, Nat.reduceBEq, ↓reduceIte, UInt8.reduceToNat, UInt16.reduceToNat, UInt32.reduceToNat, UInt64.reduceToNat, Int.reduceToNat]; rfl), rfl, ⟨hw1, trivial⟩, ?_⟩
  exact ⟨rfl, rfl⟩
/-- A record that begins so: what stands in it; the reader behind it. -/
def recR (s : List UInt8) (a : Nat) (e : Int) (p : List UInt8) : Option (List UInt8) × Nat × Int :=
  let t := textR s a e 65536
  let u := unsealV t.1
  let c := cutP u.1 p
  (if u.2 = true ∧ c.2 = true ∧ t.2.2 = 0 then some c.1 else none, t.2)
end Go.Proofs
end
section
open Go Go.Proofs Go.Sx
namespace Go.Proofs
set_option maxRecDepth 10000
set_option maxHeartbeats 4000000
set_option linter.unusedSimpArgs false
set_option linter.defProp false
def uWH_1 := And.intro (And.intro (And.intro (And.intro (@rdIn_v8) (@rdIn_v16)) (And.intro (@rdIn_v32) (@rdIn_v64))) (And.intro (And.intro (@rdIn_vi) (@load_rd0)) (And.intro (@load_rd1) (@load_rd2)))) (And.intro (And.intro (And.intro (@store_rd1) (@store_rd2)) (And.intro (@nilR) (@nilR'))) (And.intro (And.intro (@nnilR) (@nnilR')) (And.intro (@Sx.tup2_0) (@Sx.tup2_1))))
theorem textR_len {s : List UInt8} {a : Nat} {e most : Int} (hs : s.length < 1099511627776) : (textR s a e most).1.length < 1099511627776 := by
  have : ∀ (b : Nat) (e n : Int), (rawR s b e n).1.length ≤ s.length := by
    intro b e n
    unfold rawR
    split
    · simp
    · split
      · simp
      · split
        · simp
        · simp only [List.length_take, List.length_drop]; omega
  unfold textR
  simp only
  split
  · simp
  · exact Nat.lt_of_le_of_lt (this _ _ _) hs
theorem unsealV_len (s : List UInt8) : (unsealV s).1.length ≤ s.length := by
  unfold unsealV
  split
  · simp
  · split
    · simp only [List.length_take]; omega
    · simp
/-- What unrecord leaves: the reader; and another one, if a record stood there. -/
def RecS (s : List UInt8) (a : Nat) (e : Int) (p : List UInt8) (b n : Nat) (v : Value) (D : Heap) : Prop :=
  ((recR s a e p).1 = none ∧ v = .pointer none ∧ D = [(b, .cells #[vs s, vi (recR s a e p).2.1, vi (recR s a e p).2.2] 108 (0, 0))]) ∨
  ∃ b' c, (recR s a e p).1 = some c ∧ v = vp b' 0 ∧ n ≤ b' ∧ b ≠ b' ∧ D = [(b, .cells #[vs s, vi (recR s a e p).2.1, vi (recR s a e p).2.2] 108 (0, 0)), (b', .cells #[vs c, vi 0, vi 0] 108 (0, 0))]
theorem recR_len {s : List UInt8} {a : Nat} {e : Int} {p c : List UInt8} (hs : s.length < 1099511627776) (h : (recR s a e p).1 = some c) : c.length < 1099511627776 := by
  have h1 := textR_len (a := a) (e := e) (most := 65536) hs
  have h2 := unsealV_len (textR s a e 65536).1
  unfold recR at h
  simp only at h
  split at h
  · simp only [Option.some.injEq] at h
    subst h
    unfold cutP
    split
    · simp only [List.length_drop]; omega
    · simp only; omega
  · cases h
theorem recR_err {s : List UInt8} {a : Nat} {e : Int} {p c : List UInt8} (h : (recR s a e p).1 = some c) : (recR s a e p).2.2 = 0 := by
  unfold recR at h ⊢
  simp only at h ⊢
  split at h
  · rename_i hh; exact hh.2.2
  · cases h
theorem unrecord_spec (b : Nat) (s : List UInt8) (a : Nat) (e : Int) (p : List UInt8) (w : World) (hG : GlobC w) (hbg : b ≠ 1) (ha : a ≤ s.length) (hs : s.length < 1099511627776) (ho : w.heap[b]? = some (.cells #[vs s, vi a, vi e] 108 (0, 0))) :
    Rets Tryz.prog 43 #[vp b 0, vs p] w (XS w [(b, .cells #[vs s, vi a, vi e] 108 (0, 0))] (RecS s a e p b 0)) := by
  have hbl := (Array.getElem?_eq_some_iff.1 ho).1
  have htl := textR_len (a := a) (e := e) (most := 65536) hs
  have hul := unsealV_len (textR s a e 65536).1
  have hr : recR s a e p = (if (unsealV (textR s a e 65536).1).2 = true ∧ (cutP (unsealV (textR s a e 65536).1).1 p).2 = true ∧ (textR s a e 65536).2.2 = 0 then some (cutP (unsealV (textR s a e 65536).1).1 p).1 else none, (textR s a e 65536).2) := rfl
  unfold RecS
  rw [hr]
  have hX0 : ∀ q, q ∈ [(b, Obj.cells #[vs s, vi a, vi e] 108 (0, 0))] → w.heap[q.1]? = some q.2 := by
    intro q hq
    obtain rfl := List.mem_singleton.1 hq
    exact ho
  refine Rets.enterX Tryz.func43 rfl (rs := [.tmp 4]) Tryz.results43 Tryz.ntmps43 hX0 (by simp [keys]) ?_
  simp only [List.size_toArray, List.length_cons, List.length_nil, Nat.reduceAdd, Nat.reduceSub, List.replicate_succ, List.replicate_zero, List.cons_append, List.nil_append]
  ((try with_reducible refine Cw.go [] ?_); (try simp (disch := (first | assumption | omega | (simp only [lenS, lenT, UInt64.reduceToNat]; try omega))) only [↓Sx.S0, Sx.S1, Tryz.fx, uWH_1, Nat.reduceAdd, Nat.reducePow, Int.reducePow, Nat.reduceBEq, ↓reduceIte, UInt8.reduceToNat, UInt16.reduceToNat, UInt32.reduceToNat, UInt64.reduceToNat, Int.reduceToNat]))
  refine Ow.callM rfl rfl Tryz.call65 (by simp [keys]) (fun w' hw' => RText_spec b s a e 65536 w' ha hs (hw'.has _ _ List.mem_cons_self)) ?_
  rw [setB_same]
  generalize textR s a e 65536 = t at *
  obtain ⟨t, a2, e2⟩ := t
  simp only at htl hul ⊢
  refine Ow.go rfl ?_
  simp (disch := (first | assumption | omega | (simp only [lenS, lenT, UInt64.reduceToNat]; try omega))) only [↓Sx.S0, Sx.S1, Tryz.fx, uWH_1, Nat.reduceAdd, Nat.reducePow, Int.reducePow, Nat.reduceBEq, ↓reduceIte, UInt8.reduceToNat, UInt16.reduceToNat, UInt32.reduceToNat, UInt64.reduceToNat, Int.reduceToNat]
  refine Ow.callFV rfl Tryz.call64 (fun w' hw' => cUnseal_spec t w' (GlobC.of hG hw' (by simp [keys]; omega)) htl) ?_
  generalize unsealV t = u at *
  obtain ⟨u, ok⟩ := u
  simp only at hul ⊢
  refine Ow.go rfl ?_
  simp (disch := (first | assumption | omega | (simp only [lenS, lenT, UInt64.reduceToNat]; try omega))) only [↓Sx.S0, Sx.S1, Tryz.fx, uWH_1, Nat.reduceAdd, Nat.reducePow, Int.reducePow, Nat.reduceBEq, ↓reduceIte, UInt8.reduceToNat, UInt16.reduceToNat, UInt32.reduceToNat, UInt64.reduceToNat, Int.reduceToNat]
  ((try with_reducible refine Cw.go [] ?_); (try simp (disch := (first | assumption | omega | (simp only [lenS, lenT, UInt64.reduceToNat]; try omega))) only [↓Sx.S0, Sx.S1, Tryz.fx, uWH_1, Nat.reduceAdd, Nat.reducePow, Int.reducePow, Nat.reduceBEq, ↓reduceIte, UInt8.reduceToNat, UInt16.reduceToNat, UInt32.reduceToNat, UInt64.reduceToNat, Int.reduceToNat]))
  refine Ow.callFV rfl Tryz.call66 (fun w' hw' => CutPrefix_spec u p w' (by omega)) ?_
  generalize cutP u p = c at *
  obtain ⟨c, is⟩ := c
  simp only
  refine Ow.go rfl ?_
  simp (disch := (first | assumption | omega | (simp only [lenS, lenT, UInt64.reduceToNat]; try omega))) only [↓Sx.S0, Sx.S1, Tryz.fx, uWH_1, Nat.reduceAdd, Nat.reducePow, Int.reducePow, Nat.reduceBEq, ↓reduceIte, UInt8.reduceToNat, UInt16.reduceToNat, UInt32.reduceToNat, UInt64.reduceToNat, Int.reduceToNat]
  ((try with_reducible refine Cw.go [] ?_); (try simp (disch := (first | assumption | omega | (simp only [lenS, lenT, UInt64.reduceToNat]; try omega))) only [↓Sx.S0, Sx.S1, Tryz.fx, uWH_1, Nat.reduceAdd, Nat.reducePow, Int.reducePow, Nat.reduceBEq, ↓reduceIte, UInt8.reduceToNat, UInt16.reduceToNat, UInt32.reduceToNat, UInt64.reduceToNat, Int.reduceToNat]))
  cases ok
  · ((try with_reducible refine Cw.go [] ?_); (try simp (disch := (first | assumption | omega | (simp only [lenS, lenT, UInt64.reduceToNat]; try omega))) only [↓Sx.S0, Sx.S1, Tryz.fx, uWH_1, Nat.reduceAdd, Nat.reducePow, Int.reducePow, Nat.reduceBEq, ↓reduceIte, UInt8.reduceToNat, UInt16.reduceToNat, UInt32.reduceToNat, UInt64.reduceToNat, Int.reduceToNat]))
    refine ⟨_, (by simp (disch := (first | assumption | omega | (simp only [lenS, lenT, UInt64.reduceToNat]; try omega))) only [↓Sx.S0, Sx.S1, Tryz.fx, uWH_1, Nat.reduceAdd, Nat.reducePow, Int.reducePow, Nat.reduceBEq, ↓reduceIte, UInt8.reduceToNat, UInt16.reduceToNat, UInt32.reduceToNat, UInt64.reduceToNat, Int.reduceToNat]; rfl), ?_⟩
    exact ⟨Ext.refl _ _ |>.keys rfl, .inl ⟨by simp, rfl, rfl⟩⟩
  · cases is
    · ((try with_reducible refine Cw.go [] ?_); (try simp (disch := (first | assumption | omega | (simp only [lenS, lenT, UInt64.reduceToNat]; try omega))) only [↓Sx.S0, Sx.S1, Tryz.fx, uWH_1, Nat.reduceAdd, Nat.reducePow, Int.reducePow, Nat.reduceBEq, ↓reduceIte, UInt8.reduceToNat, UInt16.reduceToNat, UInt32.reduceToNat, UInt64.reduceToNat, Int.reduceToNat]))
      refine ⟨_, (by simp (disch := (first | assumption | omega | (simp only [lenS, lenT, UInt64.reduceToNat]; try omega))) only [↓Sx.S0, Sx.S1, Tryz.fx, uWH_1, Nat.reduceAdd, Nat.reducePow, Int.reducePow, Nat.reduceBEq, ↓reduceIte, UInt8.reduceToNat, UInt16.reduceToNat, UInt32.reduceToNat, UInt64.reduceToNat, Int.reduceToNat]; rfl), ?_⟩
      exact ⟨Ext.refl _ _ |>.keys rfl, .inl ⟨by simp, rfl, rfl⟩⟩
    · ((try with_reducible refine Cw.go [] ?_); (try simp (disch := (first | assumption | omega | (simp only [lenS, lenT, UInt64.reduceToNat]; try omega))) only [↓Sx.S0, Sx.S1, Tryz.fx, uWH_1, Nat.reduceAdd, Nat.reducePow, Int.reducePow, Nat.reduceBEq, ↓reduceIte, UInt8.reduceToNat, UInt16.reduceToNat, UInt32.reduceToNat, UInt64.reduceToNat, Int.reduceToNat]))
      refine Ow.callFV rfl Tryz.call67 (fun w' hw' => RErr_spec b s _ e2 w' (hw'.has _ _ List.mem_cons_self)) ?_
      refine Ow.go rfl ?_
      simp (disch := (first | assumption | omega | (simp only [lenS, lenT, UInt64.reduceToNat]; try omega))) only [↓Sx.S0, Sx.S1, Tryz.fx, uWH_1, Nat.reduceAdd, Nat.reducePow, Int.reducePow, Nat.reduceBEq, ↓reduceIte, UInt8.reduceToNat, UInt16.reduceToNat, UInt32.reduceToNat, UInt64.reduceToNat, Int.reduceToNat]
      by_cases he : e2 = 0
      · ((try with_reducible refine Cw.go [] ?_); (try simp (disch := (first | assumption | omega | (simp only [lenS, lenT, UInt64.reduceToNat]; try omega))) only [↓Sx.S0, Sx.S1, Tryz.fx, uWH_1, Nat.reduceAdd, Nat.reducePow, Int.reducePow, Nat.reduceBEq, ↓reduceIte, UInt8.reduceToNat, UInt16.reduceToNat, UInt32.reduceToNat, UInt64.reduceToNat, Int.reduceToNat]))
        refine Ow.callF rfl rfl Tryz.call42 (S := fun B v D => ∃ b', B ≤ b' ∧ v = vp b' 0 ∧ D = [(b', .cells #[vs c, vi 0, vi 0] 108 (0, 0))]) (fun w' hw' => RNew_spec c w') ?_
        rintro B v D hab hB ⟨b', hb', rfl, rfl⟩
        refine ⟨_, Mrg.fresh (by intro q hq; simp only [keys, List.map_cons, List.map_nil, List.mem_singleton] at hq; omega), ?_⟩
        obtain ⟨hab1, -⟩ := hab
        refine Ow.go rfl ?_
        simp (disch := (first | assumption | omega | (simp only [lenS, lenT, UInt64.reduceToNat]; try omega))) only [↓Sx.S0, Sx.S1, Tryz.fx, uWH_1, Nat.reduceAdd, Nat.reducePow, Int.reducePow, Nat.reduceBEq, ↓reduceIte, UInt8.reduceToNat, UInt16.reduceToNat, UInt32.reduceToNat, UInt64.reduceToNat, Int.reduceToNat]
        ((try with_reducible refine Cw.go [] ?_); (try simp (disch := (first | assumption | omega | (simp only [lenS, lenT, UInt64.reduceToNat]; try omega))) only [↓Sx.S0, Sx.S1, Tryz.fx, uWH_1, Nat.reduceAdd, Nat.reducePow, Int.reducePow, Nat.reduceBEq, ↓reduceIte, UInt8.reduceToNat, UInt16.reduceToNat, UInt32.reduceToNat, UInt64.reduceToNat, Int.reduceToNat]))
        refine ⟨_, (by simp (disch := (first | assumption | omega | (simp only [lenS, lenT, UInt64.reduceToNat]; try omega))) only [↓Sx.S0, Sx.S1, Tryz.fx, uWH_1, Nat.reduceAdd, Nat.reducePow, Int.reducePow, Nat.reduceBEq, ↓reduceIte, UInt8.reduceToNat, UInt16.reduceToNat, UInt32.reduceToNat, UInt64.reduceToNat, Int.reduceToNat]; rfl), ?_⟩
        refine ⟨?_, .inr ⟨b', c, by simp [he], rfl, by omega, by omega, rfl⟩⟩
        · exact (Ext.refl _ _ |>.keys rfl : Ext w [(b, Obj.cells #[vs s, vi a, vi e] 108 (0, 0))] [(b, Obj.cells #[vs s, vi a2, vi e2] 108 (0, 0))]).app (by omega)
      · ((try with_reducible refine Cw.go [] ?_); (try simp (disch := (first | assumption | omega | (simp only [lenS, lenT, UInt64.reduceToNat]; try omega))) only [↓Sx.S0, Sx.S1, Tryz.fx, uWH_1, Nat.reduceAdd, Nat.reducePow, Int.reducePow, Nat.reduceBEq, ↓reduceIte, UInt8.reduceToNat, UInt16.reduceToNat, UInt32.reduceToNat, UInt64.reduceToNat, Int.reduceToNat]))
        refine ⟨_, (by simp (disch := (first | assumption | omega | (simp only [lenS, lenT, UInt64.reduceToNat]; try omega))) only [↓Sx.S0, Sx.S1, Tryz.fx, uWH_1, Nat.reduceAdd, Nat.reducePow, Int.reducePow, Nat.reduceBEq, ↓reduceIte, UInt8.reduceToNat, UInt16.reduceToNat, UInt32.reduceToNat, UInt64.reduceToNat, Int.reduceToNat]; rfl), ?_⟩
        exact ⟨Ext.refl _ _ |>.keys rfl, .inl ⟨by simp [he], rfl, rfl⟩⟩
end Go.Proofs
end
namespace Go.Sx
open Go
theorem ext_mid (A B C : List Value) {o n : Nat} (hA : A.length = o) (hB : B.length = n) : (A ++ (B ++ C)).toArray.extract o (o + n) = B.toArray := by
  subst hA; subst hB
  rw [List.extract_toArray, List.extract_eq_take_drop, List.drop_left, Nat.add_sub_cancel_left, List.take_left]
theorem load_agg (A B C : List Value) {o n : Nat} (E : TypeId) (fz : Nat × Nat) (hA : A.length = o) (hB : B.length = n) : loadV (some (true, n)) (some (.cells (A ++ (B ++ C)).toArray E fz)) o = some (.agg B.toArray) := by
  have hs : o + n ≤ (A ++ (B ++ C)).toArray.size := by
    simp only [List.size_toArray, List.length_append]; omega
  unfold loadV
  simp only [hs, ↓reduceIte]
  rw [ext_mid A B C hA hB]
theorem store_mid (A B B' C : List Value) {o n : Nat} (a : Bool) (x : Value) (E : TypeId) (hA : A.length = o) (hB : B.length = n) (hx : x.cells = B'.toArray) (hB' : B'.length = n) (ho : B'.all Value.oneCell' = true) :
    storeV (some (a, n)) (some (.cells (A ++ (B ++ C)).toArray E (0, 0))) o x = some (.cells (A ++ (B' ++ C)).toArray E (0, 0)) := by
  subst hA
  have hp := putC_eq B' A B C (by rw [hB, hB'])
  rw [List.append_assoc, List.append_assoc] at hp
  unfold storeV
  simp only [hx]
  rw [if_pos ⟨by rw [List.size_toArray, hB'], by simp only [List.size_toArray, List.length_append]; omega, .inl (Nat.le_refl 0), ho⟩, hp]
theorem all_v8 (l : List UInt8) : (l.map v8).all Value.oneCell' = true := by
  rw [List.all_map]
  exact List.all_eq_true.2 fun x _ => rfl
/-- A part of an element of some cells. -/
theorem RowS.part {α : Type} {m : Nat} {enc : α → List Value} {z : α} {w : World} {v : Value} {l : List α} {b off : Nat} {arr : Array Value} {E : TypeId} {fz : Nat × Nat} (h : RowS m enc z w v l b off arr E fz) (hm : ∀ x, (enc x).length = m) {k o n : Nat} (hk : k < l.length) (ho : o + n ≤ m) (hn : 0 < n) :
    loadV (some (true, n)) (some (.cells arr E fz)) (off + k * m + o) = some (.agg ((enc (l.getD k z)).toArray.extract o (o + n))) := by
  have hg : ∀ i, i < n → arr[off + k * m + (o + i)]? = (enc (l.getD k z))[o + i]? := fun i hi => h.get k hk (o + i) (by omega)
  have hlen := hm (l.getD k z)
  have hsz : off + k * m + o + n ≤ arr.size := by
    have h1 := hg (n - 1) (by omega)
    rw [List.getElem?_eq_getElem (by omega)] at h1
    have := (Array.getElem?_eq_some_iff.1 h1).1
    omega
  unfold loadV
  simp only [hsz, ↓reduceIte]
  congr 2
  apply Array.ext_getElem?
  intro i
  by_cases hi : i < n
  · rw [Array.getElem?_extract, Array.getElem?_extract, if_pos (by omega), if_pos (by rw [List.size_toArray]; omega)]
    have hh := hg i hi
    rw [show off + k * m + (o + i) = off + k * m + o + i by omega] at hh
    rw [hh]
    exact (List.getElem?_toArray ..).symm
  · rw [Array.getElem?_eq_none (by rw [Array.size_extract]; omega), Array.getElem?_eq_none (by rw [Array.size_extract]; omega)]
end Go.Sx
namespace Go.Sx
open Go
theorem Cw.forget {P : Program} {w0 : World} {c : Code} {f : Fr} {L : Heap} {K : Kont} (M : Heap) (hM : ∀ p, p ∈ M → p ∈ L) (hn : (keys M).Nodup) (hnew : ∀ p, p ∈ L → p.1 ∉ keys M → w0.heap.size ≤ p.1)
    (h : Cw P w0 c f M K) : Cw P w0 c f L K := fun w hw => h w (hw.drop hM hn fun p hp hlt hk => by have := hnew p hp hk; omega)
end Go.Sx
namespace Go.Sx
open Go
/-- A slice of elements. -/
def SlV {α : Type} (m : Nat) (enc : α → List Value) (z : α) (w : World) (v : Value) (l : List α) : Prop :=
  ∃ b off c arr E fz, RowS m enc z w v l b off arr E fz ∧ l.length ≤ c ∧ ((v = .slice none 0 0 ∧ l = [] ∧ c = 0) ∨ (v = vsl b off l.length c ∧ w.heap[b]? = some (.cells arr E fz) ∧ off + l.length * m ≤ arr.size))
section
variable {α : Type} {m : Nat} {enc : α → List Value} {z : α} {w : World} {v : Value} {l : List α}
theorem RowS.sl' {b off n c : Nat} {arr : Array Value} {E : TypeId} {fz : Nat × Nat} (hn : n = l.length)
    (has : 0 < l.length → w.heap[b]? = some (.cells arr E fz)) (get : ∀ k, k < l.length → ∀ j, j < m → arr[off + k * m + j]? = (enc (l.getD k z))[j]?) : RowS m enc z w (vsl b off n c) l b off arr E fz := by
  subst hn
  exact ⟨fun x => rfl, fun a k hk => indexAddr_sl _ _ _ _ _ _ ⟨by omega, by omega⟩, has, get⟩
theorem SlV.nil (w : World) : SlV m enc z w (.slice none 0 0) [] := ⟨0, 0, 0, #[], 0, (0, 0), RowS.nil w 0 0 rfl, Nat.le_refl _, .inl ⟨rfl, rfl, rfl⟩⟩
theorem SlV.row (h : SlV m enc z w v l) : ∃ b off arr E fz, RowS m enc z w v l b off arr E fz := by
  obtain ⟨b, off, c, arr, E, fz, hr, -⟩ := h; exact ⟨b, off, arr, E, fz, hr⟩
theorem SlV.sl {b off c : Nat} {arr : Array Value} {E : TypeId} {fz : Nat × Nat} (has : w.heap[b]? = some (.cells arr E fz)) (get : ∀ k, k < l.length → ∀ j, j < m → arr[off + k * m + j]? = (enc (l.getD k z))[j]?) (hc : l.length ≤ c) (hs : off + l.length * m ≤ arr.size) : SlV m enc z w (vsl b off l.length c) l :=
  ⟨b, off, c, arr, E, fz, RowS.sl rfl has get, hc, .inr ⟨rfl, has, hs⟩⟩
theorem RowS.old {w' : World} {b off : Nat} {arr : Array Value} {E : TypeId} {fz : Nat × Nat} {L : Heap} (h : RowS m enc z w v l b off arr E fz) (hw : Hp w L w') (hb : 0 < l.length → b ∉ keys L) : RowS m enc z w' v l b off arr E fz :=
  ⟨h.len, h.idx, fun hl => by have hh := h.has hl; rw [hw.old b (Array.getElem?_eq_some_iff.1 hh).1 (hb hl)]; exact hh, h.get⟩
theorem RowS.lt {b off : Nat} {arr : Array Value} {E : TypeId} {fz : Nat × Nat} (h : RowS m enc z w v l b off arr E fz) (hl : 0 < l.length) : b < w.heap.size := (Array.getElem?_eq_some_iff.1 (h.has hl)).1
/-- Where no old block is turned, it is as it was. -/
theorem SlV.old {w' : World} {L : Heap} (h : SlV m enc z w v l) (hw : Hp w L w') (hb : ∀ b, slB v = some b → b < w.heap.size → b ∉ keys L) : SlV m enc z w' v l := by
  obtain ⟨b, off, c, arr, E, fz, hr, hc, hv⟩ := h
  rcases hv with ⟨rfl, rfl, rfl⟩ | ⟨rfl, hhas, hsz⟩
  · exact SlV.nil w'
  · have hnb := hb b rfl (Array.getElem?_eq_some_iff.1 hhas).1
    refine ⟨b, off, c, arr, E, fz, hr.old hw (fun _ => hnb), hc, .inr ⟨rfl, ?_, hsz⟩⟩
    rw [hw.old b (Array.getElem?_eq_some_iff.1 hhas).1 hnb]; exact hhas
theorem New.not {L : Heap} {n b : Nat} (h : New n L) (hb : b < n) : b ∉ keys L := fun hm => by have := h.le b hm; omega
theorem SlV.oldN {w' : World} {L : Heap} (h : SlV m enc z w v l) (hw : Hp w L w') (hn : New w.heap.size L) : SlV m enc z w' v l := h.old hw fun _ _ hb => hn.not hb
theorem SlV.len (h : SlV m enc z w v l) (x : Bool × Nat) : lenV (.sl x) v = some (vi l.length) := by
  obtain ⟨b, off, arr, E, fz, hr⟩ := h.row
  exact hr.len x
/-- The first ones. -/
theorem SlV.take (h : SlV m enc z w v l) {k : Nat} (hk : k ≤ l.length) (a : Bool) : ∃ v', sliceV (.sl (a, m)) v none (some (some (k : Int))) = some v' ∧ SlV m enc z w v' (l.take k) ∧ (∀ b, slB v' = some b → slB v = some b) := by
  obtain ⟨b, off, c, arr, E, fz, hr, hc, hv⟩ := h
  have hl : (l.take k).length = k := by simp; omega
  rcases hv with ⟨rfl, rfl, rfl⟩ | ⟨rfl, hhas, hsz⟩
  · obtain rfl : k = 0 := by simpa using hk
    refine ⟨.slice none 0 0, rfl, SlV.nil w, fun b hb => hb⟩
  · refine ⟨vsl b off k c, ?_, ?_, fun b hb => hb⟩
    · unfold sliceV vsl
      simp only [bnd_hi _ _ _ (⟨by omega, by omega⟩ : (0 : Int) ≤ (k : Int) ∧ (k : Int) ≤ (c : Int)), Int.toNat_natCast, Nat.zero_mul, Nat.sub_zero, Option.map_some, add_spot, Nat.add_zero]
      split <;> rfl
    · refine ⟨b, off, c, arr, E, fz, RowS.sl' hl.symm (fun h0 => hr.has (by omega)) ?_, by omega, .inr ⟨by rw [hl], hhas, by rw [hl]; have : k * m ≤ l.length * m := Nat.mul_le_mul_right _ hk; omega⟩⟩
      · intro i hi j hj
        rw [hl] at hi
        rw [hr.get i (by omega) j hj]
        congr 2
        rw [List.getD_eq_getElem?_getD, List.getD_eq_getElem?_getD, List.getElem?_take_of_lt hi]
/-- What a growing slice is in a world. -/
theorem Buf.slM {L : Heap} {E : TypeId} {n : Nat} {cs : List Value} (h : Buf L E m v n cs) (hw : ∀ b o, (b, o) ∈ L → w.heap[b]? = some o) (hl : l.length = n) (hcs : cs = (l.map enc).flatten) (hm : ∀ x, (enc x).length = m) : SlV m enc z w v l := by
  rcases h.inv with ⟨rfl, rfl, rfl⟩ | ⟨b, c, rest, rfl, hlk, hlen, hnc, h0, hrest⟩
  · have : l = [] := by simpa using hl
    subst this; exact SlV.nil w
  · subst hl
    refine SlV.sl (hw _ _ (look_mem hlk)) ?_ hnc (by rw [List.size_toArray, List.length_append, hlen]; omega)
    intro k hk j hj
    rw [Nat.zero_add, List.getElem?_toArray, List.getElem?_append_left (by rw [hlen]; have : (k + 1) * m ≤ l.length * m := Nat.mul_le_mul_right _ hk; rw [Nat.add_mul, Nat.one_mul] at this; omega), hcs]
    clear hlen hrest hlk hcs hnc h
    induction l generalizing k with
    | nil => simp at hk
    | cons x r ih =>
      rw [List.map_cons, List.flatten_cons]
      cases k with
      | zero =>
        rw [Nat.zero_mul, Nat.zero_add, List.getElem?_append_left (by rw [hm]; exact hj), List.getD_cons_zero]
      | succ k =>
        rw [List.getElem?_append_right (by rw [hm, Nat.add_mul, Nat.one_mul]; omega), hm, List.getD_cons_succ]
        have := ih (k := k) (by simpa using hk)
        rw [← this]
        congr 1
        rw [Nat.add_mul, Nat.one_mul]; omega
theorem Buf.slV {L : Heap} {E : TypeId} {n : Nat} {cs : List Value} {w0 : World} (h : Buf L E m v n cs) (hw : Hp w0 L w) (hl : l.length = n) (hcs : cs = (l.map enc).flatten) (hm : ∀ x, (enc x).length = m) : SlV m enc z w v l := h.slM hw.has hl hcs hm
end
end Go.Sx
namespace Go.Sx
open Go
section
variable {P : Program} {w0 : World} {f : Fr} {L : Heap} {N : Fr → Heap → Prop} {ops : Array Oper} {rest : List Oper} {md : Md}
  {d : Option Tmp} {ty : TypeId} {ps : String} {af : Array Edge} {g : Option (Nat × Bool)}
/-- What a name has, or else. -/
def getV (k : List UInt8) (z : List UInt8) (m : Vals) : List UInt8 := match m.find? fun p => k == p.1 with | some p => p.2 | none => z
theorem fnd_find (k : List UInt8) : ∀ (m : Vals) (i : Nat), (fnd k m i).map Prod.snd = (m.find? fun p => k == p.1).map Prod.snd
  | [], _ => rfl
  | p :: r, i => by
    unfold fnd
    rw [List.find?_cons]
    cases h : (k == p.1)
    · simp only [Bool.false_eq_true, ↓reduceIte]; exact fnd_find k r (i + 1)
    · rfl
/-- A name's value in a map. -/
theorem Ow.mapGet {t kt vt : TypeId} {x y : Operand} {b : Nat} {o : Obj} {m : Vals} {k z : List UInt8} {md' : Md} (he : md.turn = some md') (hs : skipped ops f ⟨d, .lookup t x y false, ty, ps, af, g⟩ = false) (hu : P.underlying t = some (.map kt vt)) (huk : P.underlying kt = some .string)
    (hz : zeroV P vt = some (.agg (a8 z))) (hx : ev f x = vm b) (hy : ev f y = vs k) (hl : readB w0 L b = some o) (hm : MapR o m)
    (hn : Ow P w0 ops md' rest (putF f d (.agg (a8 (getV k z m)))) L N) :
    Ow P w0 ops md (⟨d, .lookup t x y false, ty, ps, af, g⟩ :: rest) f L N := by
  obtain ⟨es, c, rfl, hes, -⟩ := hm
  refine Ow.step he rfl hs fun w hw => ?_
  have hb := hw.read hl
  have hfk := run_findKey (w := w) huk k es.toList m hes
  refine .inl ⟨.agg (a8 (getV k z m)), w, L, ?_, hw, hn⟩
  have hff := fnd_find k m 0
  have : (Instr.lookup t (vm b) (vs k) false).run P w = .ok (.agg (a8 (getV k z m))) w := by
    cases hf : fnd k m 0 with
    | none =>
      rw [hf] at hfk hff
      have hg : getV k z m = z := by
        unfold getV
        cases h : m.find? fun p => k == p.1 with
        | none => rfl
        | some q => rw [h] at hff; cases hff
      simp only [Instr.lookup, vm, Sem.run_bind, run_underlying hu w, Result.andThen_ok, run_getMap hb, Sem.run_pure, run_checkKey huk, hfk, Option.map_none, run_zeroV hz w, hg, Bool.false_eq_true, ↓reduceIte]
    | some p =>
      obtain ⟨j, a⟩ := p
      rw [hf] at hfk hff
      have hg : getV k z m = a := by
        unfold getV
        cases h : m.find? fun p => k == p.1 with
        | none => rw [h] at hff; cases hff
        | some q => rw [h] at hff; simp only [Option.map_some, Option.some.injEq] at hff; exact hff.symm
      simp only [Instr.lookup, vm, Sem.run_bind, run_underlying hu w, Result.andThen_ok, run_getMap hb, Sem.run_pure, run_checkKey huk, hfk, Option.map_some, hg, Bool.false_eq_true, ↓reduceIte]
  simp only [execOp, Sem.run_bind, hx, hy]
  rw [this]; rfl
end
end Go.Sx
namespace Go.Sx
open Go
theorem New.mono {n m : Nat} (h : n ≤ m) : ∀ {L : Heap}, New m L → New n L
  | [], _ => trivial
  | (_, _) :: _, hL => ⟨Nat.le_trans h hL.1, New.mono h hL.2⟩
theorem New.app {n : Nat} {M : Heap} : ∀ {L : Heap}, New n L → New n M → New n (L ++ M)
  | [], _, hM => hM
  | (_, _) :: _, hL, hM => ⟨hL.1, New.app hL.2 hM⟩
section
variable {P : Program} {w0 : World} {f : Fr} {L : Heap} {N : Fr → Heap → Prop} {ops : Array Oper} {rest : List Oper} {md : Md}
  {d : Option Tmp} {ty : TypeId} {ps : String} {af : Array Edge} {g : Option (Nat × Bool)}
theorem Ow.callE {l : List Operand} {ts : Array TypeId} {k : FuncId} {b : Nat} {S : Value → Obj → Prop} {md' : Md} (he : md.turn = some md')
    (hs : skipped ops f ⟨d, .call ⟨.value (.func k), l.toArray, ts⟩, ty, ps, af, g⟩ = false)
    (hk : ∀ a w, (callFunc k a).run P w = .ok (.enter k a) w) (hb : b ∈ keys L)
    (hc : ∀ w, Hp w0 L w → Rets P k (l.map (ev f)).toArray w (fun v D => ∃ o, D = [(b, o)] ∧ S v o))
    (hn : ∀ v o, S v o → Ow P w0 ops md' rest (putF f d v) (setB L b o) N) :
    Ow P w0 ops md (⟨d, .call ⟨.value (.func k), l.toArray, ts⟩, ty, ps, af, g⟩ :: rest) f L N := by
  refine Ow.callF he hs hk (S := fun _ v D => ∃ o, D = [(b, o)] ∧ S v o) hc ?_
  rintro B v D - - ⟨o, rfl, hS⟩
  exact ⟨_, Mrg.set hb, hn v o hS⟩
/-- A callee that makes new blocks, and turns none. -/
theorem Ow.callN {l : List Operand} {ts : Array TypeId} {k : FuncId} {S : Nat → Value → Heap → Prop} {md' : Md} (he : md.turn = some md')
    (hs : skipped ops f ⟨d, .call ⟨.value (.func k), l.toArray, ts⟩, ty, ps, af, g⟩ = false)
    (hk : ∀ a w, (callFunc k a).run P w = .ok (.enter k a) w)
    (hc : ∀ w, Hp w0 L w → Rets P k (l.map (ev f)).toArray w (fun v D => S w.heap.size v D))
    (hnew : ∀ B v D, S B v D → New B D)
    (hn : ∀ B v D, Above L B → w0.heap.size ≤ B → S B v D → Ow P w0 ops md' rest (putF f d v) (L ++ D) N) :
    Ow P w0 ops md (⟨d, .call ⟨.value (.func k), l.toArray, ts⟩, ty, ps, af, g⟩ :: rest) f L N := by
  refine Ow.callF he hs hk (S := S) hc ?_
  intro B v D ha hB hS
  exact ⟨_, Mrg.fresh (hnew B v D hS).le, hn B v D ha hB hS⟩
theorem Cw.forgetN {c : Code} {K : Kont} (M : Heap) (hnew : New w0.heap.size L) (hM : ∀ p, p ∈ M → p ∈ L) (hn : (keys M).Nodup) (h : Cw P w0 c f M K) : Cw P w0 c f L K :=
  Cw.forget M hM hn (fun p hp _ => hnew.le _ (List.mem_map.2 ⟨p, hp, rfl⟩)) h
end
end Go.Sx
section
namespace Go.Sx
open Go
set_option linter.unusedSimpArgs false
section
variable {P : Program} {w0 : World} {L : Heap}
theorem run_appendEm {w : World} {ts tx ty e : TypeId} {m : Bool × Nat} {z x : Value} {b k : Nat} {new : List Value} (hw : Hp w0 L w)
    (hu : P.underlying ts = some (.slice e)) (hm : aggT P e = some m) (hi : bytesOk P e = true) (hz : zeroV P e = some z) (hzs : z.cells.size = m.2) {d : TypeDesc} (hux : P.underlying tx = some d) (hnx : ∀ k, d ≠ .int k)
    (hXa : ∀ w, Hp w0 L w → AppX P w m.2 x k new) (hbig : 2 * (0 + k) + 768 ≤ 2 ^ 38) :
    (k = 0 ∧ (Builtin.append_ #[ts, tx] ty #[vsl b 0 0 0, x]).run P w = .ok (vsl b 0 0 0) w) ∨
    (0 < k ∧ ∃ v' w' L', (Builtin.append_ #[ts, tx] ty #[vsl b 0 0 0, x]).run P w = .ok v' w' ∧ Hp w0 L' w' ∧ Buf L' e m.2 v' (0 + k) ([] ++ new) ∧ Grew w0 (.slice none 0 0) L L' ∧ ∃ c, slB v' = some c ∧ Above L c) := by
  obtain ⟨i, hi, hb0, hbig⟩ := bytesOk_spec hi hbig
  have hti : ∀ w, (typeInfo e).run P w = .ok i w := by
    intro w
    simp only [typeInfo, program, Sem.run_bind]
    show Result.andThen (Result.ok P w) _ = _
    simp only [Result.andThen_ok, hi]
    rfl
  have hmd : (match d with | .int _ => true | _ => false) = false := by
    cases d <;> first | rfl | exact absurd rfl (hnx _)
  have e1 : ∀ {α β : Type} (a : α) (f : α → World → Result β), (Sem.run P (pure a) w).andThen f = f a w := fun _ _ => rfl
  have hX := hXa w hw
  have hxl := hX.len
  have hxc := hX.cells
  have hzv := run_zeroV (P := P) hz
  have room : ∀ (b : Nat) (w : World), (askRoom b).run P w = .ok () w := by
    intro b w
    unfold askRoom
    split <;> rfl
  have zc : ∀ j, (Builtin.zeroCells z.cells j).toList.length = j * m.2 := by
    intro j; simp [Builtin.zeroCells, hzs]
  have hbg : ∀ c, c < 0 + k → ¬ (Builtin.nextslicecap (0 + k) c * i.bytes > 2 ^ 48) := by
    intro c hc
    have := nextslicecap_le hc
    have h2 := Nat.mul_le_mul_right i.bytes this
    omega
  by_cases hk : k = 0
  · subst hk
    have hnew : new = [] := List.eq_nil_of_length_eq_zero (by have := hX.size; omega)
    subst hnew
    refine .inl ⟨rfl, ?_⟩
    simp only [Builtin.append_, vsl, List.getElem?_toArray, List.getElem?_cons_zero, List.getElem?_cons_succ, Sem.run_bind, run_underlying hu w, Result.andThen_ok, run_sizeOf hm w, run_underlying hux w, hmd, e1, Bool.false_eq_true, ↓reduceIte, hxl, Bool.not_false, Nat.add_zero, Nat.le_refl, hxc]
    rfl
  · have hpos : ¬ 0 + k ≤ 0 := by omega
    have hbg' := hbg 0 (by omega)
    simp only [Builtin.append_, List.getElem?_toArray, List.getElem?_cons_zero, List.getElem?_cons_succ, Sem.run_bind, run_underlying hu w, Result.andThen_ok, run_sizeOf hm w, run_underlying hux w, hmd, e1, Bool.false_eq_true, ↓reduceIte, hxl, Bool.not_false, hpos, vsl, hti, hb0, or_false, and_false, hbg']
    have hch : (choose (Question.appendCap (0 + k) 0 e)).run P w = .ok ((0 + k) + w.tape w.drawn (.appendCap (0 + k) 0 e) % (2 ^ 63 - (0 + k))) w.drew := rfl
    rw [hch]
    generalize hcc : (0 + k) + w.tape w.drawn (.appendCap (0 + k) 0 e) % (2 ^ 63 - (0 + k)) = c
    have hw1 := hw.drew
    have hX1 := hXa _ hw1
    have hold : (Builtin.firstCells m.2 0 (Value.slice (some ⟨b, 0, none⟩) 0 0)).run P w.drew = .ok #[] w.drew := by
      simp only [Builtin.firstCells, Nat.zero_mul]; rfl
    simp only [Result.andThen_ok, room, hold, hX1.cells, hzv]
    refine .inr ⟨by omega, _, _, L ++ [(w.drew.heap.size, .cells ([] ++ new ++ (Builtin.zeroCells z.cells (c - (0 + k))).toList).toArray e (0, 0))], rfl, ?_, .at_ (b := w.drew.heap.size) (rest := (Builtin.zeroCells z.cells (c - (0 + k))).toList) ?_ ?_ ?_ (by omega) (by omega), ?_, ⟨_, rfl, above_of fun b hb => hw1.lt hb⟩⟩
    · have ea : ([] ++ new ++ (Builtin.zeroCells z.cells (c - (0 + k))).toList).toArray = #[] ++ new.toArray ++ Builtin.zeroCells z.cells (c - (0 + k)) := by apply Array.ext'; simp
      rw [ea]
      exact hw1.alloc _
    · rw [look_app_r (fun hm => Nat.lt_irrefl _ (hw1.lt hm))]
      simp [look]
    · rw [List.nil_append, hX.size, Nat.zero_add]
    · exact zc _
    · refine ⟨fun c hc => by rw [keys_app]; exact List.mem_append_left _ hc, fun c hc => ?_, fun c o hne ho => look_app ho⟩
      rw [keys_app] at hc
      rcases List.mem_append.1 hc with hc | hc
      · exact .inl hc
      · right
        simp only [keys, List.map_cons, List.map_nil, List.mem_singleton] at hc
        subst hc
        exact ⟨above_of fun b hb => hw1.lt hb, hw1.size⟩
end
section
variable {P : Program} {w0 : World} {f : Fr} {L : Heap} {N : Fr → Heap → Prop} {ops : Array Oper} {rest : List Oper} {md : Md}
  {d : Option Tmp} {ty : TypeId} {ps : String} {af : Array Edge} {g : Option (Nat × Bool)}
theorem Ow.appendEm {ts tx e : TypeId} {m : Bool × Nat} {z : Value} {s x : Operand} {b k : Nat} {new : List Value} {dx : TypeDesc} {md' : Md} (hsv : ev f s = vsl b 0 0 0) (he : md.turn = some md')
    (hs : skipped ops f ⟨d, .call ⟨.builtin .append, #[s, x], #[ts, tx]⟩, ty, ps, af, g⟩ = false)
    (hu : P.underlying ts = some (.slice e)) (hm : aggT P e = some m) (hi : bytesOk P e = true) (hz : zeroV P e = some z) (hzs : z.cells.size = m.2) (hux : P.underlying tx = some dx) (hnx : ∀ k, dx ≠ .int k)
    (hX : ∀ w, Hp w0 L w → AppX P w m.2 (ev f x) k new) (hbig : 2 * (0 + k) + 768 ≤ 2 ^ 38)
    (hn0 : k = 0 → Ow P w0 ops md' rest (putF f d (vsl b 0 0 0)) L N)
    (hn : ∀ v' L', 0 < k → Buf L' e m.2 v' (0 + k) ([] ++ new) → Grew w0 (.slice none 0 0) L L' → (∃ c, slB v' = some c ∧ Above L c) → Ow P w0 ops md' rest (putF f d v') L' N) :
    Ow P w0 ops md (⟨d, .call ⟨.builtin .append, #[s, x], #[ts, tx]⟩, ty, ps, af, g⟩ :: rest) f L N := by
  refine Ow.step he rfl hs fun w hw => ?_
  rcases run_appendEm (ty := ty) (b := b) hw hu hm hi hz hzs hux hnx hX hbig with ⟨hk, hr⟩ | ⟨hk, v', w', L', hr, hp, hb, hg, hsl⟩
  · refine .inl ⟨_, w, L, ?_, hw, hn0 hk⟩
    simp only [execOp, resolve, Sem.run_bind, Sem.run_pure, Result.andThen_ok, invoke, builtin, List.map_toArray, List.map_cons, List.map_nil, hsv]
    rw [hr]
    rfl
  · refine .inl ⟨v', w', L', ?_, hp, hn v' L' hk hb hg hsl⟩
    simp only [execOp, resolve, Sem.run_bind, Sem.run_pure, Result.andThen_ok, invoke, builtin, List.map_toArray, List.map_cons, List.map_nil, hsv]
    rw [hr]
    rfl
end
end Go.Sx
end
namespace Go.Sx
open Go
section
variable {P : Program} {w0 : World} {f : Fr} {L : Heap} {N : Fr → Heap → Prop} {K : Kont} {l : List Oper} {listed : List Bool} {n : Nat} {R ts : List Nat} {a d : Nat} {z : Obj}
theorem Md.next_sofnil (R ts : List Nat) : (Md.sof R [] ts).next = .sof R [] ts := (rfl)
theorem upon_unshift {Q : Exit → Act → World → Prop} {o : Oper} {x : Act} {d : Option Tmp} {v : Value} {K : Act → World → Prop} (hd : ∀ t, d = some t → o.dst ≠ some t)
    (hQ : ∀ c a w, Q (.panic c) a w → Q (.panic c) (a.put d v) w) (r : Result Next) (h : o.upon P x (fun a' w' => K (a'.put d v) w') Q r) :
    o.upon P (x.put d v) K Q r := by
  have comm : ∀ u, (x.put o.dst u).put d v = (x.put d v).put o.dst u := fun u => (Act.put_comm x v u hd).symm
  match r, h with
  | .ok (.value u) _, h => show K _ _; rw [← comm]; exact h
  | .ok .skip _, h => show K _ _; rw [← comm]; exact h
  | .ok (.defer e) w', h =>
    have h' : K ((({ x with defers := e :: x.defers } : Act).put o.dst undef).put d v) w' := h
    rw [← Act.put_comm _ v undef hd, ← Act.put_defers] at h'
    exact h'
  | .ok (.enter f args) _, h =>
    refine Calls.mono h fun e w'' he => ?_
    match e, he with
    | .returned u, he => show K _ _; rw [← comm]; exact he
    | .panicked c, he => exact hQ _ _ _ he
    | .outgrown, he => exact he
  | .ok (.row row args) _, h => exact Rows.mono h fun u w'' he => by rw [← comm]; exact he
  | .halt (.panic u) _, h => exact hQ _ _ _ h
theorem wpOp_unshift {ops : Array Oper} {Q : Exit → Act → World → Prop} {j : Nat} {oj : Oper} {d : Option Tmp} {v : Value} (hj : ops[j]? = some oj) (h1 : ∀ t, d = some t → t ∉ oj.looksAt ops) (h2 : ∀ t, d = some t → oj.dst ≠ some t) (hsj : ∀ cs b, oj.op ≠ .select cs b)
    (hQ : ∀ c a w, Q (.panic c) a w → Q (.panic c) (a.put d v) w) {K : Act → World → Prop} {x : Act} {w : World}
    (h : wpOp P ops Q j (fun a' w' => K (a'.put d v) w') x w) : wpOp P ops Q j K (x.put d v) w := by
  unfold wpOp at h ⊢
  simp only [hj] at h ⊢
  rw [wanted_put oj x d v h1]
  cases hw : Region.wanted oj (yielded ops x.tmps) with
  | true =>
    rw [hw] at h
    simp only [if_true] at h ⊢
    rcases h with h | ⟨hasks, hl⟩
    · left
      unfold Oper.wp at h ⊢
      rw [execOp_put oj hsj x d v h1]
      exact upon_unshift h2 hQ _ h
    · right
      exact ⟨by unfold Oper.asks at *; rwa [execOp_put oj hsj x d v h1], hl⟩
  | false =>
    rw [hw] at h
    simp only [Bool.false_eq_true, if_false] at h ⊢
    rw [Act.put_comm x v undef h2]
    exact h
/-- What is asked of the operation that makes the variable. -/
structure Drift (P : Program) (l : List Oper) (ts : List Nat) (a d : Nat) (z : Obj) : Prop where
  here : ∃ oa t zv, l.toArray[a]? = some oa ∧ oa.op = .alloc t ∧ oa.dst = some d ∧ oa.guard = none ∧ zeroV P t = some zv ∧ z = .cells zv.cells t
  ts : a ∉ ts
  sel : Region.noSelect l.toArray = true
def driftB (l : List Oper) (ts : List Nat) (a d : Nat) : Bool :=
  (match nthO l a with
  | some oa => (match oa.op with | .alloc _ => true | _ => false) && oa.dst == some d && oa.guard == none
  | none => false) && !ts.contains a && Region.noSelect l.toArray
def OwD (P : Program) (w0 : World) (l : List Oper) (R ts : List Nat) (a d : Nat) (z : Obj) (n : Nat) (listed : List Bool) (f : Fr) (L : Heap) (N : Fr → Heap → Prop) : Prop :=
  (∀ w, Hp w0 L w → wpAnyG P l.toArray (postN w0 N) ts (SR w0 R L) (n + 1) listed.toArray (act f) w) ∧
  (∀ b w, w0.heap.size ≤ b → b ∉ keys L → Hp w0 (L ++ [(b, z)]) w → wpAnyG P l.toArray (postN w0 N) ts (SR w0 R L) n (listed.set a true).toArray (act (setF f d (vp b 0))) w)
theorem SR.ofE {w : World} {b : Nat} (hb : w0.heap.size ≤ b) (h : Hp w0 (L ++ [(b, z)]) w) : SR w0 R L w := by
  intro r _ o ho
  unfold readB at ho
  split at ho
  · rename_i o' hl
    cases ho
    exact h.has _ _ (List.mem_append_left _ (look_mem hl))
  · rename_i hl
    have hlt := (Array.getElem?_eq_some_iff.1 ho).1
    rw [h.old r hlt ?_]; exact ho
    intro hm
    simp only [keys, List.map_append, List.map_cons, List.map_nil, List.mem_append, List.mem_singleton] at hm
    rcases hm with hm | hm
    · exact look_none hl hm
    · omega
theorem postN_put {c : List PanicEntry} {x x' : Act} {w : World} (h : postN w0 N (.panic c) x w) : postN w0 N (.panic c) x' w := postN_panic h
theorem Hp.perm {w : World} {M : Heap} (h : Hp w0 L w) (hp : M.Perm L) : Hp w0 M w :=
  h.same (fun _ => hp.mem_iff) ((List.Perm.nodup_iff (hp.map Prod.fst)).2 h.nodup)
/-- Values that come at once. -/
def chkD (P : Program) (l : List Oper) (ts : List Nat) (a : Nat) : List Nat → List Bool → Option (List Bool)
  | [], listed => some listed
  | k :: is, listed =>
    match nthO l k, nthO l a with
    | some o, some oa => if k != a && !ts.contains k && (ts.all fun t => !listed.toArray.getD t true && !(listed.set a true).toArray.getD t true) && (Region.ready .any l.toArray listed.toArray).contains k && Region.free .any l.toArray listed.toArray k &&
        (Region.ready .any l.toArray (listed.set a true).toArray).contains k && Region.free .any l.toArray (listed.set a true).toArray k && o.apart l.toArray oa &&
        (pureK P o.op || (readK o.op && waitsB l.toArray ts listed.toArray k && waitsB l.toArray ts (listed.set a true).toArray k)) then chkD P l ts a is (listed.set k true) else none
    | _, _ => none
theorem OwD.step {k : Nat} {o : Oper} {v : Value} (hD : Drift P l ts a d z) (hk : nthO l k = some o) {rest : List Bool} (hc : chkD P l ts a [k] listed = some rest)
    (hY : YieldsC P l.toArray (SR w0 R L) (pureK P o.op = true) o v (act f)) (h : OwD P w0 l R ts a d z n rest (putF f o.dst v) L N) : OwD P w0 l R ts a d z (n + 1) listed f L N := by
  obtain ⟨⟨oa, t, zv, ha, hop, hdst, hg, hz, rfl⟩, hats, hns⟩ := hD
  have hoi : l.toArray[k]? = some o := by rw [nthO_eq] at hk; simpa using hk
  have ha' : nthO l a = some oa := by rw [nthO_eq]; simpa using ha
  unfold chkD at hc
  rw [hk, ha'] at hc
  simp only at hc
  split at hc
  · rename_i hcc
    simp only [chkD, Option.some.injEq] at hc
    subst hc
    simp only [Bool.and_eq_true, Bool.or_eq_true, Bool.not_eq_true', List.all_eq_true, List.contains_eq_mem, decide_eq_true_eq, decide_eq_false_iff_not, bne_iff_ne, ne_eq] at hcc
    obtain ⟨⟨⟨⟨⟨⟨⟨⟨c1, c2⟩, c3⟩, c4⟩, c5⟩, c6⟩, c7⟩, c8⟩, c9⟩ := hcc
    obtain ⟨q1, q2, q3⟩ := Oper.apart_spec c8
    have hsel := Region.noSelect_spec hns
    have hset : (listed.set k true).set a true = (listed.set a true).set k true := List.set_comm _ _ c1
    refine ⟨fun w hw => ?_, fun b w hb hbL hw => ?_⟩
    · refine G_first hoi c2 hsel (fun c a w h => postN_panic h) _ _ _ _ (first_of (P := P) hoi c4 c5 (c9.imp id fun h => ⟨h.1.1, h.1.2, fun t ht => (c3 t ht).1⟩)) (.inr fun t ht => (c3 t ht).1) hY ?_
      rw [act_put, set_toArray]
      exact h.1 w hw
    · have hY2 : YieldsC P l.toArray (SR w0 R L) (pureK P o.op = true) o v (act (setF f d (vp b 0))) := by
        refine hY.left (hsel k o · · hoi) (oj := oa) q3 ⟨vp b 0, [], ?_⟩
        rw [hdst]
        exact (act_put f (some d) (vp b 0)).symm
      refine G_first hoi c2 hsel (fun c a w h => postN_panic h) _ _ _ _ (first_of (P := P) hoi c6 c7 (c9.imp id fun h => ⟨h.1.1, h.2, fun t ht => (c3 t ht).2⟩)) (.inr fun t ht => (c3 t ht).2) hY2 ?_
      have e : (act (setF f d (vp b 0))).put o.dst v = act (setF (putF f o.dst v) d (vp b 0)) := by
        have e1 : act (setF f d (vp b 0)) = (act f).put (some d) (vp b 0) := (act_put f (some d) (vp b 0)).symm
        rw [e1, Act.put_comm (act f) (x := some d) (y := o.dst) (vp b 0) v (fun t ht hod => by cases ht; exact q2 _ hod hdst), act_put, act_put]; rfl
      rw [e, set_toArray, ← hset]
      exact h.2 b w hb hbL hw
  · cases hc
theorem chkD_cons {k : Nat} {is : List Nat} {listed listed' : List Bool} (h : chkD P l ts a (k :: is) listed = some listed') : chkD P l ts a [k] listed = some (listed.set k true) ∧ chkD P l ts a is (listed.set k true) = some listed' := by
  rw [chkD] at h
  cases ho : nthO l k with
  | none => rw [ho] at h; cases h
  | some o =>
    cases hoa : nthO l a with
    | none => rw [ho, hoa] at h; cases h
    | some oa =>
      rw [ho, hoa] at h
      simp only at h
      split at h
      · rename_i hcc
        refine ⟨?_, h⟩
        rw [chkD, ho, hoa]
        simp only
        rw [if_pos hcc]; rfl
      · cases h
theorem OwD.runs {k : Md → List Oper → Fr → Heap → Prop} (hD : Drift P l ts a d z) : ∀ (is : List Nat) {listed listed' : List Bool} {f : Fr} {L : Heap}, chkD P l ts a is listed = some listed' →
    (∀ md r f' L', k md r f' L' → r = [] ∧ OwD P w0 l R ts a d z n listed' f' L' N) → vcL P w0 l.toArray false (.sof R [] []) (pickL l is) f L k → OwD P w0 l R ts a d z (is.length + n) listed f L N
  | [], listed, listed', f, L, hc, hk, h => by
    cases hc
    rw [List.length_nil, Nat.zero_add]
    exact (hk _ _ _ _ h).2
  | i :: is, listed, listed', f, L, hc, hk, h => by
    obtain ⟨hc1, hc2⟩ := chkD_cons hc
    rw [pickL_cons] at h
    cases ho : nthO l i with
    | none => unfold chkD at hc1; rw [ho] at hc1; cases hc1
    | some o =>
      rw [ho, consO_some] at h
      unfold vcL at h
      rw [List.length_cons, show is.length + 1 + n = (is.length + n) + 1 by omega]
      cases hs : skipped l.toArray f o with
      | true =>
        rw [hs] at h
        have hw0 : Region.wanted o (yielded l.toArray (act f).tmps) = false := by rw [wanted_eq, hs]; rfl
        exact OwD.step hD ho hc1 (v := undef) (.inr ⟨hw0, rfl⟩) (OwD.runs hD is hc2 hk h)
      | false =>
        rw [hs] at h
        have hw0 : Region.wanted o (yielded l.toArray (act f).tmps) = true := by rw [wanted_eq, hs]; rfl
        simp only [ib, vcB] at h
        split at h
        · cases hrd : rdOk (.sof R [] []) f o.op with
          | false => rw [hrd] at h; exact absurd (hk _ _ _ _ h).1 (by simp)
          | true =>
            rw [hrd] at h
            simp only at h
            cases hv : evalV P w0 L f o.op with
            | none => rw [hv] at h; exact absurd (hk _ _ _ _ h).1 (by simp)
            | some v =>
              rw [hv] at h
              refine OwD.step hD ho hc1 (v := v) (.inl ⟨hw0, fun w hw => ?_⟩) (OwD.runs hD is hc2 hk h)
              rw [act_eval']
              rcases hw with hp | hw
              · exact run_evalV (Hp.refl w) (evalV_pure hp hv w)
              · exact run_evalV (Hp.refl w) (evalV_reads hrd hv hw)
        · exact absurd (hk _ _ _ _ h).1 (by simp)
        · exact absurd (hk _ _ _ _ h).1 (by simp)
theorem OwD.run (is : List Nat) (listed' : List Bool) (n : Nat) {m : Nat} (hm : m = is.length + n) (hD : Drift P l ts a d z) (hc : chkD P l ts a is listed = some listed')
    (h : ∀ k : Md → List Oper → Fr → Heap → Prop, (∀ md f L, OwD P w0 l R ts a d z n listed' f L N → k md [] f L) → nl (pickL l is) fun l' => vcL P w0 l.toArray false (.sof R [] []) l' f L k) : OwD P w0 l R ts a d z m listed f L N := by
  subst hm
  refine OwD.runs (k := fun _ r f' L' => r = [] ∧ OwD P w0 l R ts a d z n listed' f' L' N) hD is hc (fun _ _ _ _ h => h) ?_
  exact h _ fun _ _ _ h => ⟨rfl, h⟩
theorem run_allocD {t : TypeId} {zv : Value} {oa : Oper} {Q : Exit → Act → World → Prop} {X : Act → World → Prop} {w : World} (ha : l.toArray[a]? = some oa) (hop : oa.op = .alloc t) (hdst : oa.dst = some d) (hg : oa.guard = none) (hz : zeroV P t = some zv)
    (h : X (act (setF f d (vp w.heap.size 0))) (w.alloc (.cells zv.cells t))) : wpOp P l.toArray Q a X (act f) w := by
  obtain ⟨dst, op, ty, pos, after, guard⟩ := oa
  simp only at hop hdst hg
  subst hop; subst hdst; subst hg
  unfold wpOp
  simp only [ha]
  have hw : Region.wanted ⟨some d, .alloc t, ty, pos, after, none⟩ (yielded l.toArray (act f).tmps) = true := by rw [wanted_eq]; rfl
  rw [hw]
  simp only [↓reduceIte]
  left
  unfold Oper.wp
  have hr : (execOp (act f).eval ⟨some d, .alloc t, ty, pos, after, none⟩).run P w = .ok (.value (vp w.heap.size 0)) (w.alloc (.cells zv.cells t)) := by
    simp only [execOp, Instr.alloc, Sem.run_bind, run_zeroV hz w, Result.andThen_ok]
    rfl
  rw [hr]
  show X ((act f).put (some d) (vp w.heap.size 0)) _
  rw [act_put]
  exact h
theorem SR_congr {L' : Heap} (hS : ∀ b, b ∈ R → readB w0 L' b = readB w0 L b) : SR w0 R L = SR w0 R L' := by
  funext v
  unfold SR
  apply propext
  constructor
  · intro hh b hb o ho; exact hh b hb o (by rw [← hS b hb]; exact ho)
  · intro hh b hb o ho; exact hh b hb o (by rw [hS b hb]; exact ho)
/-- One of some operations is next, but for the new variable. -/
def softsD (l : List Oper) (ts : List Nat) (a : Nat) (ks : List Nat) (listed : List Bool) : Bool :=
  ((Region.ready .any l.toArray listed.toArray).all fun i => i == a || ks.contains i) && (Region.ready .any l.toArray listed.toArray != []) && ((Region.ready .any l.toArray (listed.set a true).toArray).all fun i => ks.contains i) && (Region.ready .any l.toArray (listed.set a true).toArray != []) && ks.all fun k =>
    match nthO l k, nthO l a with
    | some o, some oa => k != a && !ts.contains k && o.apart l.toArray oa
    | _, _ => false
theorem OwD.softs (ks : List Nat) (hD : Drift P l ts a d z) (hs : softsD l ts a ks listed = true)
    (h : ∀ k, k ∈ ks → ∀ o, nthO l k = some o → ∀ E, (E = [] ∨ ∃ b, E = [(b, z)] ∧ w0.heap.size ≤ b ∧ b ∉ keys L) → Ow P w0 l.toArray .seq [o] f (L ++ E) (fun f' L'' => ∃ L', (L' ++ E).Perm L'' ∧ (∀ r, r ∈ R → readB w0 L' r = readB w0 L r) ∧ OwD P w0 l R ts a d z n (listed.set k true) f' L' N)) :
    OwD P w0 l R ts a d z (n + 1) listed f L N := by
  obtain ⟨⟨oa, t, zv, ha, hop, hdst, hg, hz, rfl⟩, hats, hns⟩ := hD
  have ha' : nthO l a = some oa := by rw [nthO_eq]; simpa using ha
  unfold softsD at hs
  simp only [Bool.and_eq_true, List.all_eq_true, Bool.or_eq_true, beq_iff_eq, bne_iff_ne, ne_eq, List.contains_eq_mem, decide_eq_true_eq] at hs
  obtain ⟨⟨⟨⟨c3, c4⟩, c5⟩, c5'⟩, c6⟩ := hs
  have hsel := Region.noSelect_spec hns
  have hkk : ∀ k, k ∈ ks → ∃ o, nthO l k = some o ∧ k ≠ a ∧ k ∉ ts ∧ o.apart l.toArray oa = true := by
    intro k hk
    have := c6 k hk
    rw [ha'] at this
    cases ho : nthO l k with
    | none => rw [ho] at this; cases this
    | some o =>
      rw [ho] at this
      simp only [Bool.and_eq_true, Bool.not_eq_true', bne_iff_ne, ne_eq, decide_eq_false_iff_not] at this
      exact ⟨o, rfl, this.1.1, this.1.2, this.2⟩
  have t2 : ∀ b w, w0.heap.size ≤ b → b ∉ keys L → Hp w0 (L ++ [(b, .cells zv.cells t)]) w → wpAnyG P l.toArray (postN w0 N) ts (SR w0 R L) (n + 1) (listed.set a true).toArray (act (setF f d (vp b 0))) w := by
    intro b w hb hbL hw
    refine ⟨fun _ => SR.ofE hb hw, (fun h => absurd h c5'), ?_⟩
    intro k hi
    have hkm := c5 k hi
    obtain ⟨o, hk, c1, c2, c7⟩ := hkk k hkm
    have hoi : l.toArray[k]? = some o := by rw [nthO_eq] at hk; simpa using hk
    obtain ⟨q1, q2, q3⟩ := Oper.apart_spec c7
    have hset : (listed.set k true).set a true = (listed.set a true).set k true := List.set_comm _ _ c1
    have e1 : act (setF f d (vp b 0)) = (act f).put (some d) (vp b 0) := (act_put f (some d) (vp b 0)).symm
    rw [e1]
    refine wpOp_unshift hoi (fun t ht => by cases ht; exact q3 d hdst) (fun t ht => by cases ht; exact fun hod => q2 d hod hdst) (hsel _ o · · hoi) (fun c a w h => postN_put h) ?_
    refine wpOp_of hoi (X := fun a' w' => wpAnyG P l.toArray (postN w0 N) ts (SR w0 R L) n ((listed.set a true).toArray.setIfInBounds k true) (a'.put (some d) (vp b 0)) w') ?_ hw
    intro w' hw'
    refine wpList_mono1 ?_ (h k hkm o hk [(b, .cells zv.cells t)] (.inr ⟨b, rfl, hb, hbL⟩) w' hw')
    rintro f' L'' ⟨L', hpm, hR, hO⟩ w'' hw''
    have hw3 := hw''.perm hpm
    rw [act_put, set_toArray, ← hset, SR_congr hR]
    refine hO.2 b w'' hb (fun hm => ?_) hw3
    have hnd := hw3.nodup
    rw [keys_app, List.nodup_append] at hnd
    exact hnd.2.2 b hm b (by simp [keys]) rfl
  refine ⟨fun w hw => ⟨fun _ => SR.of hw, fun h => absurd h c4, fun k hi => ?_⟩, t2⟩
  rcases c3 k hi with rfl | hkm
  · refine run_allocD ha hop hdst hg hz ?_
    rw [set_toArray]
    refine t2 _ _ hw.size (fun hm => Nat.lt_irrefl _ (hw.lt hm)) (hw.alloc _)
  · obtain ⟨o, hk, c1, c2, c7⟩ := hkk k hkm
    have hoi : l.toArray[k]? = some o := by rw [nthO_eq] at hk; simpa using hk
    refine wpOp_of hoi (X := wpAnyG P l.toArray (postN w0 N) ts (SR w0 R L) (n + 1) (listed.toArray.setIfInBounds k true)) ?_ hw
    intro w' hw'
    have h1 := h k hkm o hk [] (.inl rfl)
    rw [List.append_nil] at h1
    refine wpList_mono1 ?_ (h1 w' hw')
    rintro f' L'' ⟨L', hpm, hR, hO⟩ w'' hw''
    rw [List.append_nil] at hpm
    rw [set_toArray, SR_congr hR]
    exact hO.1 w'' (hw''.perm hpm)
theorem OwD.soft (k : Nat) (o : Oper) (hD : Drift P l ts a d z) (hk : nthO l k = some o) (hs : softsD l ts a [k] listed = true)
    (h : ∀ E, (E = [] ∨ ∃ b, E = [(b, z)] ∧ w0.heap.size ≤ b ∧ b ∉ keys L) → Ow P w0 l.toArray .seq [o] f (L ++ E) (fun f' L'' => ∃ L', (L' ++ E).Perm L'' ∧ (∀ r, r ∈ R → readB w0 L' r = readB w0 L r) ∧ OwD P w0 l R ts a d z n (listed.set k true) f' L' N)) :
    OwD P w0 l R ts a d z (n + 1) listed f L N := OwD.softs [k] hD hs fun k' hk' o' ho' => by
  rw [List.mem_singleton] at hk'
  subst hk'
  rw [hk] at ho'
  cases ho'
  exact h
theorem OwD.two (k k2 : Nat) (o o2 : Oper) (hD : Drift P l ts a d z) (hk : nthO l k = some o) (hk2 : nthO l k2 = some o2) (hs : softsD l ts a [k, k2] listed = true)
    (h : ∀ E, (E = [] ∨ ∃ b, E = [(b, z)] ∧ w0.heap.size ≤ b ∧ b ∉ keys L) → Ow P w0 l.toArray .seq [o] f (L ++ E) (fun f' L'' => ∃ L', (L' ++ E).Perm L'' ∧ (∀ r, r ∈ R → readB w0 L' r = readB w0 L r) ∧ OwD P w0 l R ts a d z n (listed.set k true) f' L' N))
    (h2 : ∀ E, (E = [] ∨ ∃ b, E = [(b, z)] ∧ w0.heap.size ≤ b ∧ b ∉ keys L) → Ow P w0 l.toArray .seq [o2] f (L ++ E) (fun f' L'' => ∃ L', (L' ++ E).Perm L'' ∧ (∀ r, r ∈ R → readB w0 L' r = readB w0 L r) ∧ OwD P w0 l R ts a d z n (listed.set k2 true) f' L' N)) :
    OwD P w0 l R ts a d z (n + 1) listed f L N := OwD.softs [k, k2] hD hs fun k' hk' o' ho' => by
  simp only [List.mem_cons, List.not_mem_nil, or_false] at hk'
  rcases hk' with rfl | rfl
  · rw [hk] at ho'; cases ho'; exact h
  · rw [hk2] at ho'; cases ho'; exact h2
/-- The variable's own turn: behind it one order. -/
theorem OwD.real (is : List Nat) {m : Nat} (hm : m = is.length) (hD : Drift P l ts a d z) (hr : Region.ready .any l.toArray listed.toArray = [a]) (hB : orderB P l.toArray ts is (listed.set a true).toArray = true) (hts : (ts.all fun t => !(listed.set a true).toArray.getD t true) = true)
    (hl : is.map (fun i : Nat => l[i]?) = (pickL l is).map some) (hR : ∀ r, r ∈ R → r ∈ keys L ∨ r < w0.heap.size)
    (h : nl (pickL l is) fun l' => ∀ b, w0.heap.size ≤ b → b ∉ keys L → Ow P w0 l.toArray (.sof R is ts) l' (setF f d (vp b 0)) (L ++ [(b, z)]) N) : OwD P w0 l R ts a d z m listed f L N := by
  subst hm
  obtain ⟨⟨oa, t, zv, ha, hop, hdst, hg, hz, rfl⟩, hats, hns⟩ := hD
  simp only [List.all_eq_true, Bool.not_eq_true'] at hts
  revert hl h
  generalize pickL l is = l'
  intro hl h
  have hlen : is.length = l'.length := by have := congrArg List.length hl; simpa using this
  have hF : Fits P l.toArray ts is l' (listed.set a true).toArray := ⟨hlen, fun j => by
    have := congrArg (·[j]?) hl
    simp only [List.getElem?_map] at this
    cases hj : is[j]? with
    | none =>
      rw [hj] at this
      simp only [Option.map_none] at this
      cases hj' : l'[j]? with
      | none => rfl
      | some x => rw [hj'] at this; cases this
    | some i =>
      rw [hj] at this
      simp only [Option.map_some] at this
      cases hj' : l'[j]? with
      | none => rw [hj'] at this; cases this
      | some x =>
        rw [hj'] at this
        simp only [Option.map_some, Option.some.injEq] at this
        simp [this], hns, hB⟩
  have hRb : ∀ b, w0.heap.size ≤ b → b ∉ keys L → ∀ r, r ∈ R → readB w0 (L ++ [(b, Obj.cells zv.cells t)]) r = readB w0 L r := by
    intro b hb hbL r hr
    unfold readB
    cases hlk : look L r with
    | some o => rw [look_app hlk]
    | none =>
      have hrn : r ∉ keys L := look_none hlk
      have hne : b ≠ r := by
        rcases hR r hr with h | h
        · exact absurd h hrn
        · omega
      rw [look_app_r hrn]
      unfold look
      rw [if_neg hne]; rfl
  have t2 : ∀ b w, w0.heap.size ≤ b → b ∉ keys L → Hp w0 (L ++ [(b, .cells zv.cells t)]) w → wpAnyG P l.toArray (postN w0 N) ts (SR w0 R L) is.length (listed.set a true).toArray (act (setF f d (vp b 0))) w := by
    intro b w hb hbL hw
    rw [hlen, SR_congr (hRb b hb hbL)]
    exact h b hb hbL _ hF (fun t ht => hts t ht) w hw
  refine ⟨fun w hw => ⟨fun _ => SR.of hw, (fun h => by rw [hr] at h; cases h), fun i hi => ?_⟩, t2⟩
  rw [hr, List.mem_singleton] at hi
  subst hi
  refine run_allocD ha hop hdst hg hz ?_
  rw [set_toArray]
  exact t2 _ _ hw.size (fun hm => Nat.lt_irrefl _ (hw.lt hm)) (hw.alloc _)
/-- A region in which a variable may be made at any time. -/
theorem Cw.regionD {id : Nat} (R ts : List Nat) (a d t m : Nat) (zv : Value) (hl : l.length = m + 1) (hm : P.follows .mixedOrders = true) (hop : ((nthO l a).map fun o => (o.op, o.dst, o.guard)) = some (.alloc t, some d, none)) (hts : ts.contains a = false) (hns : Region.noSelect l.toArray = true) (hz : zeroV P t = some zv)
    (h : Drift P l ts a d (.cells zv.cells t) → OwD P w0 l R ts a d (.cells zv.cells t) m (List.replicate (m + 1) false) f L (K .normal)) : Cw P w0 (.region id l.toArray true) f L K := by
  intro w hw
  refine wp_mono (wp_region_any hm ?_) fun _ _ _ h => postN_post h
  have hD : Drift P l ts a d (.cells zv.cells t) := by
    cases hn : nthO l a with
    | none => rw [hn] at hop; cases hop
    | some oa =>
      rw [hn] at hop
      simp only [Option.map_some, Option.some.injEq, Prod.mk.injEq] at hop
      exact ⟨⟨oa, t, zv, by rw [nthO_eq] at hn; simpa using hn, hop.1, hop.2.1, hop.2.2, hz, rfl⟩, by simpa using hts, hns⟩
  have h1 := (h hD).1 w.drew hw.drew
  have := wpAny_of_G _ _ _ _ h1
  simpa [hl] using this
end
end Go.Sx
namespace Go.Sx
open Go
/-- A slice that grows, or one that was written out with no elements. -/
def Gr (L : Heap) (E : TypeId) (m : Nat) (v : Value) (n : Nat) (cs : List Value) : Prop :=
  Buf L E m v n cs ∨ (n = 0 ∧ cs = [] ∧ ∃ b, v = vsl b 0 0 0 ∧ look L b = some (.cells #[] E (0, 0)))
theorem Gr.nl {L : Heap} {E : TypeId} {m : Nat} : Gr L E m (.slice none 0 0) 0 [] := .inl .nl
theorem Grew.any {w0 : World} {v v' : Value} {L L' : Heap} (h : Grew w0 v L L') (hv : slB v = none) : Grew w0 v' L L' :=
  ⟨h.keys, h.new, fun c o _ hl => h.look c o (by rw [hv]; simp) hl⟩
theorem Gr.keep {L L' : Heap} {E : TypeId} {m n : Nat} {v : Value} {cs : List Value} (h : Gr L E m v n cs) (hk : ∀ b o, slB v = some b → look L b = some o → look L' b = some o) : Gr L' E m v n cs := by
  rcases h with h | ⟨h1, h2, b, rfl, h3⟩
  · exact .inl (h.keep hk)
  · exact .inr ⟨h1, h2, b, rfl, hk b _ rfl h3⟩
theorem Gr.app {L M : Heap} {E : TypeId} {m n : Nat} {v : Value} {cs : List Value} (h : Gr L E m v n cs) : Gr (L ++ M) E m v n cs := h.keep fun _ _ _ hl => look_app hl
theorem Gr.len {L : Heap} {E : TypeId} {m n : Nat} {v : Value} {cs : List Value} (h : Gr L E m v n cs) (x : Bool × Nat) : lenV (.sl x) v = some (vi n) := by
  rcases h with h | ⟨rfl, rfl, b, rfl, -⟩
  · exact h.len x
  · rfl
theorem Gr.cell {L : Heap} {E : TypeId} {m n : Nat} {v : Value} {cs : List Value} (h : Gr L E m v n cs) : Value.oneCell' v = true ∧ v.cells = #[v] := by
  rcases h with h | ⟨rfl, rfl, b, rfl, -⟩
  · exact h.cell
  · exact ⟨rfl, rfl⟩
theorem Gr.key {L : Heap} {E : TypeId} {m n : Nat} {v : Value} {cs : List Value} (h : Gr L E m v n cs) {b : Nat} (hb : slB v = some b) : b ∈ keys L := by
  rcases h with h | ⟨rfl, rfl, c, rfl, hl⟩
  · rcases h.inv with ⟨rfl, -, -⟩ | ⟨c, cc, rest, rfl, hl, -⟩
    · cases hb
    · cases hb; exact key_of_look hl
  · cases hb; exact key_of_look hl
section
variable {α : Type} {m : Nat} {enc : α → List Value} {z : α} {w : World} {v : Value} {l : List α}
theorem Gr.slM {L : Heap} {E : TypeId} {n : Nat} {cs : List Value} (h : Gr L E m v n cs) (hw : ∀ b o, (b, o) ∈ L → w.heap[b]? = some o) (hl : l.length = n) (hcs : cs = (l.map enc).flatten) (hm : ∀ x, (enc x).length = m) : SlV m enc z w v l := by
  rcases h with h | ⟨rfl, rfl, b, rfl, hlk⟩
  · exact h.slM hw hl hcs hm
  · obtain rfl : l = [] := List.eq_nil_of_length_eq_zero hl
    exact SlV.sl (l := ([] : List α)) (off := 0) (c := 0) (hw _ _ (look_mem hlk)) (fun k hk => by simp at hk) (Nat.le_refl 0) (by simp)
theorem Gr.slV {L : Heap} {E : TypeId} {n : Nat} {cs : List Value} {w0 : World} (h : Gr L E m v n cs) (hw : Hp w0 L w) (hl : l.length = n) (hcs : cs = (l.map enc).flatten) (hm : ∀ x, (enc x).length = m) : SlV m enc z w v l := h.slM hw.has hl hcs hm
theorem rows_extract (hm : ∀ x, (enc x).length = m) (arr : Array Value) : ∀ (ls : List α) (off : Nat), off + ls.length * m ≤ arr.size → (∀ k j, k < ls.length → j < m → arr[off + k * m + j]? = (enc (ls.getD k z))[j]?) →
    (arr.extract off (off + ls.length * m)).toList = (ls.map enc).flatten
  | [], off, _, _ => by simp
  | r :: ls, off, hs, h => by
    have hlm : (r :: ls).length * m = m + ls.length * m := by rw [List.length_cons, Nat.add_mul, Nat.one_mul, Nat.add_comm]
    rw [hlm] at hs ⊢
    have ih := rows_extract hm arr ls (off + m) (by omega) (fun k j hk hj => by
      have := h (k + 1) j (by simpa using hk) hj
      rw [List.getD_cons_succ] at this
      rw [← this]; congr 1; rw [Nat.add_mul, Nat.one_mul]; omega)
    have h0 : (arr.extract off (off + m)).toList = enc r := by
      apply List.ext_getElem?
      intro j
      rw [Array.getElem?_toList, Array.getElem?_extract]
      by_cases hj : j < m
      · rw [if_pos (by omega)]
        have := h 0 j (by simp) hj
        simpa using this
      · rw [if_neg (by omega), List.getElem?_eq_none (by rw [hm]; omega)]
    rw [List.map_cons, List.flatten_cons, ← ih, ← h0, ← Array.toList_append]
    congr 1
    rw [Array.extract_append_extract]
    congr 1 <;> omega
theorem flat_len (hm : ∀ x, (enc x).length = m) (l : List α) : (l.map enc).flatten.length = l.length * m := by
  induction l with
  | nil => simp
  | cons x r ih => rw [List.map_cons, List.flatten_cons, List.length_append, ih, hm, List.length_cons, Nat.add_mul, Nat.one_mul, Nat.add_comm]
/-- A literal of one element. -/
theorem AppX.one1 {P : Program} {b : Nat} {E : TypeId} {fz : Nat × Nat} {cs : List Value} (hb : w.heap[b]? = some (.cells cs.toArray E fz)) (hm : cs.length = m) (h1 : cs.all Value.oneCell' = true) : AppX P w m (vsl b 0 1 1) 1 cs := by
  refine AppX.block (w0 := w) (L := []) (by rw [readB_nil]; exact hb) (by simp; omega) ?_ h1 (Hp.refl w)
  rw [List.extract_toArray, List.extract_eq_take_drop, List.drop_zero, List.take_of_length_le (by omega)]
/-- What is appended out of a slice. -/
theorem SlV.appX {P : Program} (h : SlV m enc z w v l) (hm : ∀ x, (enc x).length = m) (h1 : ∀ x, (enc x).all Value.oneCell' = true) : AppX P w m v l.length (l.map enc).flatten := by
  obtain ⟨b, off, c, arr, E, fz, hr, hc, hv⟩ := h
  rcases hv with ⟨rfl, rfl, rfl⟩ | ⟨rfl, hhas, hsz⟩
  · exact AppX.nil P w m
  · refine AppX.block (w0 := w) (L := []) (by rw [readB_nil]; exact hhas) hsz (rows_extract (z := z) hm arr l off hsz (fun k j hk hj => hr.get k hk j hj)) ?_ (Hp.refl w)
    rw [List.all_flatten, List.all_map, List.all_eq_true]
    exact fun r _ => h1 r
end
section
variable {P : Program} {w0 : World} {f : Fr} {L : Heap} {N : Fr → Heap → Prop} {ops : Array Oper} {rest : List Oper} {md : Md}
  {d : Option Tmp} {ty : TypeId} {ps : String} {af : Array Edge} {g : Option (Nat × Bool)}
theorem Ow.appendG {ts tx e : TypeId} {m : Bool × Nat} {z : Value} {s x : Operand} {n k : Nat} {cs new : List Value} {dx : TypeDesc} {md' : Md} (sv : Value) (hsv : ev f s = sv) (he : md.turn = some md')
    (hs : skipped ops f ⟨d, .call ⟨.builtin .append, #[s, x], #[ts, tx]⟩, ty, ps, af, g⟩ = false)
    (hu : P.underlying ts = some (.slice e)) (hm : aggT P e = some m) (hi : bytesOk P e = true) (hz : zeroV P e = some z) (hzs : z.cells.size = m.2) (hux : P.underlying tx = some dx) (hnx : ∀ k, dx ≠ .int k)
    (hB : Gr L e m.2 sv n cs) (hX : ∀ w, Hp w0 L w → AppX P w m.2 (ev f x) k new) (hlen : new.length = k * m.2) (hbig : 2 * (n + k) + 768 ≤ 2 ^ 38)
    (hn : ∀ v' L', Gr L' e m.2 v' (n + k) (cs ++ new) → (0 < k → Buf L' e m.2 v' (n + k) (cs ++ new)) → Grew w0 sv L L' → (slB v' = slB sv ∨ ∃ c, slB v' = some c ∧ Above L c) → Ow P w0 ops md' rest (putF f d v') L' N) :
    Ow P w0 ops md (⟨d, .call ⟨.builtin .append, #[s, x], #[ts, tx]⟩, ty, ps, af, g⟩ :: rest) f L N := by
  rcases hB with hB | ⟨rfl, rfl, b, rfl, hlk⟩
  · exact Ow.append sv hsv he hs hu hm hi hz hzs hux hnx hB hX hbig fun v' L' h1 h2 h3 => hn v' L' (.inl h1) (fun _ => h1) h2 h3
  · refine Ow.appendEm hsv he hs hu hm hi hz hzs hux hnx hX hbig (fun h0 => ?_) (fun v' L' hk h1 h2 h3 => ?_)
    · subst h0
      obtain rfl : new = [] := List.eq_nil_of_length_eq_zero (by rw [hlen, Nat.zero_mul])
      exact hn _ L (.inr ⟨rfl, rfl, b, rfl, hlk⟩) (fun h => absurd h (Nat.lt_irrefl 0)) (Grew.refl _ _ _) (.inl rfl)
    · exact hn v' L' (.inl h1) (fun _ => h1) (h2.any rfl) (.inr h3)
end
end Go.Sx
namespace Go.Sx
open Go
theorem perm_mid {A D E : Heap} : (A ++ D ++ E).Perm (A ++ E ++ D) := by
  rw [List.append_assoc, List.append_assoc]
  exact List.Perm.append_left A List.perm_append_comm
theorem readB_app {w0 : World} {L M : Heap} {r : Nat} (h : r ∈ keys L) : readB w0 (L ++ M) r = readB w0 L r := by
  obtain ⟨o, ho⟩ := look_key h
  rw [read_look ho, read_look (look_app ho)]
theorem readB_appR {w0 : World} {L M : Heap} {R : List Nat} (h : ∀ r, r ∈ R → r ∈ keys L) : ∀ r, r ∈ R → readB w0 (L ++ M) r = readB w0 L r := fun r hr => readB_app (h r hr)
theorem New.of_le {n : Nat} : ∀ {D : Heap}, (∀ c, c ∈ keys D → n ≤ c) → New n D
  | [], _ => trivial
  | (b, o) :: r, h => ⟨h b (by simp [keys]), New.of_le fun c hc => h c (by simp only [keys, List.map_cons, List.mem_cons] at hc ⊢; exact .inr hc)⟩
theorem readB_appr {w0 : World} {L M : Heap} {r : Nat} (h : r ∉ keys M) : readB w0 (M ++ L) r = readB w0 L r := by
  unfold readB; rw [look_app_r h]
theorem Rets.quiet {P : Program} {k : FuncId} {args : Array Value} {w : World} {S : Value → Prop} (h : Rets P k args w (XS w [] (fun v _ => S v))) : Rets P k args w (fun v D => S v ∧ D = []) :=
  Calls.mono h fun e w' ⟨v, D, he, hp, hx, hs⟩ => ⟨v, [], he, hp.garbage (New.of_le fun c hc => (hx.new c hc).resolve_left (by intro h; cases h)), hs, rfl⟩
theorem Ext.new0 {w : World} {D : Heap} (h : Ext w [] D) : New w.heap.size D := by
  have hn := h.new
  have key : ∀ (D : Heap), (∀ c, c ∈ Sx.keys D → w.heap.size ≤ c) → New w.heap.size D := by
    intro D
    induction D with
    | nil => intro _; trivial
    | cons p r ih =>
      obtain ⟨b, o⟩ := p
      intro hh
      exact ⟨hh b (by simp [Sx.keys]), ih fun c hc => hh c (by simp only [Sx.keys, List.map_cons, List.mem_cons] at hc ⊢; exact .inr hc)⟩
  refine key D fun c hc => ?_
  rcases hn c hc with h1 | h1
  · cases h1
  · exact h1
theorem Ext.of_new {w : World} {D : Heap} (h : New w.heap.size D) : Ext w [] D := ⟨fun c hc => .inr (h.le c hc), fun c hc => by cases hc⟩
section
variable {P : Program} {w0 : World} {f : Fr} {L : Heap} {N : Fr → Heap → Prop} {K : Kont} {ops : Array Oper} {rest : List Oper} {md : Md}
  {d : Option Tmp} {ty : TypeId} {ps : String} {af : Array Edge} {g : Option (Nat × Bool)}
theorem look_of_mem {b : Nat} {o : Obj} : ∀ {B : Heap}, (keys B).Nodup → (b, o) ∈ B → look B b = some o
  | [], _, h => by cases h
  | (c, x) :: q, hn, h => by
    simp only [keys, List.map_cons, List.nodup_cons] at hn
    unfold look
    rcases List.mem_cons.1 h with h | h
    · cases h; rw [if_pos rfl]
    · have : c ≠ b := fun e => hn.1 (e ▸ List.mem_map.2 ⟨_, h, rfl⟩)
      rw [if_neg this]
      exact look_of_mem hn.2 h
theorem SR.perm {R : List Nat} {M : Heap} (h : M.Perm L) (hn : (keys L).Nodup) : SR w0 R M = SR w0 R L := by
  refine SR_congr fun r _ => ?_
  have hk : ∀ (A B : Heap), A.Perm B → (keys B).Nodup → ∀ o, look A r = some o → look B r = some o := fun A B hp hB o ho => look_of_mem hB (hp.mem_iff.1 (look_mem ho))
  have hnM : (keys M).Nodup := (List.Perm.nodup_iff (h.map Prod.fst)).2 hn
  unfold readB
  cases hl : look L r with
  | some o => rw [hk L M h.symm hnM o hl]
  | none =>
    cases hm : look M r with
    | none => rfl
    | some o => rw [hk M L h hn o hm] at hl; cases hl
theorem OwD.permL {l : List Oper} {listed : List Bool} {n : Nat} {R ts : List Nat} {a d : Nat} {z : Obj} {M : Heap} (hp : M.Perm L) (h : OwD P w0 l R ts a d z n listed f M N) : OwD P w0 l R ts a d z n listed f L N := by
  refine ⟨fun w hw => ?_, fun b w hb hbL hw => ?_⟩
  · have := h.1 w (hw.perm hp)
    rw [SR.perm hp hw.nodup] at this
    exact this
  · have hnd : (keys L).Nodup := by
      have := hw.nodup
      rw [keys_app, List.nodup_append] at this
      exact this.1
    have := h.2 b w hb (fun hm => hbL (by have := (hp.map Prod.fst).mem_iff.1 hm; exact this)) (hw.perm (hp.append_right _))
    rw [SR.perm hp hnd] at this
    exact this
theorem Cw.permL {c : Code} {M : Heap} (hp : M.Perm L) (h : Cw P w0 c f M K) : Cw P w0 c f L K := fun w hw => h w (hw.perm hp)
theorem Ow.permL {M : Heap} {l : List Oper} (hp : M.Perm L) (h : Ow P w0 ops .seq l f M N) : Ow P w0 ops .seq l f L N := fun w hw => h w (hw.perm hp)
/-- A callee that makes new blocks alone. -/
theorem Ow.callC {l : List Operand} {ts : Array TypeId} {k : FuncId} {S : Value → Heap → Prop} {md' : Md} (he : md.turn = some md')
    (hs : skipped ops f ⟨d, .call ⟨.value (.func k), l.toArray, ts⟩, ty, ps, af, g⟩ = false)
    (hk : ∀ a w, (callFunc k a).run P w = .ok (.enter k a) w)
    (hc : ∀ w, Hp w0 L w → Rets P k (l.map (ev f)).toArray w (XS w [] S))
    (hn : ∀ B v D, Above L B → w0.heap.size ≤ B → New B D → S v D → Ow P w0 ops md' rest (putF f d v) (L ++ D) N) :
    Ow P w0 ops md (⟨d, .call ⟨.value (.func k), l.toArray, ts⟩, ty, ps, af, g⟩ :: rest) f L N :=
  Ow.callN he hs hk (S := fun B v D => New B D ∧ S v D) (fun w hw => (hc w hw).mono fun _v _D h => ⟨h.1.new0, h.2⟩) (fun _ _ _ h => h.1) (fun B v D hA hB hS => hn B v D hA hB hS.1 hS.2)
/-- What is known of some blocks is known by itself. -/
theorem Hp.part {w : World} {X Y : Heap} (h : Hp w0 (X ++ Y) w) : Hp w X w :=
  ⟨fun b o hm => h.has b o (List.mem_append_left _ hm), by have := h.nodup; rw [keys_app, List.nodup_append] at this; exact this.1, fun _ _ _ => rfl, Nat.le_refl _, rfl, rfl, rfl⟩
theorem Hp.join {w w' : World} {X Y D : Heap} (h : Hp w0 (X ++ Y) w) (k : Hp w D w') (h1 : ∀ c, c ∈ keys X → c ∈ keys D) (h2 : ∀ c, c ∈ keys D → c ∈ keys X ∨ w.heap.size ≤ c) : Hp w0 (D ++ Y) w' := by
  have hnd := h.nodup
  rw [keys_app, List.nodup_append] at hnd
  have hY : ∀ c, c ∈ keys Y → c ∉ keys D := by
    intro c hc hd
    rcases h2 c hd with hx | hx
    · exact hnd.2.2 c hx c hc rfl
    · have := h.lt (b := c) (by rw [keys_app]; exact List.mem_append_right _ hc)
      omega
  have ht := h.trans k
  have e : (X ++ Y).filter (fun p => !(keys D).contains p.1) = Y := by
    rw [List.filter_append, filter_keys_all hY]
    have : X.filter (fun p => !(keys D).contains p.1) = [] := by
      rw [List.filter_eq_nil_iff]
      intro p hp
      have := h1 p.1 (List.mem_map.2 ⟨p, hp, rfl⟩)
      simp [this]
    rw [this, List.nil_append]
  rw [e] at ht
  exact ht.perm List.perm_append_comm
/-- What is appended to a slice of a chunk. -/
theorem Ow.appendX {ts tx e : TypeId} {m : Bool × Nat} {z : Value} {s x : Operand} {n k : Nat} {cs new : List Value} {dx : TypeDesc} {md' : Md} {X Y : Heap} (sv : Value) (hL : L = X ++ Y) (hsv : ev f s = sv) (he : md.turn = some md')
    (hs : skipped ops f ⟨d, .call ⟨.builtin .append, #[s, x], #[ts, tx]⟩, ty, ps, af, g⟩ = false)
    (hu : P.underlying ts = some (.slice e)) (hm : aggT P e = some m) (hi : bytesOk P e = true) (hz : zeroV P e = some z) (hzs : z.cells.size = m.2) (hux : P.underlying tx = some dx) (hnx : ∀ k, dx ≠ .int k)
    (hB : Gr X e m.2 sv n cs) (hX : ∀ w, Hp w0 L w → AppX P w m.2 (ev f x) k new) (hk : 0 < k) (hbig : 2 * (n + k) + 768 ≤ 2 ^ 38)
    (hn : ∀ B v' D, Above L B → w0.heap.size ≤ B → Buf D e m.2 v' (n + k) (cs ++ new) → (∀ c, c ∈ keys X → c ∈ keys D) → (∀ c, c ∈ keys D → c ∈ keys X ∨ B ≤ c) → (∀ c o, slB sv ≠ some c → look X c = some o → look D c = some o) → Ow P w0 ops md' rest (putF f d v') (D ++ Y) N) :
    Ow P w0 ops md (⟨d, .call ⟨.builtin .append, #[s, x], #[ts, tx]⟩, ty, ps, af, g⟩ :: rest) f L N := by
  subst hL
  refine Ow.step he rfl hs fun w hw => ?_
  have hp := hw.part
  have hA : Above (X ++ Y) w.heap.size := above_of fun b hb => hw.lt hb
  have fin : ∀ v' w' D, (Builtin.append_ #[ts, tx] ty #[sv, ev f x]).run P w = .ok v' w' → Hp w D w' → Buf D e m.2 v' (n + k) (cs ++ new) → (∀ c, c ∈ keys X → c ∈ keys D) → (∀ c, c ∈ keys D → c ∈ keys X ∨ w.heap.size ≤ c) → (∀ c o, slB sv ≠ some c → look X c = some o → look D c = some o) →
      (∃ v w' L', (execOp (ev f) ⟨d, .call ⟨.builtin .append, #[s, x], #[ts, tx]⟩, ty, ps, af, g⟩).run P w = .ok (.value v) w' ∧ Hp w0 L' w' ∧ Ow P w0 ops md' rest (putF f d v) L' N) := by
    intro v' w' D hr hD hb h1 h2 h3
    refine ⟨v', w', D ++ Y, ?_, hw.join hD h1 h2, hn w.heap.size v' D hA hw.size hb h1 h2 h3⟩
    simp only [execOp, resolve, Sem.run_bind, Sem.run_pure, Result.andThen_ok, invoke, builtin, List.map_toArray, List.map_cons, List.map_nil, hsv]
    rw [hr]
    rfl
  have hX' : ∀ w', Hp w [] w' → True := fun _ _ => trivial
  rcases hB with hB | ⟨rfl, rfl, b, rfl, hlk⟩
  · obtain ⟨v', w', D, hr, hD, hb, hg, -⟩ := run_append (w0 := w) (L := X) (ty := ty) (x := ev f x) hp hu hm hi hz hzs hux hnx hB (fun w2 hw2 => hX w2 (by
      refine hw.join hw2 (fun c hc => hc) (fun c hc => .inl hc))) hbig
    exact .inl (fin v' w' D hr hD hb hg.keys (fun c hc => (hg.new c hc).imp id And.right) hg.look)
  · rcases run_appendEm (w0 := w) (L := X) (ty := ty) (b := b) (x := ev f x) hp hu hm hi hz hzs hux hnx (fun w2 hw2 => hX w2 (by
      refine hw.join hw2 (fun c hc => hc) (fun c hc => .inl hc))) hbig with ⟨h0, -⟩ | ⟨-, v', w', D, hr, hD, hb, hg, -⟩
    · omega
    · exact .inl (fin v' w' D hr hD hb hg.keys (fun c hc => (hg.new c hc).imp id And.right) (fun c o _ hl => hg.look c o (by simp [slB]) hl))
end
/-- A slice that grows, somewhere among some blocks. -/
def GrI (D : Heap) (E : TypeId) (m : Nat) (v : Value) (n : Nat) (cs : List Value) : Prop := ∃ X, (∀ p, p ∈ X → p ∈ D) ∧ Gr X E m v n cs
theorem Gr.i {X D : Heap} {E : TypeId} {m n : Nat} {v : Value} {cs : List Value} (h : Gr X E m v n cs) (hX : ∀ p, p ∈ X → p ∈ D) : GrI D E m v n cs := ⟨X, hX, h⟩
theorem GrI.mono {D D' : Heap} {E : TypeId} {m n : Nat} {v : Value} {cs : List Value} (h : GrI D E m v n cs) (hX : ∀ p, p ∈ D → p ∈ D') : GrI D' E m v n cs := by
  obtain ⟨X, h1, h2⟩ := h; exact ⟨X, fun p hp => hX p (h1 p hp), h2⟩
theorem GrI.slV {α : Type} {m : Nat} {enc : α → List Value} {z : α} {w0 w : World} {v : Value} {l : List α} {D : Heap} {E : TypeId} {n : Nat} {cs : List Value} (h : GrI D E m v n cs) (hw : Hp w0 D w) (hl : l.length = n) (hcs : cs = (l.map enc).flatten) (hm : ∀ x, (enc x).length = m) : SlV m enc z w v l := by
  obtain ⟨X, h1, h2⟩ := h
  exact h2.slM (fun b o hm => hw.has b o (h1 _ hm)) hl hcs hm
section
variable {P : Program} {w0 : World} {f : Fr} {L : Heap} {N : Fr → Heap → Prop}
/-- By states in which several ways meet. -/
theorem OwD.via {l : List Oper} {listed : List Bool} {n : Nat} {R ts : List Nat} {a d : Nat} {z : Obj} {G : Type} (F : G → Fr) (H : G → Heap) (J : G → Prop) (n' : Nat) (listed' : List Bool)
    (start : (∀ g f' L', J g → f' = F g → (H g).Perm L' → OwD P w0 l R ts a d z n' listed' f' L' N) → OwD P w0 l R ts a d z n listed f L N) (fin : ∀ g, J g → OwD P w0 l R ts a d z n' listed' (F g) (H g) N) : OwD P w0 l R ts a d z n listed f L N :=
  start fun g f' L' hJ hf hp => by subst hf; exact (fin g hJ).permL hp
theorem look_app_r' {L _M : Heap} {b : Nat} {o : Obj} (h : b ∉ keys L) : look (L ++ [(b, o)]) b = some o := by
  rw [look_app_r h]; exact look_same _ _ _
theorem setB_app_r {b : Nat} {o x : Obj} : ∀ {L : Heap}, b ∉ keys L → setB (L ++ [(b, o)]) b x = L ++ [(b, x)]
  | [], _ => by rw [List.nil_append, setB_same]; rfl
  | (c, y) :: r, h => by
    simp only [keys, List.map_cons, List.mem_cons, not_or] at h
    rw [List.cons_append, setB_other _ _ _ _ _ (Ne.symm h.1), setB_app_r (by simpa [keys] using h.2)]; rfl
end
end Go.Sx
namespace Go.Sx
open Go
/-- A slice that is written out with one element of some cells. -/
theorem slice_one {P : Program} {t e : TypeId} {m : Nat} {zc : Array Value} {cs : List Value} (hu : P.underlying t = some (.slice e)) (ha : aggT P e = some (true, m)) (hz : zeroV P e = some (.agg zc)) (hm : 0 < m ∧ m ≤ 16777216) (hc : cs.length = m) :
    sliceB P t 1 [(0, .agg cs.toArray)] = some (e, cs.toArray) := by
  have h2 : Value.cells (.agg cs.toArray) = cs.toArray := cells_agg _
  have hg : ¬ (1 * m > 2 ^ 24) := by simp; omega
  have h0 : ¬ (1 * m = 0) := by omega
  simp only [sliceB, hu, ha, hz, Option.map_some]
  rw [if_neg hg, if_neg h0]
  simp only
  generalize hI : (Array.range (1 * m)).map (fun x => (Value.cells (.agg zc))[x % (Value.cells (.agg zc)).size]!) = I
  have hIs : I.size = m := by rw [← hI]; simp
  have hfl : Instr.fill (fun i => some (i * m, m)) I [(0, Value.agg cs.toArray)] = some cs.toArray := by
    unfold Instr.fill
    have s3 : cs.toArray.size = m := by simp [hc]
    simp only [h2, s3, hIs, Nat.zero_mul, ne_eq, not_true_eq_false, decide_false, Bool.false_or, Nat.zero_add, Nat.lt_irrefl, gt_iff_lt, Bool.false_eq_true, ↓reduceIte]
    unfold Instr.fill
    congr 1
    have hz := foldl_putC cs 0 0 I
    rw [Nat.add_zero, putC_all I cs (by rw [hc, hIs])] at hz
    simp only [Nat.zero_add] at hz
    rw [← Array.foldl_toList, Array.toList_zipIdx]
    exact hz
  rw [hfl]
  rfl
end Go.Sx
section
open Go Go.Proofs Go.Sx
namespace Go.Proofs
set_option maxRecDepth 10000
set_option maxHeartbeats 4000000
set_option linter.unusedSimpArgs false
theorem refC_one (r : RefL) : (refC r).all Value.oneCell' = true := by
  unfold refC
  rw [List.all_cons, List.all_map, Bool.and_eq_true]
  exact ⟨rfl, List.all_eq_true.2 fun x _ => rfl⟩
set_option linter.defProp false
def uWI_1 := And.intro (And.intro (@rdIn_v8) (@rdIn_v16)) (And.intro (@rdIn_v32) (And.intro (@rdIn_v64) (@rdIn_vi)))
abbrev RefSl (w : World) (v : Value) (l : List RefL) : Prop := SlV 33 refC ref0 w v l
theorem nilRefs (b o n c : Nat) : binX Tryz.prog .eql 22 (vsl b o n c) (.slice none 0 0) = some (.bool false) := by
  simp [binX, eqX, plainV, eqNilV, Tryz.underlying22, vsl]
theorem nilRefs' : binX Tryz.prog .eql 22 (.slice none 0 0) (.slice none 0 0) = some (.bool true) := by
  simp [binX, eqX, plainV, eqNilV, Tryz.underlying22]
theorem CloneRef_spec (v : Value) (ls : List RefL) (w : World) (hv : RefSl w v ls) (hl : ls.length < 1000000) :
    Rets Tryz.prog 41 #[v] w (XS w [] (fun v D => Gr D 48 33 v ls.length (ls.map refC).flatten)) := by
  obtain ⟨b, off, c, arr, E, fz, hr, hc, ⟨rfl, rfl, rfl⟩ | ⟨rfl, hb, hsz⟩⟩ := hv
  · refine Rets.enterX Tryz.func41 rfl (rs := [.tmp 2]) Tryz.results41 Tryz.ntmps41 (fun p hp => by cases hp) (by simp [keys]) ?_
    simp only [List.size_toArray, List.length_cons, List.length_nil, Nat.reduceAdd, Nat.reduceSub, List.replicate_succ, List.replicate_zero, List.cons_append, List.nil_append]
    ((try with_reducible refine Cw.go [] ?_); (try simp (disch := (first | assumption | omega | (simp only [lenS, lenT, UInt64.reduceToNat]; try omega))) only [↓Sx.S0, Sx.S1, Tryz.fx, uWI_1, Nat.reduceAdd, Nat.reducePow, Int.reducePow, Nat.reduceBEq, ↓reduceIte, UInt8.reduceToNat, UInt16.reduceToNat, UInt32.reduceToNat, UInt64.reduceToNat, Int.reduceToNat, nilRefs, nilRefs']))
    refine ⟨_, (by simp (disch := (first | assumption | omega | (simp only [lenS, lenT, UInt64.reduceToNat]; try omega))) only [↓Sx.S0, Sx.S1, Tryz.fx, uWI_1, Nat.reduceAdd, Nat.reducePow, Int.reducePow, Nat.reduceBEq, ↓reduceIte, UInt8.reduceToNat, UInt16.reduceToNat, UInt32.reduceToNat, UInt64.reduceToNat, Int.reduceToNat]; rfl), ?_⟩
    exact ⟨Ext.refl _ _, Gr.nl⟩
  · have hbl := (Array.getElem?_eq_some_iff.1 hb).1
    have hv : RefSl w (vsl b off ls.length c) ls := ⟨b, off, c, arr, E, fz, hr, hc, .inr ⟨rfl, hb, hsz⟩⟩
    refine Rets.enterX Tryz.func41 rfl (rs := [.tmp 2]) Tryz.results41 Tryz.ntmps41 (fun p hp => by cases hp) (by simp [keys]) ?_
    simp only [List.size_toArray, List.length_cons, List.length_nil, Nat.reduceAdd, Nat.reduceSub, List.replicate_succ, List.replicate_zero, List.cons_append, List.nil_append]
    ((try with_reducible refine Cw.go [] ?_); (try simp (disch := (first | assumption | omega | (simp only [lenS, lenT, UInt64.reduceToNat]; try omega))) only [↓Sx.S0, Sx.S1, Tryz.fx, uWI_1, Nat.reduceAdd, Nat.reducePow, Int.reducePow, Nat.reduceBEq, ↓reduceIte, UInt8.reduceToNat, UInt16.reduceToNat, UInt32.reduceToNat, UInt64.reduceToNat, Int.reduceToNat, nilRefs, nilRefs']))
    refine Ow.buildSlice (e := 48) #[] rfl rfl (by kernel_rfl) fun b1 hb1 hw1 => ?_
    refine Ow.go rfl ?_
    simp (disch := (first | assumption | omega | (simp only [lenS, lenT, UInt64.reduceToNat]; try omega))) only [↓Sx.S0, Sx.S1, Tryz.fx, uWI_1, Nat.reduceAdd, Nat.reducePow, Int.reducePow, Nat.reduceBEq, ↓reduceIte, UInt8.reduceToNat, UInt16.reduceToNat, UInt32.reduceToNat, UInt64.reduceToNat, Int.reduceToNat]
    refine Ow.appendG (e := 48) (k := ls.length) (new := (ls.map refC).flatten) (vsl b1 0 0 0) rfl rfl rfl Tryz.underlying22 Tryz.ag48 (by kernel_rfl) zrRef (by rw [cells_ref, List.size_toArray, refC_len]) Tryz.underlying22 (by intro k h; cases h) (.inr ⟨rfl, rfl, b1, rfl, look_new hb1⟩) (fun w' hw' => (hv.oldN hw' ⟨hw1, trivial⟩).appX refC_len refC_one) (flat_len refC_len ls) (by omega) (fun v2 L2 hB hB2 hG hS => ?_)
    rw [Nat.zero_add, List.nil_append] at hB
    refine Ow.go rfl ?_
    simp (disch := (first | assumption | omega | (simp only [lenS, lenT, UInt64.reduceToNat]; try omega))) only [↓Sx.S0, Sx.S1, Tryz.fx, uWI_1, Nat.reduceAdd, Nat.reducePow, Int.reducePow, Nat.reduceBEq, ↓reduceIte, UInt8.reduceToNat, UInt16.reduceToNat, UInt32.reduceToNat, UInt64.reduceToNat, Int.reduceToNat]
    ((try with_reducible refine Cw.go [] ?_); (try simp (disch := (first | assumption | omega | (simp only [lenS, lenT, UInt64.reduceToNat]; try omega))) only [↓Sx.S0, Sx.S1, Tryz.fx, uWI_1, Nat.reduceAdd, Nat.reducePow, Int.reducePow, Nat.reduceBEq, ↓reduceIte, UInt8.reduceToNat, UInt16.reduceToNat, UInt32.reduceToNat, UInt64.reduceToNat, Int.reduceToNat]))
    refine ⟨_, (by simp (disch := (first | assumption | omega | (simp only [lenS, lenT, UInt64.reduceToNat]; try omega))) only [↓Sx.S0, Sx.S1, Tryz.fx, uWI_1, Nat.reduceAdd, Nat.reducePow, Int.reducePow, Nat.reduceBEq, ↓reduceIte, UInt8.reduceToNat, UInt16.reduceToNat, UInt32.reduceToNat, UInt64.reduceToNat, Int.reduceToNat]; rfl), ?_⟩
    exact ⟨((Ext.refl w []).app (o := Obj.cells #[] 48 (0, 0)) hw1).grew hG, hB⟩
end Go.Proofs
end
section
open Go Go.Proofs Go.Sx
namespace Go.Proofs
set_option maxRecDepth 10000
set_option maxHeartbeats 4000000
set_option linter.unusedSimpArgs false
theorem GlobC.ofE {w w' : World} {X L : Heap} (h : GlobC w) (hE : Ext w X L) (hw : Hp w L w') (hn : (1 : Nat) ∉ keys X) : GlobC w' := by
  have hlt : (1 : Nat) < w.heap.size := by obtain ⟨e, f, h⟩ := h; exact (Array.getElem?_eq_some_iff.1 h).1
  exact GlobC.of h hw (hE.not hlt hn)
theorem BldAt.zero (b : Nat) {L : Heap} (h : Sx.look L b = some (.cells #[.pointer none, .slice none 0 0] 56 (0, 0))) : BldAt b [] L :=
  ⟨_, _, h, .inl rfl, .nl, fun h => by cases h⟩
/-- Some bytes as a record. -/
def recordV (l : List UInt8) : List UInt8 := textL (sealV l)
theorem record_spec (b : Nat) (X : Heap) (l : List UInt8) (w : World) (hG : GlobC w) (hg : (1 : Nat) ∉ keys X) (hB : BldAt b l X) (hX : ∀ p, p ∈ X → w.heap[p.1]? = some p.2) (hn : (keys X).Nodup) (hl : l.length < 1073741824) :
    Rets Tryz.prog 25 #[vp b 0] w (XS w X (fun v _ => v = vs (recordV l))) := by
  refine Rets.enterX Tryz.func25 rfl (rs := [.tmp 2]) Tryz.results25 Tryz.ntmps25 hX hn ?_
  simp only [List.size_toArray, List.length_cons, List.length_nil, Nat.reduceAdd, Nat.reduceSub, List.replicate_succ, List.replicate_zero, List.cons_append, List.nil_append]
  ((try with_reducible refine Cw.go [] ?_); (try simp (disch := (first | assumption | omega | (simp only [lenS, lenT, UInt64.reduceToNat]; try omega))) only [↓Sx.S0, Sx.S1, Tryz.fx, Nat.reduceAdd, Nat.reducePow, Int.reducePow, Nat.reduceBEq, ↓reduceIte, UInt8.reduceToNat, UInt16.reduceToNat, UInt32.reduceToNat, UInt64.reduceToNat, Int.reduceToNat]))
  refine Ow.alloc rfl rfl Tryz.zr56 fun b1 hb1 hw1 => ?_
  refine Ow.go rfl ?_
  simp (disch := (first | assumption | omega | (simp only [lenS, lenT, UInt64.reduceToNat]; try omega))) only [↓Sx.S0, Sx.S1, Tryz.fx, Nat.reduceAdd, Nat.reducePow, Int.reducePow, Nat.reduceBEq, ↓reduceIte, UInt8.reduceToNat, UInt16.reduceToNat, UInt32.reduceToNat, UInt64.reduceToNat, Int.reduceToNat]
  have hE0 := (Ext.refl w X).app (o := .cells #[.pointer none, .slice none 0 0] 56 (0, 0)) hw1
  ((try with_reducible refine Cw.go [] ?_); (try simp (disch := (first | assumption | omega | (simp only [lenS, lenT, UInt64.reduceToNat]; try omega))) only [↓Sx.S0, Sx.S1, Tryz.fx, Nat.reduceAdd, Nat.reducePow, Int.reducePow, Nat.reduceBEq, ↓reduceIte, UInt8.reduceToNat, UInt16.reduceToNat, UInt32.reduceToNat, UInt64.reduceToNat, Int.reduceToNat]))
  refine Ow.callX (Y := [(b1, .cells #[.pointer none, .slice none 0 0] 56 (0, 0))]) (by simp) rfl rfl Tryz.call51 (fun w' hw' hX hn => WString_spec b X l w' hB hX hn (by omega)) (fun v2 D2 hC hS2 => ?_)
  subst hS2
  have hE2 := hE0.came hC
  have hb1D : b1 ∉ keys D2 := fun hm => by
    rcases hC.new b1 hm with h | ⟨h, -⟩
    · exact Nat.lt_irrefl _ (above_to hb1 h)
    · exact Nat.lt_irrefl _ (above_to h (by rw [keys_app]; exact List.mem_append_right _ List.mem_cons_self))
  have hZ : BldAt b1 [] (D2 ++ [(b1, .cells #[.pointer none, .slice none 0 0] 56 (0, 0))]) := BldAt.zero b1 (by rw [look_app_r hb1D]; exact look_same _ _ _)
  generalize D2 ++ [(b1, Obj.cells #[.pointer none, .slice none 0 0] 56 (0, 0))] = D3 at *
  refine Ow.go rfl ?_
  simp (disch := (first | assumption | omega | (simp only [lenS, lenT, UInt64.reduceToNat]; try omega))) only [↓Sx.S0, Sx.S1, Tryz.fx, Nat.reduceAdd, Nat.reducePow, Int.reducePow, Nat.reduceBEq, ↓reduceIte, UInt8.reduceToNat, UInt16.reduceToNat, UInt32.reduceToNat, UInt64.reduceToNat, Int.reduceToNat]
  refine Ow.callFV rfl Tryz.call50 (fun w' hw' => cSeal_spec l w' (GlobC.ofE hG hE2 hw' hg) (by omega)) ?_
  refine Ow.go rfl ?_
  simp (disch := (first | assumption | omega | (simp only [lenS, lenT, UInt64.reduceToNat]; try omega))) only [↓Sx.S0, Sx.S1, Tryz.fx, Nat.reduceAdd, Nat.reducePow, Int.reducePow, Nat.reduceBEq, ↓reduceIte, UInt8.reduceToNat, UInt16.reduceToNat, UInt32.reduceToNat, UInt64.reduceToNat, Int.reduceToNat]
  have hsl := sealV_len l
  refine Ow.buildSlice (e := 9) #[vs (sealV l)] rfl rfl (by kernel_rfl) fun b4 hb4 hw4 => ?_
  refine Ow.go rfl ?_
  simp (disch := (first | assumption | omega | (simp only [lenS, lenT, UInt64.reduceToNat]; try omega))) only [↓Sx.S0, Sx.S1, Tryz.fx, Nat.reduceAdd, Nat.reducePow, Int.reducePow, Nat.reduceBEq, ↓reduceIte, UInt8.reduceToNat, UInt16.reduceToNat, UInt32.reduceToNat, UInt64.reduceToNat, Int.reduceToNat]
  have htl : (textsL [sealV l]) = recordV l := by simp [textsL, recordV]
  have hnl := numL_clamp_len ((sealV l).length : Int)
  have hrl : (recordV l).length = (numL (clampN (sealV l).length)).length + (sealV l).length := by unfold recordV textL; rw [List.length_append]
  refine Ow.callX (Y := [(b4, .cells #[vs (sealV l)] 9 (0, 0))]) (by simp) rfl rfl Tryz.call23 (fun w' hw' hX hn => WText_spec b1 D3 [] _ b4 0 [sealV l] _ _ _ w' hZ hX hn (StrS.lit [sealV l] rfl rfl (hw'.has _ _ (List.mem_append_right _ List.mem_cons_self))) (fun _ hm => Nat.lt_irrefl _ (above_to hb4 hm)) (by rw [htl]; simp only [List.length_nil]; omega) (by simp)) (fun v5 D5 hC5 hS5 => ?_)
  obtain ⟨rfl, hB5⟩ := hS5
  rw [htl, List.nil_append] at hB5
  have hE5 := (hE2.app (o := .cells #[vs (sealV l)] 9 (0, 0)) hw4).came hC5
  have hB6 := BldAt.app (Y := [(b4, .cells #[vs (sealV l)] 9 (0, 0))]) hB5
  generalize D5 ++ [(b4, Obj.cells #[vs (sealV l)] 9 (0, 0))] = D6 at *
  refine Ow.go rfl ?_
  simp (disch := (first | assumption | omega | (simp only [lenS, lenT, UInt64.reduceToNat]; try omega))) only [↓Sx.S0, Sx.S1, Tryz.fx, Nat.reduceAdd, Nat.reducePow, Int.reducePow, Nat.reduceBEq, ↓reduceIte, UInt8.reduceToNat, UInt16.reduceToNat, UInt32.reduceToNat, UInt64.reduceToNat, Int.reduceToNat]
  ((try with_reducible refine Cw.go [] ?_); (try simp (disch := (first | assumption | omega | (simp only [lenS, lenT, UInt64.reduceToNat]; try omega))) only [↓Sx.S0, Sx.S1, Tryz.fx, Nat.reduceAdd, Nat.reducePow, Int.reducePow, Nat.reduceBEq, ↓reduceIte, UInt8.reduceToNat, UInt16.reduceToNat, UInt32.reduceToNat, UInt64.reduceToNat, Int.reduceToNat]))
  refine Ow.callX (Y := []) (by simp) rfl rfl Tryz.call51 (fun w' hw' hX hn => WString_spec b1 D6 (recordV l) w' hB6 hX hn (by omega)) (fun v7 D7 hC7 hS7 => ?_)
  subst hS7
  rw [List.append_nil]
  refine Ow.go rfl ?_
  simp (disch := (first | assumption | omega | (simp only [lenS, lenT, UInt64.reduceToNat]; try omega))) only [↓Sx.S0, Sx.S1, Tryz.fx, Nat.reduceAdd, Nat.reducePow, Int.reducePow, Nat.reduceBEq, ↓reduceIte, UInt8.reduceToNat, UInt16.reduceToNat, UInt32.reduceToNat, UInt64.reduceToNat, Int.reduceToNat]
  ((try with_reducible refine Cw.go [] ?_); (try simp (disch := (first | assumption | omega | (simp only [lenS, lenT, UInt64.reduceToNat]; try omega))) only [↓Sx.S0, Sx.S1, Tryz.fx, Nat.reduceAdd, Nat.reducePow, Int.reducePow, Nat.reduceBEq, ↓reduceIte, UInt8.reduceToNat, UInt16.reduceToNat, UInt32.reduceToNat, UInt64.reduceToNat, Int.reduceToNat]))
  refine ⟨_, (by simp (disch := (first | assumption | omega | (simp only [lenS, lenT, UInt64.reduceToNat]; try omega))) only [↓Sx.S0, Sx.S1, Tryz.fx, Nat.reduceAdd, Nat.reducePow, Int.reducePow, Nat.reduceBEq, ↓reduceIte, UInt8.reduceToNat, UInt16.reduceToNat, UInt32.reduceToNat, UInt64.reduceToNat, Int.reduceToNat]; rfl), ?_⟩
  exact ⟨hE5.came0 hC7, rfl⟩
end Go.Proofs
end
section
open Go Go.Proofs Go.Sx
namespace Go.Proofs
set_option maxRecDepth 10000
set_option maxHeartbeats 4000000
set_option linter.unusedSimpArgs false
theorem Cw.perm {P : Program} {w0 : World} {c : Code} {f : Fr} {L : Heap} {K : Kont} (M : Heap) (hs : ∀ p, p ∈ M ↔ p ∈ L) (hn : (keys M).Nodup) (h : Cw P w0 c f M K) : Cw P w0 c f L K := fun w hw => h w (hw.same hs hn)
theorem slice_id (id : IdL) : sliceB Tryz.prog 36 1 [(0, .agg (a8 id.l))] = some (34, a8 id.l) := by
  have h2 : Value.cells (.agg (a8 id.l)) = (id.l.map v8).toArray := cells_agg _
  have hz : zeroV Tryz.prog 34 = some (.agg ((List.replicate 32 (0 : UInt8)).map v8).toArray) := Tryz.zr34
  have s3 : (id.l.map v8).toArray.size = 32 := by simp [id.h]
  have hp2 := putC_app (id.l.map v8) [] ((List.replicate 32 (0 : UInt8)).map v8) (by simp [id.h])
  have hd : List.drop (id.l.map v8).length ((List.replicate 32 (0 : UInt8)).map v8) = [] := List.drop_eq_nil_of_le (by simp [id.h])
  rw [hd, List.append_nil, List.nil_append] at hp2
  have hzz : ((Array.range (1 * 32)).map fun x => (Value.cells (.agg ((List.replicate 32 (0 : UInt8)).map v8).toArray))[x % (Value.cells (.agg ((List.replicate 32 (0 : UInt8)).map v8).toArray)).size]!) = ((List.replicate 32 (0 : UInt8)).map v8).toArray := by kernel_rfl
  simp only [sliceB, Tryz.underlying36, Tryz.ag34, hz, Option.map_some]
  rw [if_neg (by decide), if_neg (by decide)]
  simp only
  rw [hzz]
  have hfl : Instr.fill (fun i => some (i * 32, 32)) ((List.replicate 32 (0 : UInt8)).map v8).toArray [(0, Value.agg (a8 id.l))] = some (a8 id.l) := by
    have s4 : (((List.replicate 32 (0 : UInt8)).map v8).toArray).size = 32 := by simp
    unfold Instr.fill
    simp only [h2, s3, s4, Nat.zero_mul, ne_eq, not_true_eq_false, decide_false, Bool.false_or, Nat.zero_add, Nat.lt_irrefl, gt_iff_lt, Bool.false_eq_true, ↓reduceIte]
    unfold Instr.fill
    congr 1
    have hz := foldl_putC (id.l.map v8) 0 0 ((List.replicate 32 (0 : UInt8)).map v8).toArray
    have hp : putC ((List.replicate 32 (0 : UInt8)).map v8).toArray 0 (id.l.map v8) = (id.l.map v8).toArray := hp2
    rw [Nat.add_zero, hp] at hz
    simp only [Nat.zero_add] at hz
    rw [← Array.foldl_toList, Array.toList_zipIdx]
    exact hz
  rw [hfl]
  rfl
/-- An entry's bytes. -/
def entryB (r : RefL) : List UInt8 := [69] ++ textL r.name ++ r.id.l
set_option linter.defProp false
def uWK_1 := And.intro (And.intro (And.intro (@rdIn_v8) (@rdIn_v16)) (And.intro (@rdIn_v32) (@rdIn_v64))) (And.intro (And.intro (@rdIn_vi) (@load_ref0)) (And.intro (@load_ref1) (And.intro (@cells_ref) (@eqId))))
theorem entryRecord_spec (r : RefL) (w : World) (hG : GlobC w) (hr : r.name.length < 1000000) :
    Rets Tryz.prog 26 #[.agg (refC r).toArray] w (XS w [] (fun v _ => v = vs (recordV (entryB r)))) := by
  have hg3 : (1 : Nat) < w.heap.size := by obtain ⟨e, f, h⟩ := hG; exact (Array.getElem?_eq_some_iff.1 h).1
  refine Rets.enterX Tryz.func26 rfl (rs := [.tmp 2]) Tryz.results26 Tryz.ntmps26 (fun p hp => by cases hp) (by simp [keys]) ?_
  simp only [List.size_toArray, List.length_cons, List.length_nil, Nat.reduceAdd, Nat.reduceSub, List.replicate_succ, List.replicate_zero, List.cons_append, List.nil_append]
  ((try with_reducible refine Cw.go [] ?_); (try simp (disch := (first | assumption | omega | (simp only [lenS, lenT, UInt64.reduceToNat]; try omega))) only [↓Sx.S0, Sx.S1, Tryz.fx, uWK_1, Nat.reduceAdd, Nat.reducePow, Int.reducePow, Nat.reduceBEq, ↓reduceIte, UInt8.reduceToNat, UInt16.reduceToNat, UInt32.reduceToNat, UInt64.reduceToNat, Int.reduceToNat]))
  refine Ow.box rfl rfl fun b0 hb0 hw0 => ?_
  simp only [ev_tmp, getF_0, cells_ref, List.nil_append]
  refine Ow.go rfl ?_
  simp (disch := (first | assumption | omega | (simp only [lenS, lenT, UInt64.reduceToNat]; try omega))) only [↓Sx.S0, Sx.S1, Tryz.fx, uWK_1, Nat.reduceAdd, Nat.reducePow, Int.reducePow, Nat.reduceBEq, ↓reduceIte, UInt8.reduceToNat, UInt16.reduceToNat, UInt32.reduceToNat, UInt64.reduceToNat, Int.reduceToNat]
  ((try with_reducible refine Cw.go [] ?_); (try simp (disch := (first | assumption | omega | (simp only [lenS, lenT, UInt64.reduceToNat]; try omega))) only [↓Sx.S0, Sx.S1, Tryz.fx, uWK_1, Nat.reduceAdd, Nat.reducePow, Int.reducePow, Nat.reduceBEq, ↓reduceIte, UInt8.reduceToNat, UInt16.reduceToNat, UInt32.reduceToNat, UInt64.reduceToNat, Int.reduceToNat]))
  refine Ow.alloc rfl rfl Tryz.zr56 fun b1 hb1 hw1 => ?_
  obtain ⟨h01, -⟩ := hb1
  refine Ow.go rfl ?_
  simp (disch := (first | assumption | omega | (simp only [lenS, lenT, UInt64.reduceToNat]; try omega))) only [↓Sx.S0, Sx.S1, Tryz.fx, uWK_1, Nat.reduceAdd, Nat.reducePow, Int.reducePow, Nat.reduceBEq, ↓reduceIte, UInt8.reduceToNat, UInt16.reduceToNat, UInt32.reduceToNat, UInt64.reduceToNat, Int.reduceToNat]
  refine Ow.permL (List.Perm.swap _ _ _) ?_
  have hE0 : Ext w [] [(b1, Obj.cells #[.pointer none, .slice none 0 0] 56 (0, 0)), (b0, Obj.cells (refC r).toArray 48 (0, 0))] :=
    ((Ext.refl w []).app hw1).app hw0
  have hZ : BldAt b1 [] [(b1, .cells #[.pointer none, .slice none 0 0] 56 (0, 0))] := BldAt.zero b1 (look_same _ _ _)
  ((try with_reducible refine Cw.go [] ?_); (try simp (disch := (first | assumption | omega | (simp only [lenS, lenT, UInt64.reduceToNat]; try omega))) only [↓Sx.S0, Sx.S1, Tryz.fx, uWK_1, Nat.reduceAdd, Nat.reducePow, Int.reducePow, Nat.reduceBEq, ↓reduceIte, UInt8.reduceToNat, UInt16.reduceToNat, UInt32.reduceToNat, UInt64.reduceToNat, Int.reduceToNat]))
  refine Ow.buildSlice (e := 9) #[vs [69]] rfl rfl (by kernel_rfl) fun b2 hb2 hw2 => ?_
  obtain ⟨h12, h02, -⟩ := hb2
  have hE1 := hE0.app (o := .cells #[vs [69]] 9 (0, 0)) hw2
  refine Ow.go rfl ?_
  simp (disch := (first | assumption | omega | (simp only [lenS, lenT, UInt64.reduceToNat]; try omega))) only [↓Sx.S0, Sx.S1, Tryz.fx, uWK_1, Nat.reduceAdd, Nat.reducePow, Int.reducePow, Nat.reduceBEq, ↓reduceIte, UInt8.reduceToNat, UInt16.reduceToNat, UInt32.reduceToNat, UInt64.reduceToNat, Int.reduceToNat]
  refine Ow.callX (Y := [(b0, .cells (refC r).toArray 48 (0, 0)), (b2, .cells #[vs [69]] 9 (0, 0))]) (by simp) rfl rfl Tryz.call21 (fun w' hw' hX hn => WRaw_spec b1 [(b1, .cells #[.pointer none, .slice none 0 0] 56 (0, 0))] [] _ b2 0 [[69]] _ _ _ w' hZ hX hn (StrS.lit [[69]] rfl rfl (hw'.has _ _ (List.mem_cons_of_mem _ (List.mem_cons_of_mem _ List.mem_cons_self)))) (fun _ hm => by simp [keys] at hm; omega) (by simp) (by simp)) (fun v3 D3 hC3 hS3 => ?_)
  obtain ⟨rfl, hB3⟩ := hS3
  have hE3 := Ext.came (D := [(b1, Obj.cells #[.pointer none, .slice none 0 0] 56 (0, 0))]) (Y := [(b0, Obj.cells (refC r).toArray 48 (0, 0)), (b2, .cells #[vs [69]] 9 (0, 0))]) hE1 hC3
  have hb0D : b0 ∉ keys D3 := fun hm => by
    rcases hC3.new b0 hm with h | ⟨h, -⟩
    · simp [keys] at h; omega
    · exact Nat.lt_irrefl _ (above_to h (by simp [keys]))
  simp only [List.flatten_cons, List.flatten_nil, List.append_nil, List.nil_append] at hB3
  have rd0 : readB w (D3 ++ [(b0, Obj.cells (refC r).toArray 48 (0, 0)), (b2, .cells #[vs [69]] 9 (0, 0))]) b0 = some (.cells (refC r).toArray 48 (0, 0)) := read_look (by rw [look_app_r hb0D]; exact look_same _ _ _)
  refine Ow.go rfl ?_
  simp (disch := (first | assumption | omega | (simp only [lenS, lenT, UInt64.reduceToNat]; try omega))) only [↓Sx.S0, Sx.S1, Tryz.fx, uWK_1, Nat.reduceAdd, Nat.reducePow, Int.reducePow, Nat.reduceBEq, ↓reduceIte, UInt8.reduceToNat, UInt16.reduceToNat, UInt32.reduceToNat, UInt64.reduceToNat, Int.reduceToNat]
  ((try with_reducible refine Cw.go [] ?_); (try simp (disch := (first | assumption | omega | (simp only [lenS, lenT, UInt64.reduceToNat]; try omega))) only [↓Sx.S0, Sx.S1, Tryz.fx, uWK_1, Nat.reduceAdd, Nat.reducePow, Int.reducePow, Nat.reduceBEq, ↓reduceIte, UInt8.reduceToNat, UInt16.reduceToNat, UInt32.reduceToNat, UInt64.reduceToNat, Int.reduceToNat, rd0]))
  refine Ow.buildSlice (e := 9) #[vs r.name] rfl rfl (by kernel_rfl) fun b4 hb4 hw4 => ?_
  have hnl := numL_clamp_len (r.name.length : Int)
  have htl : textsL [r.name] = textL r.name := by simp [textsL]
  have htn : (textL r.name).length = (numL (clampN r.name.length)).length + r.name.length := by unfold textL; rw [List.length_append]
  have hb14 : b1 ∈ keys D3 := hC3.all b1 (by simp [keys])
  have hE4 := hE3.app (o := .cells #[vs r.name] 9 (0, 0)) hw4
  refine Ow.go rfl ?_
  simp (disch := (first | assumption | omega | (simp only [lenS, lenT, UInt64.reduceToNat]; try omega))) only [↓Sx.S0, Sx.S1, Tryz.fx, uWK_1, Nat.reduceAdd, Nat.reducePow, Int.reducePow, Nat.reduceBEq, ↓reduceIte, UInt8.reduceToNat, UInt16.reduceToNat, UInt32.reduceToNat, UInt64.reduceToNat, Int.reduceToNat]
  refine Ow.callX (Y := [(b0, .cells (refC r).toArray 48 (0, 0)), (b2, .cells #[vs [69]] 9 (0, 0)), (b4, .cells #[vs r.name] 9 (0, 0))]) (by simp) rfl rfl Tryz.call23 (fun w' hw' hX hn => WText_spec b1 D3 [69] _ b4 0 [r.name] _ _ _ w' hB3 hX hn (StrS.lit [r.name] rfl rfl (hw'.has _ _ (List.mem_append_right _ List.mem_cons_self))) (fun _ hm => Nat.lt_irrefl _ (above_to hb4 (by rw [keys_app]; exact List.mem_append_left _ hm))) (by rw [htl]; simp only [List.length_cons, List.length_nil]; omega) (by simp)) (fun v5 D5 hC5 hS5 => ?_)
  obtain ⟨rfl, hB5⟩ := hS5
  rw [htl] at hB5
  have hE5 := Ext.came (D := D3) (Y := [(b0, Obj.cells (refC r).toArray 48 (0, 0)), (b2, .cells #[vs [69]] 9 (0, 0)), (b4, .cells #[vs r.name] 9 (0, 0))]) (by simpa using hE4) hC5
  have hb0D5 : b0 ∉ keys D5 := fun hm => by
    rcases hC5.new b0 hm with h | ⟨h, -⟩
    · exact hb0D h
    · exact Nat.lt_irrefl _ (above_to h (by simp [keys]))
  have rd5 : readB w (D5 ++ [(b0, Obj.cells (refC r).toArray 48 (0, 0)), (b2, .cells #[vs [69]] 9 (0, 0)), (b4, .cells #[vs r.name] 9 (0, 0))]) b0 = some (.cells (refC r).toArray 48 (0, 0)) := read_look (by rw [look_app_r hb0D5]; exact look_same _ _ _)
  refine Ow.go rfl ?_
  simp (disch := (first | assumption | omega | (simp only [lenS, lenT, UInt64.reduceToNat]; try omega))) only [↓Sx.S0, Sx.S1, Tryz.fx, uWK_1, Nat.reduceAdd, Nat.reducePow, Int.reducePow, Nat.reduceBEq, ↓reduceIte, UInt8.reduceToNat, UInt16.reduceToNat, UInt32.reduceToNat, UInt64.reduceToNat, Int.reduceToNat]
  ((try with_reducible refine Cw.go [] ?_); (try simp (disch := (first | assumption | omega | (simp only [lenS, lenT, UInt64.reduceToNat]; try omega))) only [↓Sx.S0, Sx.S1, Tryz.fx, uWK_1, Nat.reduceAdd, Nat.reducePow, Int.reducePow, Nat.reduceBEq, ↓reduceIte, UInt8.reduceToNat, UInt16.reduceToNat, UInt32.reduceToNat, UInt64.reduceToNat, Int.reduceToNat, rd5]))
  refine Ow.buildSlice (e := 34) (a8 r.id.l) rfl rfl (slice_id r.id) fun b6 hb6 hw6 => ?_
  have hE6 := hE5.app (o := .cells (a8 r.id.l) 34 (0, 0)) hw6
  have hS6 : ∀ w', w'.heap[b6]? = some (.cells (a8 r.id.l) 34 (0, 0)) → RowS 32 idLC id0 w' (vsl b6 0 1 1) [r.id] b6 0 (a8 r.id.l) 34 (0, 0) := fun w' h => RowS.sl rfl h (by
    intro k hk j hj
    obtain rfl : k = 0 := by simpa using hk
    simp only [Nat.zero_mul, Nat.zero_add, List.getD_cons_zero]
    rw [← idLC_a8, List.getElem?_toArray])
  have hil := idsL_len [r.id]
  refine Ow.go rfl ?_
  simp (disch := (first | assumption | omega | (simp only [lenS, lenT, UInt64.reduceToNat]; try omega))) only [↓Sx.S0, Sx.S1, Tryz.fx, uWK_1, Nat.reduceAdd, Nat.reducePow, Int.reducePow, Nat.reduceBEq, ↓reduceIte, UInt8.reduceToNat, UInt16.reduceToNat, UInt32.reduceToNat, UInt64.reduceToNat, Int.reduceToNat]
  refine Ow.callX (Y := [(b0, .cells (refC r).toArray 48 (0, 0)), (b2, .cells #[vs [69]] 9 (0, 0)), (b4, .cells #[vs r.name] 9 (0, 0)), (b6, .cells (a8 r.id.l) 34 (0, 0))]) (by simp) rfl rfl Tryz.call24 (fun w' hw' hX hn => WId_spec b1 D5 _ _ b6 0 [r.id] _ _ _ w' hB5 hX hn (hS6 w' (hw'.has _ _ (List.mem_append_right _ List.mem_cons_self))) (fun _ hm => Nat.lt_irrefl _ (above_to hb6 (by rw [keys_app]; exact List.mem_append_left _ hm))) (by simp only [List.length_append, List.length_cons, List.length_nil]; omega)) (fun v7 D7 hC7 hS7 => ?_)
  obtain ⟨rfl, hB7⟩ := hS7
  have hE7 := Ext.came (D := D5) (Y := [(b0, Obj.cells (refC r).toArray 48 (0, 0)), (b2, .cells #[vs [69]] 9 (0, 0)), (b4, .cells #[vs r.name] 9 (0, 0)), (b6, .cells (a8 r.id.l) 34 (0, 0))]) (by simpa using hE6) hC7
  have hB8 := BldAt.app (Y := [(b0, Obj.cells (refC r).toArray 48 (0, 0)), (b2, .cells #[vs [69]] 9 (0, 0)), (b4, .cells #[vs r.name] 9 (0, 0)), (b6, .cells (a8 r.id.l) 34 (0, 0))]) hB7
  rw [show [69] ++ textL r.name ++ idsL [r.id] = entryB r by simp [idsL, entryB]] at hB8
  have hel : (entryB r).length = 1 + (textL r.name).length + r.id.l.length := by simp [entryB]; omega
  have hil2 := r.id.h
  generalize D7 ++ [(b0, Obj.cells (refC r).toArray 48 (0, 0)), (b2, .cells #[vs [69]] 9 (0, 0)), (b4, .cells #[vs r.name] 9 (0, 0)), (b6, .cells (a8 r.id.l) 34 (0, 0))] = D8 at *
  refine Ow.go rfl ?_
  simp (disch := (first | assumption | omega | (simp only [lenS, lenT, UInt64.reduceToNat]; try omega))) only [↓Sx.S0, Sx.S1, Tryz.fx, uWK_1, Nat.reduceAdd, Nat.reducePow, Int.reducePow, Nat.reduceBEq, ↓reduceIte, UInt8.reduceToNat, UInt16.reduceToNat, UInt32.reduceToNat, UInt64.reduceToNat, Int.reduceToNat]
  ((try with_reducible refine Cw.go [] ?_); (try simp (disch := (first | assumption | omega | (simp only [lenS, lenT, UInt64.reduceToNat]; try omega))) only [↓Sx.S0, Sx.S1, Tryz.fx, uWK_1, Nat.reduceAdd, Nat.reducePow, Int.reducePow, Nat.reduceBEq, ↓reduceIte, UInt8.reduceToNat, UInt16.reduceToNat, UInt32.reduceToNat, UInt64.reduceToNat, Int.reduceToNat]))
  refine Ow.callX (Y := []) (by simp) rfl rfl Tryz.call25 (fun w' hw' hX hn => record_spec b1 D8 (entryB r) w' (GlobC.ofE hG hE7 hw' (by simp [keys])) (hE7.not hg3 (by simp [keys])) hB8 hX hn (by omega)) (fun v9 D9 hC9 hS9 => ?_)
  subst hS9
  rw [List.append_nil]
  refine Ow.go rfl ?_
  simp (disch := (first | assumption | omega | (simp only [lenS, lenT, UInt64.reduceToNat]; try omega))) only [↓Sx.S0, Sx.S1, Tryz.fx, uWK_1, Nat.reduceAdd, Nat.reducePow, Int.reducePow, Nat.reduceBEq, ↓reduceIte, UInt8.reduceToNat, UInt16.reduceToNat, UInt32.reduceToNat, UInt64.reduceToNat, Int.reduceToNat]
  ((try with_reducible refine Cw.go [] ?_); (try simp (disch := (first | assumption | omega | (simp only [lenS, lenT, UInt64.reduceToNat]; try omega))) only [↓Sx.S0, Sx.S1, Tryz.fx, uWK_1, Nat.reduceAdd, Nat.reducePow, Int.reducePow, Nat.reduceBEq, ↓reduceIte, UInt8.reduceToNat, UInt16.reduceToNat, UInt32.reduceToNat, UInt64.reduceToNat, Int.reduceToNat]))
  refine ⟨_, (by simp (disch := (first | assumption | omega | (simp only [lenS, lenT, UInt64.reduceToNat]; try omega))) only [↓Sx.S0, Sx.S1, Tryz.fx, uWK_1, Nat.reduceAdd, Nat.reducePow, Int.reducePow, Nat.reduceBEq, ↓reduceIte, UInt8.reduceToNat, UInt16.reduceToNat, UInt32.reduceToNat, UInt64.reduceToNat, Int.reduceToNat]; rfl), ?_⟩
  exact ⟨hE7.came0 hC9, rfl⟩
end Go.Proofs
end
section
open Go Go.Proofs Go.Sx
namespace Go.Proofs
set_option maxRecDepth 10000
/-! ### Refs that are compared -/
theorem ref_ext (r : RefL) : (refC r).toArray.extract 1 33 = a8 r.id.l := by
  show (refC r).toArray.extract 1 33 = (r.id.l.map v8).toArray
  rw [List.extract_toArray]
  congr 1
  unfold refC
  rw [List.extract_eq_take_drop, List.drop_succ_cons, List.drop_zero, List.take_of_length_le (by simp [r.id.h])]
theorem stoodRef : Tryz.prog.stoodInHeld 48 = false := by kernel_rfl
theorem guardRef : Tryz.prog.eqGuardType Tryz.prog.depth 48 = false := by kernel_rfl
theorem aggStr : aggT Tryz.prog 9 = some (false, 1) := by kernel_rfl
theorem aggId : aggT Tryz.prog 34 = some (true, 32) := by kernel_rfl
theorem eqRef0 (r r' : RefL) : eqD Tryz.prog 8 48 (.agg (refC r).toArray) (.agg (refC r').toArray) = some (r.name == r'.name && r.id.l == r'.id.l) := by
  have hn : eqD Tryz.prog 7 9 (vs r.name) (vs r'.name) = some (r.name == r'.name) := by
    unfold eqD
    rw [Tryz.underlying9]
    simp only [vs, bs_beq]
  have hi : eqD Tryz.prog 7 34 (.agg (a8 r.id.l)) (.agg (a8 r'.id.l)) = some (r.id.l == r'.id.l) :=
    eqD_a8 (d := 5) Tryz.underlying34 Tryz.underlying5 Tryz.ag5 _ _ r.id.h r'.id.h
  unfold eqD
  rw [Tryz.underlying48]
  simp only
  rw [stoodRef]
  have p0 : ∀ (r : RefL), partV (false, 1) (refC r).toArray 0 = some (vs r.name) := fun r => rfl
  have p1 : ∀ (r : RefL), partV (true, 32) (refC r).toArray 1 = some (.agg (a8 r.id.l)) := fun r => by
    show some (Value.agg ((refC r).toArray.extract 1 33)) = _
    rw [ref_ext]
  simp only [Bool.false_eq_true, ↓reduceIte, eqFieldsV, aggStr, aggId, eqPartV, p0, p1, hn, hi]
  cases (r.name == r'.name) <;> cases (r.id.l == r'.id.l) <;> simp
theorem neRef (r r' : RefL) : binX Tryz.prog .neq 48 (.agg (refC r).toArray) (.agg (refC r').toArray) = some (.bool (!(r.name == r'.name && r.id.l == r'.id.l))) := by
  unfold binX eqX
  rw [guardRef]
  simp [plainV, eqRef0]
end Go.Proofs
end
section
open Go Go.Proofs Go.Sx
namespace Go.Proofs
set_option maxRecDepth 10000
set_option maxHeartbeats 4000000
set_option linter.unusedSimpArgs false
def keyR (r : RefL) : List UInt8 × List UInt8 := (r.name, r.id.l)
/-- The same refs? -/
def sameR (a b : List RefL) : Bool := a.map keyR == b.map keyR
theorem sameR_no {a b : List RefL} {i : Nat} (ha : i < a.length) (hb : i < b.length) (h : (((a.getD i ref0).name == (b.getD i ref0).name) && ((a.getD i ref0).id.l == (b.getD i ref0).id.l)) = false) : sameR a b = false := by
  unfold sameR
  rw [beq_eq_false_iff_ne]
  intro e
  have := congrArg (·[i]?) e
  simp only [List.getElem?_map, List.getElem?_eq_getElem ha, List.getElem?_eq_getElem hb, Option.map_some, Option.some.injEq, keyR, Prod.mk.injEq] at this
  rw [List.getD_eq_getElem?_getD, List.getD_eq_getElem?_getD, List.getElem?_eq_getElem ha, List.getElem?_eq_getElem hb] at h
  simp [this.1, this.2] at h
theorem sameR_yes {a b : List RefL} (hl : a.length = b.length) (h : ∀ i, i < a.length → (((a.getD i ref0).name == (b.getD i ref0).name) && ((a.getD i ref0).id.l == (b.getD i ref0).id.l)) = true) : sameR a b = true := by
  unfold sameR
  rw [beq_iff_eq]
  apply List.ext_getElem?
  intro i
  rw [List.getElem?_map, List.getElem?_map]
  by_cases hi : i < a.length
  · have hi' : i < b.length := by omega
    have := h i hi
    rw [List.getD_eq_getElem?_getD, List.getD_eq_getElem?_getD, List.getElem?_eq_getElem hi, List.getElem?_eq_getElem hi'] at this
    simp only [Option.getD_some, Bool.and_eq_true, beq_iff_eq] at this
    rw [List.getElem?_eq_getElem hi, List.getElem?_eq_getElem hi']
    simp [keyR, this.1, this.2]
  · rw [List.getElem?_eq_none (by omega), List.getElem?_eq_none (by omega)]
set_option linter.defProp false
def uWM_1 := And.intro (And.intro (@rdIn_v8) (And.intro (@rdIn_v16) (@rdIn_v32))) (And.intro (@rdIn_v64) (And.intro (@rdIn_vi) (@neRef)))
theorem SameRefs_spec (x y : Value) (b1 o1 b2 o2 : Nat) (l1 l2 : List RefL) (a1 a2 : Array Value) (E1 E2 : TypeId) (f1 f2 : Nat × Nat) (w : World) (h1 : RowS 33 refC ref0 w x l1 b1 o1 a1 E1 f1) (h2 : RowS 33 refC ref0 w y l2 b2 o2 a2 E2 f2) (hl1 : l1.length < 1000000) (_hl2 : l2.length < 1000000) :
    Rets Tryz.prog 12 #[x, y] w (fun v D => v = .bool (sameR l1 l2) ∧ D = []) := by
  refine Rets.enterV Tryz.func12 rfl (rs := [.tmp 4]) Tryz.results12 Tryz.ntmps12 ?_
  simp only [List.size_toArray, List.length_cons, List.length_nil, Nat.reduceAdd, Nat.reduceSub, List.replicate_succ, List.replicate_zero, List.cons_append, List.nil_append]
  ((try with_reducible refine Cw.go [] ?_); (try simp (disch := (first | assumption | omega | (simp only [lenS, lenT, UInt64.reduceToNat]; try omega))) only [↓Sx.S0, Sx.S1, Tryz.fx, uWM_1, Nat.reduceAdd, Nat.reducePow, Int.reducePow, Nat.reduceBEq, ↓reduceIte, UInt8.reduceToNat, UInt16.reduceToNat, UInt32.reduceToNat, UInt64.reduceToNat, Int.reduceToNat, h1.len, h2.len]))
  by_cases hle : l1.length = l2.length
  · ((try with_reducible refine Cw.go [] ?_); (try simp (disch := (first | assumption | omega | (simp only [lenS, lenT, UInt64.reduceToNat]; try omega))) only [↓Sx.S0, Sx.S1, Tryz.fx, uWM_1, Nat.reduceAdd, Nat.reducePow, Int.reducePow, Nat.reduceBEq, ↓reduceIte, UInt8.reduceToNat, UInt16.reduceToNat, UInt32.reduceToNat, UInt64.reduceToNat, Int.reduceToNat, h1.len, h2.len]))
    refine Cw.loopG (G := Nat) [11, 12, 13, 14, 17, 18, 19, 20, 21, 22, 23, 24, 25, 4, 15, 16, 5] (fun g => [(5, vi g)]) (fun g => []) (fun g => g ≤ l1.length ∧ ∀ i, i < g → (((l1.getD i ref0).name == (l2.getD i ref0).name) && ((l1.getD i ref0).id.l == (l2.getD i ref0).id.l)) = true) (fun g => l1.length - g) 0 rfl rfl ?_ ?_
    · exact ⟨by omega, fun i hi => by omega⟩
    intro g j hg
    simp only [overFrom, pin, setF_0, setF_s, List.contains_cons, List.contains_nil, Nat.reduceBEq, Bool.or_false, Bool.false_or, Bool.or_true, Bool.true_or, Nat.reduceAdd, ↓reduceIte, Bool.false_eq_true]
    obtain ⟨hgL, hgood⟩ := hg
    by_cases hlt : g < l1.length
    · have hlt2 : g < l2.length := by omega
      have hb1 := h1.has (by omega)
      have hb2 := h2.has (by omega)
      have ld1 := h1.load refC_len (by omega) hlt
      have ld2 := h2.load refC_len (by omega) hlt2
      ((try with_reducible refine Cw.go [] ?_); (try simp (disch := (first | assumption | omega | (simp only [lenS, lenT, UInt64.reduceToNat]; try omega))) only [↓Sx.S0, Sx.S1, Tryz.fx, uWM_1, Nat.reduceAdd, Nat.reducePow, Int.reducePow, Nat.reduceBEq, ↓reduceIte, UInt8.reduceToNat, UInt16.reduceToNat, UInt32.reduceToNat, UInt64.reduceToNat, Int.reduceToNat, h1.len]))
      refine Cw.regionS [b1, b2] [0, 1, 2, 4, 5, 6, 3, 7, 8] [] (by kernel_rfl) (by kernel_rfl) (by kernel_rfl) ?_
      simp only [nl_cons, ↓pickL_nil, ↓pickL_cons, ↓nthO_0, ↓nthO_s, consO_some]
      refine Ow.goQ ?_
      simp (disch := (first | assumption | omega | (simp only [lenS, lenT, UInt64.reduceToNat]; try omega))) only [↓Sx.S0, Sx.S1, Tryz.fx, uWM_1, Nat.reduceAdd, Nat.reducePow, Int.reducePow, Nat.reduceBEq, ↓reduceIte, UInt8.reduceToNat, UInt16.reduceToNat, UInt32.reduceToNat, UInt64.reduceToNat, Int.reduceToNat, h1.idx, h2.idx, hb1, hb2, ld1, ld2]
      try with_reducible refine Ow.nil ?_
      cases hq : (((l1.getD g ref0).name == (l2.getD g ref0).name) && ((l1.getD g ref0).id.l == (l2.getD g ref0).id.l))
      · ((try with_reducible refine Cw.go [] ?_); (try simp (disch := (first | assumption | omega | (simp only [lenS, lenT, UInt64.reduceToNat]; try omega))) only [↓Sx.S0, Sx.S1, Tryz.fx, uWM_1, Nat.reduceAdd, Nat.reducePow, Int.reducePow, Nat.reduceBEq, ↓reduceIte, UInt8.reduceToNat, UInt16.reduceToNat, UInt32.reduceToNat, UInt64.reduceToNat, Int.reduceToNat]))
        refine ⟨_, (by simp (disch := (first | assumption | omega | (simp only [lenS, lenT, UInt64.reduceToNat]; try omega))) only [↓Sx.S0, Sx.S1, Tryz.fx, uWM_1, Nat.reduceAdd, Nat.reducePow, Int.reducePow, Nat.reduceBEq, ↓reduceIte, UInt8.reduceToNat, UInt16.reduceToNat, UInt32.reduceToNat, UInt64.reduceToNat, Int.reduceToNat]; rfl), trivial, ?_⟩
        rw [sameR_no hlt hlt2 hq]; rfl
      · ((try with_reducible refine Cw.go [] ?_); (try simp (disch := (first | assumption | omega | (simp only [lenS, lenT, UInt64.reduceToNat]; try omega))) only [↓Sx.S0, Sx.S1, Tryz.fx, uWM_1, Nat.reduceAdd, Nat.reducePow, Int.reducePow, Nat.reduceBEq, ↓reduceIte, UInt8.reduceToNat, UInt16.reduceToNat, UInt32.reduceToNat, UInt64.reduceToNat, Int.reduceToNat]))
        refine Again.mk (g + 1) (by omega) ⟨by omega, fun i hi => ?_⟩ rfl rfl
        by_cases hig : i = g
        · rw [hig]; exact hq
        · exact hgood i (by omega)
    · obtain rfl : g = l1.length := by omega
      ((try with_reducible refine Cw.go [] ?_); (try simp (disch := (first | assumption | omega | (simp only [lenS, lenT, UInt64.reduceToNat]; try omega))) only [↓Sx.S0, Sx.S1, Tryz.fx, uWM_1, Nat.reduceAdd, Nat.reducePow, Int.reducePow, Nat.reduceBEq, ↓reduceIte, UInt8.reduceToNat, UInt16.reduceToNat, UInt32.reduceToNat, UInt64.reduceToNat, Int.reduceToNat, h1.len]))
      rw [sameR_yes hle hgood]
      refine ⟨_, (by simp (disch := (first | assumption | omega | (simp only [lenS, lenT, UInt64.reduceToNat]; try omega))) only [↓Sx.S0, Sx.S1, Tryz.fx, uWM_1, Nat.reduceAdd, Nat.reducePow, Int.reducePow, Nat.reduceBEq, ↓reduceIte, UInt8.reduceToNat, UInt16.reduceToNat, UInt32.reduceToNat, UInt64.reduceToNat, Int.reduceToNat]; rfl), trivial, ?_⟩
      rfl
  · ((try with_reducible refine Cw.go [] ?_); (try simp (disch := (first | assumption | omega | (simp only [lenS, lenT, UInt64.reduceToNat]; try omega))) only [↓Sx.S0, Sx.S1, Tryz.fx, uWM_1, Nat.reduceAdd, Nat.reducePow, Int.reducePow, Nat.reduceBEq, ↓reduceIte, UInt8.reduceToNat, UInt16.reduceToNat, UInt32.reduceToNat, UInt64.reduceToNat, Int.reduceToNat]))
    have : sameR l1 l2 = false := by
      unfold sameR
      rw [beq_eq_false_iff_ne]
      intro e
      exact hle (by simpa using congrArg List.length e)
    rw [this]
    refine ⟨_, (by simp (disch := (first | assumption | omega | (simp only [lenS, lenT, UInt64.reduceToNat]; try omega))) only [↓Sx.S0, Sx.S1, Tryz.fx, uWM_1, Nat.reduceAdd, Nat.reducePow, Int.reducePow, Nat.reduceBEq, ↓reduceIte, UInt8.reduceToNat, UInt16.reduceToNat, UInt32.reduceToNat, UInt64.reduceToNat, Int.reduceToNat]; rfl), trivial, ?_⟩
    rfl
end Go.Proofs
end
namespace Go.Sx
open Go
/-- Is a text less than another one? -/
abbrev ltB (a b : List UInt8) : Bool := Op.bytesLess a b
theorem ltB_eq : ∀ (x y : List UInt8), ltB x y = decide (x < y)
  | [], [] => by simp [ltB, Op.bytesLess]
  | _ :: _, [] => by simp [ltB, Op.bytesLess]
  | [], _ :: _ => by simp [ltB, Op.bytesLess]
  | a :: x, b :: y => by
    have ih := ltB_eq x y
    simp only [ltB] at ih ⊢
    rw [Op.bytesLess, ih]
    simp only [List.cons_lt_cons_iff]
    by_cases h1 : a < b <;> by_cases h2 : a = b <;> by_cases h3 : x < y <;> simp [h1, h2, h3]
theorem ltB_irrefl (a : List UInt8) : ltB a a = false := by
  rw [ltB_eq]; simp
theorem ltB_trans {a b c : List UInt8} (h : ltB a b = true) (k : ltB b c = true) : ltB a c = true := by
  rw [ltB_eq, decide_eq_true_eq] at *
  exact List.lt_trans h k
theorem ltB_asymm {a b : List UInt8} (h : ltB a b = true) : ltB b a = false := by
  cases hb : ltB b a
  · rfl
  · have := ltB_trans h hb
    rw [ltB_irrefl] at this; cases this
theorem ltB_ne {a b : List UInt8} (h : ltB a b = true) : a ≠ b := by
  rintro rfl
  rw [ltB_irrefl] at h; cases h
theorem ltB_total {a b : List UInt8} (h : ltB a b = false) (hne : a ≠ b) : ltB b a = true := by
  rw [ltB_eq, decide_eq_false_iff_not] at h
  rw [ltB_eq, decide_eq_true_eq]
  rcases Std.Trichotomous.rel_or_eq_or_rel_swap (r := (· < · : List UInt8 → List UInt8 → Prop)) (a := a) (b := b) with h1 | h1 | h1
  · exact absurd h1 h
  · exact absurd h1 hne
  · exact h1
end Go.Sx
namespace Go.RefP
open Go Go.Sx
abbrev Pr := List UInt8 × List UInt8
def zp : Pr := ([], [])
/-- A name is given a value, or taken away: in a map. -/
def setM (z : List UInt8) (r : Pr) (m : Vals) : Vals := if r.2 == z then delV r.1 (updV r.1 r.2 m) else updV r.1 r.2 m
/-- The same, in a rising list. -/
def setGo (x : Pr) : Vals → Bool → Vals
  | [], dn => if dn then [] else [x]
  | p :: r, dn => if p.1 == x.1 then setGo x r dn else if !dn && !(ltB p.1 x.1 || p.1 == x.1) then x :: p :: setGo x r true else p :: setGo x r dn
def setL (z : List UInt8) (l : Vals) (x : Pr) : Vals := setGo x l (x.2 == z)
def Rising (l : Vals) : Prop := l.Pairwise fun a b => ltB a.1 b.1 = true
def KeysNd (m : Vals) : Prop := (m.map Prod.fst).Nodup
theorem Rising.nd {l : Vals} (h : Rising l) : KeysNd l := by
  unfold KeysNd List.Nodup
  rw [List.pairwise_map]
  exact List.Pairwise.imp (fun hab => ltB_ne hab) h
/-- All but a name. -/
def but (k : List UInt8) (m : Vals) : Vals := m.filter fun p => !(p.1 == k)
theorem but_none {k : List UInt8} {m : Vals} (h : k ∉ m.map Prod.fst) : but k m = m := by
  unfold but
  refine List.filter_eq_self.2 fun p hp => ?_
  have : p.1 ≠ k := fun e => h (List.mem_map.2 ⟨p, hp, e⟩)
  simp [this]
theorem but_notin (k : List UInt8) (m : Vals) : k ∉ (but k m).map Prod.fst := by
  intro h
  obtain ⟨p, hp, rfl⟩ := List.mem_map.1 h
  simp [but] at hp
theorem updV_perm {k v : List UInt8} : ∀ {m : Vals}, KeysNd m → (updV k v m).Perm ((k, v) :: but k m)
  | [], _ => List.Perm.refl _
  | p :: r, h => by
    simp only [KeysNd, List.map_cons, List.nodup_cons] at h
    unfold updV
    cases hk : (k == p.1)
    · simp only [Bool.false_eq_true, ↓reduceIte]
      have hk' : (p.1 == k) = false := by
        rw [beq_eq_false_iff_ne] at hk ⊢; exact fun e => hk e.symm
      have ih := updV_perm (k := k) (v := v) (m := r) h.2
      have : but k (p :: r) = p :: but k r := by unfold but; rw [List.filter_cons]; simp [hk']
      rw [this]
      exact (List.Perm.cons p ih).trans (List.Perm.swap _ _ _)
    · simp only [↓reduceIte]
      have e : k = p.1 := by simpa using hk
      subst e
      have : but p.1 (p :: r) = r := by
        have h2 := but_none h.1
        unfold but at h2 ⊢; rw [List.filter_cons]; simp [h2]
      rw [this]
theorem updV_nd {k v : List UInt8} {m : Vals} (h : KeysNd m) : KeysNd (updV k v m) := by
  have hp := (updV_perm (k := k) (v := v) h).map Prod.fst
  refine (List.Perm.nodup_iff hp).2 ?_
  simp only [List.map_cons, List.nodup_cons]
  refine ⟨but_notin k m, ?_⟩
  exact List.Nodup.sublist (List.Sublist.map _ List.filter_sublist) h
theorem delV_eq {k : List UInt8} : ∀ {m : Vals}, KeysNd m → delV k m = but k m
  | [], _ => rfl
  | p :: r, h => by
    simp only [KeysNd, List.map_cons, List.nodup_cons] at h
    unfold delV
    cases hk : (k == p.1)
    · have hk' : (p.1 == k) = false := by
        rw [beq_eq_false_iff_ne] at hk ⊢; exact fun e => hk e.symm
      simp only [Bool.false_eq_true, ↓reduceIte, delV_eq h.2]
      unfold but; rw [List.filter_cons]; simp [hk']
    · have e : k = p.1 := by simpa using hk
      subst e
      simp only [↓reduceIte]
      have h2 := but_none h.1
      unfold but at h2 ⊢; rw [List.filter_cons]; simp [h2]
theorem but_upd {k v : List UInt8} {m : Vals} (h : KeysNd m) : (but k (updV k v m)).Perm (but k m) := by
  have hp := (updV_perm (k := k) (v := v) h).filter fun p => !(p.1 == k)
  have e1 : List.filter (fun p => !(p.1 == k)) ((k, v) :: but k m) = but k m := by
    rw [List.filter_cons]
    simp only [beq_self_eq_true, Bool.not_true, Bool.false_eq_true, ↓reduceIte]
    exact but_none (but_notin k m)
  rw [e1] at hp
  exact hp
theorem setM_perm {z : List UInt8} {r : Pr} {m : Vals} (h : KeysNd m) : (setM z r m).Perm (if r.2 == z then but r.1 m else r :: but r.1 m) := by
  unfold setM
  split
  · rw [delV_eq (updV_nd h)]; exact but_upd h
  · exact updV_perm h
/-! ### the rising list -/
theorem setGo_done (x : Pr) : ∀ (l : Vals), setGo x l true = but x.1 l
  | [] => rfl
  | p :: r => by
    unfold setGo
    cases h : (p.1 == x.1)
    · simp only [Bool.false_eq_true, ↓reduceIte, Bool.not_true, Bool.false_and, setGo_done x r]
      unfold but; rw [List.filter_cons]; simp [h]
    · simp only [↓reduceIte, setGo_done x r]
      unfold but; rw [List.filter_cons]; simp [h]
theorem setGo_perm (x : Pr) : ∀ (l : Vals), (setGo x l false).Perm (x :: but x.1 l)
  | [] => List.Perm.refl _
  | p :: r => by
    unfold setGo
    cases h : (p.1 == x.1)
    · have e : but x.1 (p :: r) = p :: but x.1 r := by unfold but; rw [List.filter_cons]; simp [h]
      simp only [Bool.false_eq_true, ↓reduceIte, Bool.not_false, Bool.true_and, Bool.or_false]
      rw [e]
      split
      · rw [setGo_done]
      · exact (List.Perm.cons p (setGo_perm x r)).trans (List.Perm.swap _ _ _)
    · have e : but x.1 (p :: r) = but x.1 r := by unfold but; rw [List.filter_cons]; simp [h]
      simp only [↓reduceIte]
      rw [e]
      exact setGo_perm x r
theorem setL_perm (z : List UInt8) (l : Vals) (x : Pr) : (setL z l x).Perm (if x.2 == z then but x.1 l else x :: but x.1 l) := by
  unfold setL
  cases x.2 == z
  · exact setGo_perm x l
  · rw [setGo_done]; exact List.Perm.refl _
theorem but_rising {k : List UInt8} {l : Vals} (h : Rising l) : Rising (but k l) := List.Pairwise.sublist List.filter_sublist h
theorem mem_setGo {x p : Pr} {l : Vals} (h : p ∈ setGo x l false) : p = x ∨ p ∈ l := by
  have := (setGo_perm x l).mem_iff.1 h
  rcases List.mem_cons.1 this with rfl | h2
  · exact .inl rfl
  · exact .inr (List.mem_filter.1 h2).1
theorem setGo_rising (x : Pr) : ∀ {l : Vals}, Rising l → Rising (setGo x l false)
  | [], _ => List.pairwise_singleton _ _
  | p :: r, h => by
    have h' := List.pairwise_cons.1 h
    unfold setGo
    cases hk : (p.1 == x.1)
    · simp only [Bool.false_eq_true, ↓reduceIte, Bool.not_false, Bool.true_and, Bool.or_false]
      have hne : p.1 ≠ x.1 := by simpa using hk
      cases hl : ltB p.1 x.1
      · have hx := ltB_total hl hne
        simp only [Bool.not_false, ↓reduceIte]
        rw [setGo_done]
        refine List.pairwise_cons.2 ⟨?_, List.pairwise_cons.2 ⟨?_, but_rising h'.2⟩⟩
        · intro q hq
          rcases List.mem_cons.1 hq with rfl | hq
          · exact hx
          · exact ltB_trans hx (h'.1 q (List.mem_filter.1 hq).1)
        · intro q hq
          exact h'.1 q (List.mem_filter.1 hq).1
      · simp only [Bool.not_true, Bool.false_eq_true, ↓reduceIte]
        refine List.pairwise_cons.2 ⟨?_, setGo_rising x h'.2⟩
        intro q hq
        rcases mem_setGo hq with rfl | hq
        · exact hl
        · exact h'.1 q hq
    · simp only [↓reduceIte]
      exact setGo_rising x h'.2
theorem setL_rising {z : List UInt8} {l : Vals} {x : Pr} (h : Rising l) : Rising (setL z l x) := by
  unfold setL
  cases x.2 == z
  · exact setGo_rising x h
  · rw [setGo_done]; exact but_rising h
/-- A map and a rising list hold the same. -/
def Rel (m l : Vals) : Prop := m.Perm l ∧ Rising l
theorem Rel.nd {m l : Vals} (h : Rel m l) : KeysNd m := (List.Perm.nodup_iff (h.1.map Prod.fst)).2 h.2.nd
theorem Rel.set {z : List UInt8} {m l : Vals} {x : Pr} (h : Rel m l) : Rel (setM z x m) (setL z l x) := by
  refine ⟨?_, setL_rising h.2⟩
  have hb : (but x.1 m).Perm (but x.1 l) := h.1.filter _
  refine (setM_perm h.nd).trans (List.Perm.trans ?_ (setL_perm z l x).symm)
  split
  · exact hb
  · exact List.Perm.cons _ hb
/-! ### books -/
/-- Is a table's entry as it may be? -/
def tabOk (nm : List UInt8 → Bool) (z : List UInt8) (t : Vals) (g : Nat) : Bool :=
  nm (t.getD g zp).1 && !((t.getD g zp).2 == z) && (g == 0 || ltB (t.getD (g - 1) zp).1 (t.getD g zp).1)
/-- The program's values: behind some of the table. -/
def tabM (nm : List UInt8 → Bool) (z : List UInt8) (t : Vals) : Nat → Option Vals
  | 0 => some []
  | g + 1 => (tabM nm z t g).bind fun m => if (tabOk nm z t g && decide ((setM z (t.getD g zp) m).length ≤ 16)) = true then some (setM z (t.getD g zp) m) else none
def logM (nm : List UInt8 → Bool) (z : List UInt8) (l : Vals) (m0 : Vals) : Nat → Option Vals
  | 0 => some m0
  | g + 1 => (logM nm z l m0 g).bind fun m => if (nm (l.getD g zp).1 && decide ((setM z (l.getD g zp) m).length ≤ 16)) = true then some (setM z (l.getD g zp) m) else none
def ofM (nm : List UInt8 → Bool) (z : List UInt8) (t l : Vals) (k : Nat) : Option Vals := (tabM nm z t t.length).bind fun m => logM nm z l m k
/-- The document's. -/
def logL (nm : List UInt8 → Bool) (z : List UInt8) (l : Vals) (m0 : Vals) : Nat → Option Vals
  | 0 => some m0
  | g + 1 => (logL nm z l m0 g).bind fun m => if (nm (l.getD g zp).1 && decide ((setL z m (l.getD g zp)).length ≤ 16)) = true then some (setL z m (l.getD g zp)) else none
def tabAll (nm : List UInt8 → Bool) (z : List UInt8) (t : Vals) : Bool := (List.range t.length).all (tabOk nm z t)
def ofL (nm : List UInt8 → Bool) (z : List UInt8) (t l : Vals) (k : Nat) : Option Vals :=
  if t.length ≤ 16 ∧ l.length ≤ 100 ∧ tabAll nm z t = true then logL nm z l t k else none
theorem logM_stop {nm : List UInt8 → Bool} {z : List UInt8} {l m0 : Vals} {g : Nat} (h : logM nm z l m0 g = none) : ∀ k, g ≤ k → logM nm z l m0 k = none := by
  intro k hk
  induction hk with
  | refl => exact h
  | step _ ih => unfold logM; rw [ih]; rfl
theorem tabM_stop {nm : List UInt8 → Bool} {z : List UInt8} {t : Vals} {g : Nat} (h : tabM nm z t g = none) : ∀ k, g ≤ k → tabM nm z t k = none := by
  intro k hk
  induction hk with
  | refl => exact h
  | step _ ih => unfold tabM; rw [ih]; rfl
/-- What stands at a table's beginning, if all there may be. -/
theorem take_rising {nm : List UInt8 → Bool} {z : List UInt8} {t : Vals} : ∀ (g : Nat), g ≤ t.length → (∀ i, i < g → tabOk nm z t i = true) → Rising (t.take g) ∧ (0 < g → ∀ p, p ∈ t.take (g - 1) → ltB p.1 (t.getD (g - 1) zp).1 = true)
  | 0, _, _ => ⟨by simp [Rising], fun h => by omega⟩
  | g + 1, hg, h => by
    have ih := take_rising (nm := nm) (z := z) (t := t) g (by omega) (fun i hi => h i (by omega))
    have hlt : g < t.length := by omega
    have e : t.take (g + 1) = t.take g ++ [t.getD g zp] := by
      rw [List.take_add_one, List.getElem?_eq_getElem hlt, List.getD_eq_getElem?_getD, List.getElem?_eq_getElem hlt]; rfl
    have key : ∀ p, p ∈ t.take g → ltB p.1 (t.getD g zp).1 = true := by
      intro p hp
      cases g with
      | zero => simp at hp
      | succ k =>
        have hk : k < t.length := by omega
        have h1 := h (k + 1) (by omega)
        unfold tabOk at h1
        simp only [Bool.and_eq_true, Bool.or_eq_true, Nat.add_sub_cancel] at h1
        have h2 : ltB (t.getD k zp).1 (t.getD (k + 1) zp).1 = true := by
          rcases h1.2 with h3 | h3
          · simp at h3
          · exact h3
        have e2 : t.take (k + 1) = t.take k ++ [t.getD k zp] := by
          rw [List.take_add_one, List.getElem?_eq_getElem hk, List.getD_eq_getElem?_getD, List.getElem?_eq_getElem hk]; rfl
        rw [e2] at hp
        rcases List.mem_append.1 hp with hp | hp
        · exact ltB_trans (ih.2 (by omega) p hp) h2
        · rw [List.mem_singleton.1 hp]; exact h2
    refine ⟨?_, fun _ => key⟩
    rw [e]
    refine List.pairwise_append.2 ⟨ih.1, List.pairwise_singleton _ _, ?_⟩
    intro a ha b hb
    rw [List.mem_singleton.1 hb]
    exact key a ha
theorem updV_new {k v : List UInt8} : ∀ {m : Vals}, k ∉ m.map Prod.fst → updV k v m = m ++ [(k, v)]
  | [], _ => rfl
  | p :: r, h => by
    simp only [List.map_cons, List.mem_cons, not_or] at h
    unfold updV
    rw [if_neg (by simpa using h.1), updV_new h.2]; rfl
theorem tabM_eq {nm : List UInt8 → Bool} {z : List UInt8} {t : Vals} : ∀ (g : Nat), g ≤ t.length → tabM nm z t g = if g ≤ 16 ∧ (∀ i, i < g → tabOk nm z t i = true) then some (t.take g) else none
  | 0, _ => by simp [tabM]
  | g + 1, hg => by
    have hlt : g < t.length := by omega
    have ih := tabM_eq (nm := nm) (z := z) (t := t) g (by omega)
    unfold tabM
    rw [ih]
    by_cases h : g ≤ 16 ∧ (∀ i, i < g → tabOk nm z t i = true)
    · rw [if_pos h, Option.bind_some]
      cases ht : tabOk nm z t g
      · rw [Bool.false_and, if_neg (by simp), if_neg]
        intro h2; rw [h2.2 g (by omega)] at ht; cases ht
      · have hall : ∀ i, i < g + 1 → tabOk nm z t i = true := by
          intro i hi
          by_cases e : i = g
          · rw [e]; exact ht
          · exact h.2 i (by omega)
        have hr := take_rising (nm := nm) (z := z) (t := t) (g + 1) hg hall
        have hnew : (t.getD g zp).1 ∉ (t.take g).map Prod.fst := by
          intro hm
          obtain ⟨p, hp, e⟩ := List.mem_map.1 hm
          exact ltB_ne (hr.2 (by omega) p hp) e
        have hz : ((t.getD g zp).2 == z) = false := by
          unfold tabOk at ht
          simp only [Bool.and_eq_true, Bool.not_eq_true'] at ht
          exact ht.1.2
        have hs : setM z (t.getD g zp) (t.take g) = t.take (g + 1) := by
          unfold setM
          rw [hz, if_neg (by simp), updV_new hnew, List.take_add_one, List.getElem?_eq_getElem hlt, List.getD_eq_getElem?_getD, List.getElem?_eq_getElem hlt]; rfl
        rw [hs, Bool.true_and]
        have hl : (t.take (g + 1)).length = g + 1 := by simp; omega
        rw [hl]
        by_cases h6 : g + 1 ≤ 16
        · rw [if_pos (by simpa using h6), if_pos ⟨h6, hall⟩]
        · rw [if_neg (by simpa using h6), if_neg (fun h2 => h6 h2.1)]
    · rw [if_neg h, if_neg]
      · rfl
      · intro h2; exact h ⟨by omega, fun i hi => h2.2 i (by omega)⟩
theorem logs_rel {nm : List UInt8 → Bool} {z : List UInt8} {l m0 l0 : Vals} (h : Rel m0 l0) : ∀ (k : Nat), (logM nm z l m0 k = none ∧ logL nm z l l0 k = none) ∨ ∃ m d, logM nm z l m0 k = some m ∧ logL nm z l l0 k = some d ∧ Rel m d
  | 0 => .inr ⟨_, _, rfl, rfl, h⟩
  | k + 1 => by
    unfold logM logL
    rcases logs_rel h k with ⟨h1, h2⟩ | ⟨m, d, h1, h2, hr⟩
    · rw [h1, h2]; exact .inl ⟨rfl, rfl⟩
    · rw [h1, h2]
      simp only [Option.bind_some]
      have hs : Rel (setM z (l.getD k zp) m) (setL z d (l.getD k zp)) := hr.set
      rw [hs.1.length_eq]
      split
      · exact .inr ⟨_, _, rfl, rfl, hs⟩
      · exact .inl ⟨rfl, rfl⟩
/-- The program's values are the document's. -/
theorem of_rel (nm : List UInt8 → Bool) (z : List UInt8) (t l : Vals) (hl : l.length ≤ 100) (k : Nat) :
    (ofM nm z t l k = none ∧ ofL nm z t l k = none) ∨ ∃ m d, ofM nm z t l k = some m ∧ ofL nm z t l k = some d ∧ Rel m d := by
  unfold ofM ofL
  rw [tabM_eq t.length (Nat.le_refl _)]
  have hall : tabAll nm z t = true ↔ ∀ i, i < t.length → tabOk nm z t i = true := by
    unfold tabAll; rw [List.all_eq_true]; simp
  by_cases h : t.length ≤ 16 ∧ (∀ i, i < t.length → tabOk nm z t i = true)
  · rw [if_pos h, if_pos ⟨h.1, hl, hall.2 h.2⟩, Option.bind_some, List.take_length]
    have hr := (take_rising t.length (Nat.le_refl _) h.2).1
    rw [List.take_length] at hr
    exact logs_rel ⟨List.Perm.refl _, hr⟩ k
  · rw [if_neg h, if_neg (fun h2 => h ⟨h2.1, hall.1 h2.2.2⟩)]
    exact .inl ⟨rfl, rfl⟩
def rightM (nm : List UInt8 → Bool) (z : List UInt8) (t l : Vals) : Bool := (ofM nm z t l l.length).isSome && decide (l.length ≤ 100)
def rightL (nm : List UInt8 → Bool) (z : List UInt8) (t l : Vals) : Bool := (ofL nm z t l l.length).isSome
theorem right_eq (nm : List UInt8 → Bool) (z : List UInt8) (t l : Vals) : rightM nm z t l = rightL nm z t l := by
  unfold rightM rightL
  by_cases hl : l.length ≤ 100
  · rcases of_rel nm z t l hl l.length with ⟨h1, h2⟩ | ⟨m, d, h1, h2, -⟩ <;> rw [h1, h2] <;> simp [hl]
  · rw [show ofL nm z t l l.length = none by unfold ofL; rw [if_neg (fun h => hl h.2.1)]]
    simp [hl]
/-! ### all ids have their length -/
theorem mem_updV {k v : List UInt8} : ∀ {m : Vals} {p : Pr}, p ∈ updV k v m → p.2 = v ∨ p ∈ m
  | [], p, h => by simp only [updV, List.mem_singleton] at h; exact .inl (by rw [h])
  | q :: r, p, h => by
    unfold updV at h
    split at h
    · rcases List.mem_cons.1 h with rfl | h
      · exact .inl rfl
      · exact .inr (List.mem_cons_of_mem _ h)
    · rcases List.mem_cons.1 h with rfl | h
      · exact .inr List.mem_cons_self
      · rcases mem_updV h with h | h
        · exact .inl h
        · exact .inr (List.mem_cons_of_mem _ h)
theorem mem_delV {k : List UInt8} : ∀ {m : Vals} {p : Pr}, p ∈ delV k m → p ∈ m
  | [], _, h => h
  | q :: r, p, h => by
    unfold delV at h
    split at h
    · exact List.mem_cons_of_mem _ h
    · rcases List.mem_cons.1 h with rfl | h
      · exact List.mem_cons_self
      · exact List.mem_cons_of_mem _ (mem_delV h)
theorem mem_setM {z : List UInt8} {r p : Pr} {m : Vals} (h : p ∈ setM z r m) : p.2 = r.2 ∨ p ∈ m := by
  unfold setM at h
  split at h
  · exact mem_updV (mem_delV h)
  · exact mem_updV h
def AllLen (m : Vals) : Prop := ∀ p, p ∈ m → p.2.length = 32
theorem AllLen.set {z : List UInt8} {r : Pr} {m : Vals} (h : AllLen m) (hr : r.2.length = 32) : AllLen (setM z r m) := by
  intro p hp
  rcases mem_setM hp with e | h2
  · rw [e]; exact hr
  · exact h p h2
theorem tabM_len {nm : List UInt8 → Bool} {z : List UInt8} {t : Vals} (ht : ∀ g, g < t.length → (t.getD g zp).2.length = 32) : ∀ (g : Nat) (m : Vals), g ≤ t.length → tabM nm z t g = some m → AllLen m
  | 0, m, _, h => by cases h; intro p hp; cases hp
  | g + 1, m, hg, h => by
    unfold tabM at h
    cases h1 : tabM nm z t g with
    | none => rw [h1] at h; cases h
    | some m1 =>
      rw [h1, Option.bind_some] at h
      split at h
      · cases h
        exact (tabM_len ht g m1 (by omega) h1).set (ht g (by omega))
      · cases h
theorem logM_len {nm : List UInt8 → Bool} {z : List UInt8} {l m0 : Vals} (hl : ∀ g, g < l.length → (l.getD g zp).2.length = 32) (h0 : AllLen m0) : ∀ (g : Nat) (m : Vals), g ≤ l.length → logM nm z l m0 g = some m → AllLen m
  | 0, m, _, h => by cases h; exact h0
  | g + 1, m, hg, h => by
    unfold logM at h
    cases h1 : logM nm z l m0 g with
    | none => rw [h1] at h; cases h
    | some m1 =>
      rw [h1, Option.bind_some] at h
      split at h
      · cases h
        exact (logM_len hl h0 g m1 (by omega) h1).set (hl g (by omega))
      · cases h
theorem ofM_len {nm : List UInt8 → Bool} {z : List UInt8} {t l : Vals} {k : Nat} {m : Vals} (ht : ∀ g, g < t.length → (t.getD g zp).2.length = 32) (hl : ∀ g, g < l.length → (l.getD g zp).2.length = 32) (hk : k ≤ l.length) (h : ofM nm z t l k = some m) : AllLen m := by
  unfold ofM at h
  cases h1 : tabM nm z t t.length with
  | none => rw [h1] at h; cases h
  | some m1 =>
    rw [h1, Option.bind_some] at h
    exact logM_len hl (tabM_len ht _ _ (Nat.le_refl _) h1) k m hk h
end Go.RefP
section
open Go Go.Proofs Go.Sx Go.RefP
namespace Go.Proofs
set_option maxRecDepth 10000
set_option maxHeartbeats 4000000
/-! ### Reading one byte further on is reading what begins there -/
/-- Some bytes as an id. -/
def mkId (l : List UInt8) : IdL := if h : l.length = 32 then ⟨l, h⟩ else id0
theorem mkId_eq {l : List UInt8} (h : l.length = 32) : mkId l = ⟨l, h⟩ := by unfold mkId; rw [dif_pos h]
/-- A ref is read. -/
def refR (s : List UInt8) (a : Nat) (e : Int) : RefL × Nat × Int :=
  (⟨(textR s a e 32).1, mkId (idR s (textR s a e 32).2.1 (textR s a e 32).2.2).1⟩, (idR s (textR s a e 32).2.1 (textR s a e 32).2.2).2)
theorem oneR_eq (s : List UInt8) (a : Nat) (e : Int) (ha : a ≤ s.length) : oneR s a e ha = refR s a e := by
  unfold oneR refR
  rw [mkId_eq (idR_len (textR_le ha).2)]
theorem refR_le {s : List UInt8} {a : Nat} {e : Int} (ha : a ≤ s.length) : a ≤ (refR s a e).2.1 ∧ (refR s a e).2.1 ≤ s.length := by
  have h1 := textR_le (e := e) (most := 32) ha
  have h2 := idR_le (e := (textR s a e 32).2.2) h1.2
  unfold refR
  exact ⟨by simp only; omega, h2.2⟩
/-- So many refs are read. -/
def refsR (s : List UInt8) (a : Nat) (e : Int) : Nat → List RefL × Nat × Int
  | 0 => ([], a, e)
  | g + 1 => ((refsR s a e g).1 ++ [(refR s (refsR s a e g).2.1 (refsR s a e g).2.2).1], (refR s (refsR s a e g).2.1 (refsR s a e g).2.2).2)
theorem refsR_le {s : List UInt8} {a : Nat} {e : Int} (ha : a ≤ s.length) : ∀ g, a ≤ (refsR s a e g).2.1 ∧ (refsR s a e g).2.1 ≤ s.length
  | 0 => ⟨Nat.le_refl _, ha⟩
  | g + 1 => by
    have ih := refsR_le (e := e) ha g
    have h := refR_le (e := (refsR s a e g).2.2) ih.2
    unfold refsR
    exact ⟨by simp only; omega, h.2⟩
theorem refsR_length (s : List UInt8) (a : Nat) (e : Int) : ∀ g, (refsR s a e g).1.length = g
  | 0 => rfl
  | g + 1 => by unfold refsR; simp [refsR_length s a e g]
/-- The error at the end. -/
def endR (s : List UInt8) (a : Nat) (e : Int) : Int := if e ≠ 0 then e else if (a : Int) < s.length then 5 else 0
/-- Names and ids of refs. -/
def prs (l : List RefL) : Vals := l.map fun r => (r.name, r.id.l)
theorem prs_len (l : List RefL) : (prs l).length = l.length := by simp [prs]
theorem prs_getD (l : List RefL) (g : Nat) (h : g < l.length) : (prs l).getD g zp = ((l.getD g ref0).name, (l.getD g ref0).id.l) := by
  unfold prs
  rw [List.getD_eq_getElem?_getD, List.getD_eq_getElem?_getD, List.getElem?_map, List.getElem?_eq_getElem h]; rfl
/-- May a book be? -/
def rightB (t l : List RefL) : Bool := rightM nameV z32 (prs t) (prs l)
/-- A head: the table, and where it ends. -/
def headR (s : List UInt8) : Option (List RefL × Nat) :=
  match recR s 0 0 [72] with
  | (none, _) => none
  | (some c, at_, _) =>
    let n := numR c 0 0 16
    let tb := refsR c n.2.1 n.2.2 n.1.toNat
    if endR c tb.2.1 tb.2.2 = 0 ∧ rightB tb.1 [] = true then some (tb.1, at_) else none
/-- One more entry. -/
def nextR (s : List UInt8) (tb : List RefL) (log : List RefL) (at_ : Nat) : Option (List RefL × Nat) :=
  match recR s at_ 0 [69] with
  | (none, _) => none
  | (some c, to, _) => if endR c (refR c 0 0).2.1 (refR c 0 0).2.2 = 0 ∧ rightB tb (log ++ [(refR c 0 0).1]) = true then some (log ++ [(refR c 0 0).1], to) else none
/-- As many entries as there are. -/
def logsR (s : List UInt8) (tb : List RefL) : Nat → List RefL → Nat → List RefL × Nat
  | 0, log, at_ => (log, at_)
  | n + 1, log, at_ => match nextR s tb log at_ with
    | none => (log, at_)
    | some p => logsR s tb n p.1 p.2
/-- The book of some bytes. -/
def bookR (s : List UInt8) : Option (List RefL × List RefL × Nat) := (headR s).map fun h => (h.1, logsR s h.1 101 [] h.2)
theorem rightB_len {t l : List RefL} (h : rightB t l = true) : l.length ≤ 100 := by
  unfold rightB rightM at h
  rw [Bool.and_eq_true, decide_eq_true_eq, prs_len] at h
  exact h.2
theorem nextR_len {s : List UInt8} {tb log : List RefL} {at_ : Nat} {p : List RefL × Nat} (h : nextR s tb log at_ = some p) : p.1.length = log.length + 1 ∧ p.1.length ≤ 100 := by
  unfold nextR at h
  split at h
  · cases h
  · split at h
    · rename_i h2
      cases h
      exact ⟨by simp, rightB_len h2.2⟩
    · cases h
theorem logsR_more (s : List UInt8) (tb : List RefL) : ∀ (n m : Nat) (log : List RefL) (at_ : Nat), 101 ≤ n + log.length → 101 ≤ m + log.length → log.length ≤ 100 → logsR s tb n log at_ = logsR s tb m log at_
  | 0, _, log, at_, h1, _, h3 => by omega
  | n + 1, 0, log, at_, _, h2, h3 => by omega
  | n + 1, m + 1, log, at_, h1, h2, h3 => by
    unfold logsR
    cases hn : nextR s tb log at_ with
    | none => rfl
    | some p =>
      have := nextR_len hn
      exact logsR_more s tb n m p.1 p.2 (by omega) (by omega) this.2
end Go.Proofs
end
section
open Go Go.Proofs Go.Sx Go.RefP
namespace Go.Proofs
set_option maxRecDepth 10000
set_option maxHeartbeats 1000000
set_option linter.unusedSimpArgs false
theorem setV_eq (r : RefL) (m : Vals) : setV r m = setM z32 (r.name, r.id.l) m := rfl
def Book0 (v : Value) (a b : Value) : Prop := v = .agg #[a, b]
theorem load_bk0 (a b : Value) (E : TypeId) (n : Nat) : loadV (some (false, n)) (some (.cells #[a, b] E (0, 0))) 0 = some a := (rfl)
theorem load_bk1 (a b : Value) (E : TypeId) (n : Nat) : loadV (some (false, n)) (some (.cells #[a, b] E (0, 0))) 1 = some b := (rfl)
theorem eqIdz (l : List UInt8) (h : l.length = 32) : binX Tryz.prog .eql 34 (.agg (a8 l)) (.agg (a8 z32)) = some (.bool (l == z32)) := eqId l z32 ⟨h, by simp [z32]⟩
theorem build_id0 : buildV (plcT Tryz.prog 34) (zeroV Tryz.prog 34) [] = some (.agg (a8 z32)) := id (by kernel_rfl)
theorem isNameV_spec (s : List UInt8) (w : World) (hs : s.length < 1099511627776) :
    Rets Tryz.prog 40 #[vs s] w (fun v D => v = .bool (nameV s) ∧ D = []) := isName_spec s w hs
structure OG where
  g : Nat
  m : Vals
  o : Obj
set_option linter.defProp false
def uWO_1 := And.intro (And.intro (And.intro (@rdIn_v8) (And.intro (@rdIn_v16) (@rdIn_v32))) (And.intro (@rdIn_v64) (And.intro (@rdIn_vi) (@load_ref0)))) (And.intro (And.intro (@load_ref1) (And.intro (@cells_ref) (@eqIdz))) (And.intro (And.intro (@store_rr) (@load_ref)) (And.intro (@load_bk0) (@load_bk1))))
/-- What 'of' hands back. -/
def OfS (n : Nat) (t l : List RefL) (k : Nat) (v : Value) (D : Heap) : Prop :=
  match ofM nameV z32 (prs t) (prs l) k with
  | some m => ∃ b o, v = .tuple #[vm b, .bool (decide (l.length ≤ 100))] ∧ D = [(b, o)] ∧ MapR o m ∧ n ≤ b
  | none => v = .tuple #[.map none, .bool false] ∧ New n D
theorem tabM_step {nm : List UInt8 → Bool} {z : List UInt8} {t m : Vals} {g : Nat} (h : tabM nm z t g = some m) : tabM nm z t (g + 1) = if (tabOk nm z t g && decide ((setM z (t.getD g zp) m).length ≤ 16)) = true then some (setM z (t.getD g zp) m) else none := by
  rw [tabM, h]; rfl
theorem logM_step {nm : List UInt8 → Bool} {z : List UInt8} {l m0 m : Vals} {g : Nat} (h : logM nm z l m0 g = some m) : logM nm z l m0 (g + 1) = if (nm (l.getD g zp).1 && decide ((setM z (l.getD g zp) m).length ≤ 16)) = true then some (setM z (l.getD g zp) m) else none := by
  rw [logM, h]; rfl
theorem OfS.tab {n : Nat} {t l : List RefL} {k g : Nat} (h : tabM nameV z32 (prs t) (g + 1) = none) (hg : g < t.length) {D : Heap} (hD : New n D) : OfS n t l k (.tuple #[.map none, .bool false]) D := by
  unfold OfS ofM
  rw [tabM_stop h _ (by rw [prs_len]; exact hg)]
  exact ⟨rfl, hD⟩
theorem OfS.log {n : Nat} {t l : List RefL} {k g : Nat} {m : Vals} (ht : tabM nameV z32 (prs t) t.length = some m) (h : logM nameV z32 (prs l) m (g + 1) = none) (hg : g < k) {D : Heap} (hD : New n D) : OfS n t l k (.tuple #[.map none, .bool false]) D := by
  unfold OfS ofM
  rw [prs_len, ht, Option.bind_some, logM_stop h _ hg]
  exact ⟨rfl, hD⟩
theorem OfS.new {n : Nat} {t l : List RefL} {k : Nat} {v : Value} {D : Heap} (h : OfS n t l k v D) : New n D := by
  unfold OfS at h
  split at h
  · obtain ⟨b, o, -, rfl, -, hb⟩ := h
    exact ⟨hb, trivial⟩
  · exact h.2
theorem of_spec (vt vl : Value) (t l : List RefL) (k : Nat) (w : World) (ht : RefSl w vt t) (hl : RefSl w vl l) (htl : t.length < 1000000) (hll : l.length < 1000000) (hk : k ≤ l.length)
    (hnt : ∀ g, g < t.length → (t.getD g ref0).name.length < 1099511627776) (hnl : ∀ g, g < l.length → (l.getD g ref0).name.length < 1099511627776) :
    Rets Tryz.prog 27 #[.agg #[vt, vl], vi k] w (OfS w.heap.size t l k) := by
  refine Rets.enter Tryz.func27 rfl (rs := [.tmp 4, .tmp 5]) Tryz.results27 Tryz.ntmps27 ?_
  simp only [List.size_toArray, List.length_cons, List.length_nil, Nat.reduceAdd, Nat.reduceSub, List.replicate_succ, List.replicate_zero, List.cons_append, List.nil_append]
  obtain ⟨b1, o1, a1, E1, f1, h1⟩ := ht.row
  ((try with_reducible refine Cw.go [1000014] ?_); (try simp (disch := (first | assumption | omega | (simp only [lenS, lenT, UInt64.reduceToNat]; try omega))) only [↓Sx.S0, Sx.S1, Tryz.fx, uWO_1, Nat.reduceAdd, Nat.reducePow, Int.reducePow, Nat.reduceBEq, ↓reduceIte, UInt8.reduceToNat, UInt16.reduceToNat, UInt32.reduceToNat, UInt64.reduceToNat, Int.reduceToNat]))
  refine Ow.box rfl rfl fun bx hbx hwx => ?_
  simp only [ev_tmp, getF_0, getF_s, cells_agg, List.nil_append, List.cons_append]
  refine Ow.go rfl ?_
  simp (disch := (first | assumption | omega | (simp only [lenS, lenT, UInt64.reduceToNat]; try omega))) only [↓Sx.S0, Sx.S1, Tryz.fx, uWO_1, Nat.reduceAdd, Nat.reducePow, Int.reducePow, Nat.reduceBEq, ↓reduceIte, UInt8.reduceToNat, UInt16.reduceToNat, UInt32.reduceToNat, UInt64.reduceToNat, Int.reduceToNat]
  ((try with_reducible refine Cw.go [] ?_); (try simp (disch := (first | assumption | omega | (simp only [lenS, lenT, UInt64.reduceToNat]; try omega))) only [↓Sx.S0, Sx.S1, Tryz.fx, uWO_1, Nat.reduceAdd, Nat.reducePow, Int.reducePow, Nat.reduceBEq, ↓reduceIte, UInt8.reduceToNat, UInt16.reduceToNat, UInt32.reduceToNat, UInt64.reduceToNat, Int.reduceToNat]))
  refine Ow.makeMap rfl rfl fun bm o hbm hwm hm0 => ?_
  obtain ⟨hxm, -⟩ := hbm
  rw [List.cons_append, List.nil_append]
  refine Ow.go rfl ?_
  simp (disch := (first | assumption | omega | (simp only [lenS, lenT, UInt64.reduceToNat]; try omega))) only [↓Sx.S0, Sx.S1, Tryz.fx, uWO_1, Nat.reduceAdd, Nat.reducePow, Int.reducePow, Nat.reduceBEq, ↓reduceIte, UInt8.reduceToNat, UInt16.reduceToNat, UInt32.reduceToNat, UInt64.reduceToNat, Int.reduceToNat]
  ((try with_reducible refine Cw.go [] ?_); (try simp (disch := (first | assumption | omega | (simp only [lenS, lenT, UInt64.reduceToNat]; try omega))) only [↓Sx.S0, Sx.S1, Tryz.fx, uWO_1, Nat.reduceAdd, Nat.reducePow, Int.reducePow, Nat.reduceBEq, ↓reduceIte, UInt8.reduceToNat, UInt16.reduceToNat, UInt32.reduceToNat, UInt64.reduceToNat, Int.reduceToNat, ht.len]))
  refine Cw.loopG (G := OG) [16, 17, 18, 19, 8, 7, 20, 21, 22, 23, 24, 25, 26, 27, 28, 29, 30, 31, 32, 33, 34, 35, 36, 37, 38, 39, 40, 41, 42, 43, 44, 45, 46, 47, 48, 49, 50, 51, 4, 5, 52, 15] (fun g => [(15, vi g.g)]) (fun g => [(bx, .cells #[vt, vl] 24 (0, 0)), (bm, g.o)]) (fun g => g.g ≤ t.length ∧ tabM nameV z32 (prs t) g.g = some g.m ∧ MapR g.o g.m) (fun g => t.length - g.g) ⟨0, [], o⟩ rfl rfl ?_ ?_
  · exact ⟨Nat.zero_le _, rfl, hm0⟩
  intro g j hg
  simp only [overFrom, pin, setF_0, setF_s, List.contains_cons, List.contains_nil, Nat.reduceBEq, Bool.or_false, Bool.false_or, Bool.or_true, Bool.true_or, Nat.reduceAdd, ↓reduceIte, Bool.false_eq_true]
  obtain ⟨g, m, o⟩ := g
  simp only at hg ⊢
  obtain ⟨hgl, hgm, hgo⟩ := hg
  by_cases hlt : g < t.length
  · have hb1 := h1.has (by omega)
    have hb1l := h1.lt (by omega)
    have ld1 := h1.load refC_len (by omega) hlt
    ((try with_reducible refine Cw.go [7] ?_); (try simp (disch := (first | assumption | omega | (simp only [lenS, lenT, UInt64.reduceToNat]; try omega))) only [↓Sx.S0, Sx.S1, Tryz.fx, uWO_1, Nat.reduceAdd, Nat.reducePow, Int.reducePow, Nat.reduceBEq, ↓reduceIte, UInt8.reduceToNat, UInt16.reduceToNat, UInt32.reduceToNat, UInt64.reduceToNat, Int.reduceToNat, ht.len, h1.idx, hb1, ld1]))
    refine Ow.alloc rfl rfl zrRef fun b5 hb5 hw5 => ?_
    simp only [cells_agg, List.nil_append, List.cons_append]
    obtain ⟨hx5, hm5, -⟩ := hb5
    refine Ow.go rfl ?_
    simp (disch := (first | assumption | omega | (simp only [lenS, lenT, UInt64.reduceToNat]; try omega))) only [↓Sx.S0, Sx.S1, Tryz.fx, uWO_1, Nat.reduceAdd, Nat.reducePow, Int.reducePow, Nat.reduceBEq, ↓reduceIte, UInt8.reduceToNat, UInt16.reduceToNat, UInt32.reduceToNat, UInt64.reduceToNat, Int.reduceToNat]
    ((try with_reducible refine Cw.go [] ?_); (try simp (disch := (first | assumption | omega | (simp only [lenS, lenT, UInt64.reduceToNat]; try omega))) only [↓Sx.S0, Sx.S1, Tryz.fx, uWO_1, Nat.reduceAdd, Nat.reducePow, Int.reducePow, Nat.reduceBEq, ↓reduceIte, UInt8.reduceToNat, UInt16.reduceToNat, UInt32.reduceToNat, UInt64.reduceToNat, Int.reduceToNat]))
    have hil := (t.getD g ref0).id.h
    have hnm := hnt g hlt
    have hpg := prs_getD t g hlt
    generalize hr : t.getD g ref0 = r at *
    refine Cw.regionS [bx, b1, b5] [0, 1, 2, 3, 4, 5, 7, 6, 8, 9, 10, 11, 12, 13, 14, 16, 17, 21, 15, 18, 19, 20, 22, 23, 24, 25, 26, 27, 28, 29, 30, 31] [] (by kernel_rfl) (by kernel_rfl) (by kernel_rfl) ?_
    simp only [nl_cons, ↓pickL_nil, ↓pickL_cons, ↓nthO_0, ↓nthO_s, consO_some]
    refine Ow.goQ ?_
    simp (disch := (first | assumption | omega | (simp only [lenS, lenT, UInt64.reduceToNat]; try omega))) only [↓Sx.S0, Sx.S1, Tryz.fx, uWO_1, Nat.reduceAdd, Nat.reducePow, Int.reducePow, Nat.reduceBEq, ↓reduceIte, UInt8.reduceToNat, UInt16.reduceToNat, UInt32.reduceToNat, UInt64.reduceToNat, Int.reduceToNat]
    refine Ow.callFV rfl Tryz.call40 (fun w' hw' => isNameV_spec r.name w' hnm) ?_
    cases hn : nameV r.name
    · have hok : tabOk nameV z32 (prs t) g = false := by unfold tabOk; rw [hpg]; simp only [hn, Bool.false_and]
      refine Ow.goQ ?_
      simp (disch := (first | assumption | omega | (simp only [lenS, lenT, UInt64.reduceToNat]; try omega))) only [↓Sx.S0, Sx.S1, Tryz.fx, uWO_1, Nat.reduceAdd, Nat.reducePow, Int.reducePow, Nat.reduceBEq, ↓reduceIte, UInt8.reduceToNat, UInt16.reduceToNat, UInt32.reduceToNat, UInt64.reduceToNat, Int.reduceToNat]
      try with_reducible refine Ow.nil ?_
      ((try with_reducible refine Cw.go [] ?_); (try simp (disch := (first | assumption | omega | (simp only [lenS, lenT, UInt64.reduceToNat]; try omega))) only [↓Sx.S0, Sx.S1, Tryz.fx, uWO_1, Nat.reduceAdd, Nat.reducePow, Int.reducePow, Nat.reduceBEq, ↓reduceIte, UInt8.reduceToNat, UInt16.reduceToNat, UInt32.reduceToNat, UInt64.reduceToNat, Int.reduceToNat]))
      refine ⟨_, (by simp (disch := (first | assumption | omega | (simp only [lenS, lenT, UInt64.reduceToNat]; try omega))) only [↓Sx.S0, Sx.S1, Tryz.fx, uWO_1, Nat.reduceAdd, Nat.reducePow, Int.reducePow, Nat.reduceBEq, ↓reduceIte, UInt8.reduceToNat, UInt16.reduceToNat, UInt32.reduceToNat, UInt64.reduceToNat, Int.reduceToNat]; rfl), ?_⟩
      exact OfS.tab (by rw [tabM_step hgm, hok]; rfl) hlt ⟨hwx, hwm, hw5, trivial⟩
    · refine Ow.goQ ?_
      simp (disch := (first | assumption | omega | (simp only [lenS, lenT, UInt64.reduceToNat]; try omega))) only [↓Sx.S0, Sx.S1, Tryz.fx, uWO_1, Nat.reduceAdd, Nat.reducePow, Int.reducePow, Nat.reduceBEq, ↓reduceIte, UInt8.reduceToNat, UInt16.reduceToNat, UInt32.reduceToNat, UInt64.reduceToNat, Int.reduceToNat]
      refine Ow.build (.agg (a8 z32)) rfl (by kernel_rfl) ?_
      cases hz : (r.id.l == z32)
      · by_cases h0 : g = 0
        · have hd : decide ((0 : Int) < (g : Int)) = false := by simp [h0]
          have hok : tabOk nameV z32 (prs t) g = true := by unfold tabOk; rw [hpg]; simp only [hn, hz, h0, beq_self_eq_true, Bool.true_or, Bool.not_false, Bool.and_self]
          refine Ow.goQ ?_
          simp (disch := (first | assumption | omega | (simp only [lenS, lenT, UInt64.reduceToNat]; try omega))) only [↓Sx.S0, Sx.S1, Tryz.fx, uWO_1, Nat.reduceAdd, Nat.reducePow, Int.reducePow, Nat.reduceBEq, ↓reduceIte, UInt8.reduceToNat, UInt16.reduceToNat, UInt32.reduceToNat, UInt64.reduceToNat, Int.reduceToNat, hz, hd]
          refine Ow.soft rfl rfl rfl ?_
          refine Ow.callE rfl rfl Tryz.call52 (by simp [keys]) (fun w' hw' => set_spec bm o m r w' (hw'.has _ _ (List.mem_cons_of_mem _ List.mem_cons_self)) hgo) (fun v o' hS => ?_)
          with_reducible refine Ow.nil ?_
          refine ⟨fun b hb => read_setB_ne (by simp only [List.mem_cons, List.not_mem_nil, or_false] at hb; omega), ?_⟩
          simp (disch := (first | assumption | omega | (simp only [lenS, lenT, UInt64.reduceToNat]; try omega))) only [setB_same, setB_other, List.cons_append, List.nil_append]
          obtain ⟨rfl, hm'⟩ := hS
          rw [setV_eq] at hm' ⊢
          by_cases h16 : (setM z32 (r.name, r.id.l) m).length ≤ 16
          · have hd2 : decide ((setM z32 (r.name, r.id.l) m).length ≤ 16) = true := by simpa using h16
            refine Ow.goQ ?_
            simp (disch := (first | assumption | omega | (simp only [lenS, lenT, UInt64.reduceToNat]; try omega))) only [↓Sx.S0, Sx.S1, Tryz.fx, uWO_1, Nat.reduceAdd, Nat.reducePow, Int.reducePow, Nat.reduceBEq, ↓reduceIte, UInt8.reduceToNat, UInt16.reduceToNat, UInt32.reduceToNat, UInt64.reduceToNat, Int.reduceToNat, hd2]
            try with_reducible refine Ow.nil ?_
            refine Cw.forgetN [(bx, .cells #[vt, vl] 24 (0, 0)), (bm, o')] (by exact ⟨hwx, hwm, hw5, trivial⟩) (by intro p hp; simp only [List.mem_cons, List.not_mem_nil, or_false] at hp ⊢; all_goals (first | (rcases hp with rfl | hp <;> simp_all) | (subst hp; simp) | simp_all)) (by simp [keys] <;> omega) ?_
            ((try with_reducible refine Cw.go [] ?_); (try simp (disch := (first | assumption | omega | (simp only [lenS, lenT, UInt64.reduceToNat]; try omega))) only [↓Sx.S0, Sx.S1, Tryz.fx, uWO_1, Nat.reduceAdd, Nat.reducePow, Int.reducePow, Nat.reduceBEq, ↓reduceIte, UInt8.reduceToNat, UInt16.reduceToNat, UInt32.reduceToNat, UInt64.reduceToNat, Int.reduceToNat]))
            refine Again.mk ⟨g + 1, setM z32 (r.name, r.id.l) m, o'⟩ (by simp only; omega) ⟨hlt, ?_, hm'⟩ rfl rfl
            rw [tabM_step hgm, hok, hpg, Bool.true_and, hd2, if_pos rfl]
          · have hd2 : decide ((setM z32 (r.name, r.id.l) m).length ≤ 16) = false := by simpa using h16
            refine Ow.goQ ?_
            simp (disch := (first | assumption | omega | (simp only [lenS, lenT, UInt64.reduceToNat]; try omega))) only [↓Sx.S0, Sx.S1, Tryz.fx, uWO_1, Nat.reduceAdd, Nat.reducePow, Int.reducePow, Nat.reduceBEq, ↓reduceIte, UInt8.reduceToNat, UInt16.reduceToNat, UInt32.reduceToNat, UInt64.reduceToNat, Int.reduceToNat, hd2]
            try with_reducible refine Ow.nil ?_
            ((try with_reducible refine Cw.go [] ?_); (try simp (disch := (first | assumption | omega | (simp only [lenS, lenT, UInt64.reduceToNat]; try omega))) only [↓Sx.S0, Sx.S1, Tryz.fx, uWO_1, Nat.reduceAdd, Nat.reducePow, Int.reducePow, Nat.reduceBEq, ↓reduceIte, UInt8.reduceToNat, UInt16.reduceToNat, UInt32.reduceToNat, UInt64.reduceToNat, Int.reduceToNat]))
            refine ⟨_, (by simp (disch := (first | assumption | omega | (simp only [lenS, lenT, UInt64.reduceToNat]; try omega))) only [↓Sx.S0, Sx.S1, Tryz.fx, uWO_1, Nat.reduceAdd, Nat.reducePow, Int.reducePow, Nat.reduceBEq, ↓reduceIte, UInt8.reduceToNat, UInt16.reduceToNat, UInt32.reduceToNat, UInt64.reduceToNat, Int.reduceToNat]; rfl), ?_⟩
            exact OfS.tab (by rw [tabM_step hgm, hpg, hd2, Bool.and_false]; rfl) hlt ⟨hwx, hwm, hw5, trivial⟩
        · have hd : decide ((0 : Int) < (g : Int)) = true := by simp; omega
          have ld2 : loadV (some (false, 1)) (some (.cells a1 E1 f1)) (o1 + (g - 1) * 33) = some (vs (t.getD (g - 1) ref0).name) := h1.cell (j := 0) (n := 1) (show g - 1 < t.length by omega) (by omega)
          have hix : indexAddrV (.sl (true, 33)) vt (some ((g : Int) - 1)) = some (vp b1 (o1 + (g - 1) * 33)) := by
            have := h1.idx true (g - 1) (by omega)
            rw [show ((g - 1 : Nat) : Int) = (g : Int) - 1 by omega] at this
            exact this
          have hpp := prs_getD t (g - 1) (show g - 1 < t.length by omega)
          have hg0 : (g == 0) = false := by simpa using h0
          have hok : tabOk nameV z32 (prs t) g = ltB (t.getD (g - 1) ref0).name r.name := by unfold tabOk; rw [hpg, hpp]; simp only [hn, hz, hg0, Bool.false_or, Bool.not_false, Bool.true_and]
          cases hq : Op.bytesLess (t.getD (g - 1) ref0).name r.name
          · refine Ow.goQ ?_
            simp (disch := (first | assumption | omega | (simp only [lenS, lenT, UInt64.reduceToNat]; try omega))) only [↓Sx.S0, Sx.S1, Tryz.fx, uWO_1, Nat.reduceAdd, Nat.reducePow, Int.reducePow, Nat.reduceBEq, ↓reduceIte, UInt8.reduceToNat, UInt16.reduceToNat, UInt32.reduceToNat, UInt64.reduceToNat, Int.reduceToNat, hz, hd, hix, hb1, ld2, hq]
            try with_reducible refine Ow.nil ?_
            ((try with_reducible refine Cw.go [] ?_); (try simp (disch := (first | assumption | omega | (simp only [lenS, lenT, UInt64.reduceToNat]; try omega))) only [↓Sx.S0, Sx.S1, Tryz.fx, uWO_1, Nat.reduceAdd, Nat.reducePow, Int.reducePow, Nat.reduceBEq, ↓reduceIte, UInt8.reduceToNat, UInt16.reduceToNat, UInt32.reduceToNat, UInt64.reduceToNat, Int.reduceToNat]))
            refine ⟨_, (by simp (disch := (first | assumption | omega | (simp only [lenS, lenT, UInt64.reduceToNat]; try omega))) only [↓Sx.S0, Sx.S1, Tryz.fx, uWO_1, Nat.reduceAdd, Nat.reducePow, Int.reducePow, Nat.reduceBEq, ↓reduceIte, UInt8.reduceToNat, UInt16.reduceToNat, UInt32.reduceToNat, UInt64.reduceToNat, Int.reduceToNat]; rfl), ?_⟩
            exact OfS.tab (by rw [tabM_step hgm, hok, show ltB (t.getD (g - 1) ref0).name r.name = false from hq]; rfl) hlt ⟨hwx, hwm, hw5, trivial⟩
          · refine Ow.goQ ?_
            simp (disch := (first | assumption | omega | (simp only [lenS, lenT, UInt64.reduceToNat]; try omega))) only [↓Sx.S0, Sx.S1, Tryz.fx, uWO_1, Nat.reduceAdd, Nat.reducePow, Int.reducePow, Nat.reduceBEq, ↓reduceIte, UInt8.reduceToNat, UInt16.reduceToNat, UInt32.reduceToNat, UInt64.reduceToNat, Int.reduceToNat, hz, hd, hix, hb1, ld2, hq]
            refine Ow.soft rfl rfl rfl ?_
            refine Ow.callE rfl rfl Tryz.call52 (by simp [keys]) (fun w' hw' => set_spec bm o m r w' (hw'.has _ _ (List.mem_cons_of_mem _ List.mem_cons_self)) hgo) (fun v o' hS => ?_)
            with_reducible refine Ow.nil ?_
            refine ⟨fun b hb => read_setB_ne (by simp only [List.mem_cons, List.not_mem_nil, or_false] at hb; omega), ?_⟩
            simp (disch := (first | assumption | omega | (simp only [lenS, lenT, UInt64.reduceToNat]; try omega))) only [setB_same, setB_other, List.cons_append, List.nil_append]
            obtain ⟨rfl, hm'⟩ := hS
            rw [setV_eq] at hm' ⊢
            by_cases h16 : (setM z32 (r.name, r.id.l) m).length ≤ 16
            · have hd2 : decide ((setM z32 (r.name, r.id.l) m).length ≤ 16) = true := by simpa using h16
              refine Ow.goQ ?_
              simp (disch := (first | assumption | omega | (simp only [lenS, lenT, UInt64.reduceToNat]; try omega))) only [↓Sx.S0, Sx.S1, Tryz.fx, uWO_1, Nat.reduceAdd, Nat.reducePow, Int.reducePow, Nat.reduceBEq, ↓reduceIte, UInt8.reduceToNat, UInt16.reduceToNat, UInt32.reduceToNat, UInt64.reduceToNat, Int.reduceToNat, hd2]
              try with_reducible refine Ow.nil ?_
              refine Cw.forgetN [(bx, .cells #[vt, vl] 24 (0, 0)), (bm, o')] (by exact ⟨hwx, hwm, hw5, trivial⟩) (by intro p hp; simp only [List.mem_cons, List.not_mem_nil, or_false] at hp ⊢; all_goals (first | (rcases hp with rfl | hp <;> simp_all) | (subst hp; simp) | simp_all)) (by simp [keys] <;> omega) ?_
              ((try with_reducible refine Cw.go [] ?_); (try simp (disch := (first | assumption | omega | (simp only [lenS, lenT, UInt64.reduceToNat]; try omega))) only [↓Sx.S0, Sx.S1, Tryz.fx, uWO_1, Nat.reduceAdd, Nat.reducePow, Int.reducePow, Nat.reduceBEq, ↓reduceIte, UInt8.reduceToNat, UInt16.reduceToNat, UInt32.reduceToNat, UInt64.reduceToNat, Int.reduceToNat]))
              refine Again.mk ⟨g + 1, setM z32 (r.name, r.id.l) m, o'⟩ (by simp only; omega) ⟨hlt, ?_, hm'⟩ rfl rfl
              rw [tabM_step hgm, hok, hpg, hd2, Bool.and_true]
              exact if_pos hq
            · have hd2 : decide ((setM z32 (r.name, r.id.l) m).length ≤ 16) = false := by simpa using h16
              refine Ow.goQ ?_
              simp (disch := (first | assumption | omega | (simp only [lenS, lenT, UInt64.reduceToNat]; try omega))) only [↓Sx.S0, Sx.S1, Tryz.fx, uWO_1, Nat.reduceAdd, Nat.reducePow, Int.reducePow, Nat.reduceBEq, ↓reduceIte, UInt8.reduceToNat, UInt16.reduceToNat, UInt32.reduceToNat, UInt64.reduceToNat, Int.reduceToNat, hd2]
              try with_reducible refine Ow.nil ?_
              ((try with_reducible refine Cw.go [] ?_); (try simp (disch := (first | assumption | omega | (simp only [lenS, lenT, UInt64.reduceToNat]; try omega))) only [↓Sx.S0, Sx.S1, Tryz.fx, uWO_1, Nat.reduceAdd, Nat.reducePow, Int.reducePow, Nat.reduceBEq, ↓reduceIte, UInt8.reduceToNat, UInt16.reduceToNat, UInt32.reduceToNat, UInt64.reduceToNat, Int.reduceToNat]))
              refine ⟨_, (by simp (disch := (first | assumption | omega | (simp only [lenS, lenT, UInt64.reduceToNat]; try omega))) only [↓Sx.S0, Sx.S1, Tryz.fx, uWO_1, Nat.reduceAdd, Nat.reducePow, Int.reducePow, Nat.reduceBEq, ↓reduceIte, UInt8.reduceToNat, UInt16.reduceToNat, UInt32.reduceToNat, UInt64.reduceToNat, Int.reduceToNat]; rfl), ?_⟩
              exact OfS.tab (by rw [tabM_step hgm, hpg, hd2, Bool.and_false]; rfl) hlt ⟨hwx, hwm, hw5, trivial⟩
      · have hok : tabOk nameV z32 (prs t) g = false := by unfold tabOk; rw [hpg]; simp only [hz, Bool.not_true, Bool.and_false, Bool.false_and]
        refine Ow.goQ ?_
        simp (disch := (first | assumption | omega | (simp only [lenS, lenT, UInt64.reduceToNat]; try omega))) only [↓Sx.S0, Sx.S1, Tryz.fx, uWO_1, Nat.reduceAdd, Nat.reducePow, Int.reducePow, Nat.reduceBEq, ↓reduceIte, UInt8.reduceToNat, UInt16.reduceToNat, UInt32.reduceToNat, UInt64.reduceToNat, Int.reduceToNat, hz]
        try with_reducible refine Ow.nil ?_
        ((try with_reducible refine Cw.go [] ?_); (try simp (disch := (first | assumption | omega | (simp only [lenS, lenT, UInt64.reduceToNat]; try omega))) only [↓Sx.S0, Sx.S1, Tryz.fx, uWO_1, Nat.reduceAdd, Nat.reducePow, Int.reducePow, Nat.reduceBEq, ↓reduceIte, UInt8.reduceToNat, UInt16.reduceToNat, UInt32.reduceToNat, UInt64.reduceToNat, Int.reduceToNat]))
        refine ⟨_, (by simp (disch := (first | assumption | omega | (simp only [lenS, lenT, UInt64.reduceToNat]; try omega))) only [↓Sx.S0, Sx.S1, Tryz.fx, uWO_1, Nat.reduceAdd, Nat.reducePow, Int.reducePow, Nat.reduceBEq, ↓reduceIte, UInt8.reduceToNat, UInt16.reduceToNat, UInt32.reduceToNat, UInt64.reduceToNat, Int.reduceToNat]; rfl), ?_⟩
        exact OfS.tab (by rw [tabM_step hgm, hok]; rfl) hlt ⟨hwx, hwm, hw5, trivial⟩
  · obtain rfl : g = t.length := by omega
    obtain ⟨b2, o2, a2, E2, f2, h2⟩ := hl.row
    obtain ⟨vl', hsl, hlk, -⟩ := hl.take hk true
    obtain ⟨b3, o3, a3, E3, f3, h3⟩ := hlk.row
    have hkl : (l.take k).length = k := by simp; omega
    have hlen3 := hlk.len
    rw [hkl] at hlen3
    ((try with_reducible refine Cw.go [] ?_); (try simp (disch := (first | assumption | omega | (simp only [lenS, lenT, UInt64.reduceToNat]; try omega))) only [↓Sx.S0, Sx.S1, Tryz.fx, uWO_1, Nat.reduceAdd, Nat.reducePow, Int.reducePow, Nat.reduceBEq, ↓reduceIte, UInt8.reduceToNat, UInt16.reduceToNat, UInt32.reduceToNat, UInt64.reduceToNat, Int.reduceToNat, ht.len, hl.len, hsl, hlen3]))
    refine Cw.loopG (G := OG) [59, 60, 61, 10, 62, 63, 64, 65, 66, 67, 68, 69, 70, 71, 4, 5, 72, 58] (fun g => [(58, vi g.g)]) (fun g => [(bx, .cells #[vt, vl] 24 (0, 0)), (bm, g.o)]) (fun g => g.g ≤ k ∧ logM nameV z32 (prs l) m g.g = some g.m ∧ MapR g.o g.m) (fun g => k - g.g) ⟨0, m, o⟩ rfl rfl ?_ ?_
    · exact ⟨Nat.zero_le _, rfl, hgo⟩
    intro g j hg
    simp only [overFrom, pin, setF_0, setF_s, List.contains_cons, List.contains_nil, Nat.reduceBEq, Bool.or_false, Bool.false_or, Bool.or_true, Bool.true_or, Nat.reduceAdd, ↓reduceIte, Bool.false_eq_true]
    obtain ⟨g, mm, o⟩ := g
    simp only at hg ⊢
    obtain ⟨hgl2, hgm2, hgo2⟩ := hg
    by_cases hlt2 : g < k
    · have hb3 := h3.has (by omega)
      have hb3l := h3.lt (by omega)
      have ld3 := h3.load refC_len (by omega) (show g < (l.take k).length by omega)
      have hgt : (l.take k).getD g ref0 = l.getD g ref0 := by rw [List.getD_eq_getElem?_getD, List.getD_eq_getElem?_getD, List.getElem?_take_of_lt hlt2]
      rw [hgt] at ld3
      have hix3 := h3.idx true g (by omega)
      have hil := (l.getD g ref0).id.h
      have hnm := hnl g (by omega)
      have hpg := prs_getD l g (by omega)
      generalize hr : l.getD g ref0 = r at *
      ((try with_reducible refine Cw.go [13] ?_); (try simp (disch := (first | assumption | omega | (simp only [lenS, lenT, UInt64.reduceToNat]; try omega))) only [↓Sx.S0, Sx.S1, Tryz.fx, uWO_1, Nat.reduceAdd, Nat.reducePow, Int.reducePow, Nat.reduceBEq, ↓reduceIte, UInt8.reduceToNat, UInt16.reduceToNat, UInt32.reduceToNat, UInt64.reduceToNat, Int.reduceToNat, hix3, hb3, ld3]))
      refine Ow.alloc rfl rfl zrRef fun b5 hb5 hw5 => ?_
      simp only [cells_agg, List.nil_append, List.cons_append]
      obtain ⟨hx5, hm5, -⟩ := hb5
      refine Ow.go rfl ?_
      simp (disch := (first | assumption | omega | (simp only [lenS, lenT, UInt64.reduceToNat]; try omega))) only [↓Sx.S0, Sx.S1, Tryz.fx, uWO_1, Nat.reduceAdd, Nat.reducePow, Int.reducePow, Nat.reduceBEq, ↓reduceIte, UInt8.reduceToNat, UInt16.reduceToNat, UInt32.reduceToNat, UInt64.reduceToNat, Int.reduceToNat]
      ((try with_reducible refine Cw.go [] ?_); (try simp (disch := (first | assumption | omega | (simp only [lenS, lenT, UInt64.reduceToNat]; try omega))) only [↓Sx.S0, Sx.S1, Tryz.fx, uWO_1, Nat.reduceAdd, Nat.reducePow, Int.reducePow, Nat.reduceBEq, ↓reduceIte, UInt8.reduceToNat, UInt16.reduceToNat, UInt32.reduceToNat, UInt64.reduceToNat, Int.reduceToNat]))
      refine Ow.callFV rfl Tryz.call40 (fun w' hw' => isNameV_spec r.name w' hnm) ?_
      cases hn : nameV r.name
      · refine Ow.go rfl ?_
        simp (disch := (first | assumption | omega | (simp only [lenS, lenT, UInt64.reduceToNat]; try omega))) only [↓Sx.S0, Sx.S1, Tryz.fx, uWO_1, Nat.reduceAdd, Nat.reducePow, Int.reducePow, Nat.reduceBEq, ↓reduceIte, UInt8.reduceToNat, UInt16.reduceToNat, UInt32.reduceToNat, UInt64.reduceToNat, Int.reduceToNat]
        try with_reducible refine Ow.nil ?_
        ((try with_reducible refine Cw.go [] ?_); (try simp (disch := (first | assumption | omega | (simp only [lenS, lenT, UInt64.reduceToNat]; try omega))) only [↓Sx.S0, Sx.S1, Tryz.fx, uWO_1, Nat.reduceAdd, Nat.reducePow, Int.reducePow, Nat.reduceBEq, ↓reduceIte, UInt8.reduceToNat, UInt16.reduceToNat, UInt32.reduceToNat, UInt64.reduceToNat, Int.reduceToNat]))
        refine ⟨_, (by simp (disch := (first | assumption | omega | (simp only [lenS, lenT, UInt64.reduceToNat]; try omega))) only [↓Sx.S0, Sx.S1, Tryz.fx, uWO_1, Nat.reduceAdd, Nat.reducePow, Int.reducePow, Nat.reduceBEq, ↓reduceIte, UInt8.reduceToNat, UInt16.reduceToNat, UInt32.reduceToNat, UInt64.reduceToNat, Int.reduceToNat]; rfl), ?_⟩
        exact OfS.log hgm (by rw [logM_step hgm2, hpg]; simp only [hn, Bool.false_and, Bool.false_eq_true, ↓reduceIte]) hlt2 ⟨hwx, hwm, hw5, trivial⟩
      · refine Ow.go rfl ?_
        simp (disch := (first | assumption | omega | (simp only [lenS, lenT, UInt64.reduceToNat]; try omega))) only [↓Sx.S0, Sx.S1, Tryz.fx, uWO_1, Nat.reduceAdd, Nat.reducePow, Int.reducePow, Nat.reduceBEq, ↓reduceIte, UInt8.reduceToNat, UInt16.reduceToNat, UInt32.reduceToNat, UInt64.reduceToNat, Int.reduceToNat]
        refine Ow.callE rfl rfl Tryz.call52 (by simp [keys]) (fun w' hw' => set_spec bm o mm r w' (hw'.has _ _ (List.mem_cons_of_mem _ List.mem_cons_self)) hgo2) (fun v o' hS => ?_)
        simp (disch := (first | assumption | omega | (simp only [lenS, lenT, UInt64.reduceToNat]; try omega))) only [setB_same, setB_other, List.cons_append, List.nil_append]
        obtain ⟨rfl, hm'⟩ := hS
        rw [setV_eq] at hm' ⊢
        by_cases h16 : (setM z32 (r.name, r.id.l) mm).length ≤ 16
        · have hd2 : decide ((setM z32 (r.name, r.id.l) mm).length ≤ 16) = true := by simpa using h16
          refine Ow.go rfl ?_
          simp (disch := (first | assumption | omega | (simp only [lenS, lenT, UInt64.reduceToNat]; try omega))) only [↓Sx.S0, Sx.S1, Tryz.fx, uWO_1, Nat.reduceAdd, Nat.reducePow, Int.reducePow, Nat.reduceBEq, ↓reduceIte, UInt8.reduceToNat, UInt16.reduceToNat, UInt32.reduceToNat, UInt64.reduceToNat, Int.reduceToNat, hd2]
          try with_reducible refine Ow.nil ?_
          refine Cw.forgetN [(bx, .cells #[vt, vl] 24 (0, 0)), (bm, o')] (by exact ⟨hwx, hwm, hw5, trivial⟩) (by intro p hp; simp only [List.mem_cons, List.not_mem_nil, or_false] at hp ⊢; all_goals (first | (rcases hp with rfl | hp <;> simp_all) | (subst hp; simp) | simp_all)) (by simp [keys] <;> omega) ?_
          ((try with_reducible refine Cw.go [] ?_); (try simp (disch := (first | assumption | omega | (simp only [lenS, lenT, UInt64.reduceToNat]; try omega))) only [↓Sx.S0, Sx.S1, Tryz.fx, uWO_1, Nat.reduceAdd, Nat.reducePow, Int.reducePow, Nat.reduceBEq, ↓reduceIte, UInt8.reduceToNat, UInt16.reduceToNat, UInt32.reduceToNat, UInt64.reduceToNat, Int.reduceToNat]))
          refine Again.mk ⟨g + 1, setM z32 (r.name, r.id.l) mm, o'⟩ (by simp only; omega) ⟨hlt2, ?_, hm'⟩ rfl rfl
          rw [logM_step hgm2, hpg]
          simp only [hn, hd2, Bool.and_true, ↓reduceIte]
        · have hd2 : decide ((setM z32 (r.name, r.id.l) mm).length ≤ 16) = false := by simpa using h16
          refine Ow.go rfl ?_
          simp (disch := (first | assumption | omega | (simp only [lenS, lenT, UInt64.reduceToNat]; try omega))) only [↓Sx.S0, Sx.S1, Tryz.fx, uWO_1, Nat.reduceAdd, Nat.reducePow, Int.reducePow, Nat.reduceBEq, ↓reduceIte, UInt8.reduceToNat, UInt16.reduceToNat, UInt32.reduceToNat, UInt64.reduceToNat, Int.reduceToNat, hd2]
          try with_reducible refine Ow.nil ?_
          ((try with_reducible refine Cw.go [] ?_); (try simp (disch := (first | assumption | omega | (simp only [lenS, lenT, UInt64.reduceToNat]; try omega))) only [↓Sx.S0, Sx.S1, Tryz.fx, uWO_1, Nat.reduceAdd, Nat.reducePow, Int.reducePow, Nat.reduceBEq, ↓reduceIte, UInt8.reduceToNat, UInt16.reduceToNat, UInt32.reduceToNat, UInt64.reduceToNat, Int.reduceToNat]))
          refine ⟨_, (by simp (disch := (first | assumption | omega | (simp only [lenS, lenT, UInt64.reduceToNat]; try omega))) only [↓Sx.S0, Sx.S1, Tryz.fx, uWO_1, Nat.reduceAdd, Nat.reducePow, Int.reducePow, Nat.reduceBEq, ↓reduceIte, UInt8.reduceToNat, UInt16.reduceToNat, UInt32.reduceToNat, UInt64.reduceToNat, Int.reduceToNat]; rfl), ?_⟩
          exact OfS.log hgm (by rw [logM_step hgm2, hpg]; simp only [hd2, Bool.and_false, Bool.false_eq_true, ↓reduceIte]) hlt2 ⟨hwx, hwm, hw5, trivial⟩
    · obtain rfl : g = k := by omega
      ((try with_reducible refine Cw.go [1000014] ?_); (try simp (disch := (first | assumption | omega | (simp only [lenS, lenT, UInt64.reduceToNat]; try omega))) only [↓Sx.S0, Sx.S1, Tryz.fx, uWO_1, Nat.reduceAdd, Nat.reducePow, Int.reducePow, Nat.reduceBEq, ↓reduceIte, UInt8.reduceToNat, UInt16.reduceToNat, UInt32.reduceToNat, UInt64.reduceToNat, Int.reduceToNat, hl.len]))
      refine Cw.seq ?_
      refine Cw.regionS [bx] [0, 1, 5, 2, 3, 4, 6] [] (by kernel_rfl) (by kernel_rfl) (by kernel_rfl) ?_
      simp only [nl_cons, ↓pickL_nil, ↓pickL_cons, ↓nthO_0, ↓nthO_s, consO_some]
      refine Ow.goQ ?_
      simp (disch := (first | assumption | omega | (simp only [lenS, lenT, UInt64.reduceToNat]; try omega))) only [↓Sx.S0, Sx.S1, Tryz.fx, uWO_1, Nat.reduceAdd, Nat.reducePow, Int.reducePow, Nat.reduceBEq, ↓reduceIte, UInt8.reduceToNat, UInt16.reduceToNat, UInt32.reduceToNat, UInt64.reduceToNat, Int.reduceToNat, hl.len]
      try with_reducible refine Ow.nil ?_
      refine Cw.forgetN [(bm, o)] (by exact ⟨hwx, hwm, trivial⟩) (by intro p hp; simp only [List.mem_cons, List.not_mem_nil, or_false] at hp ⊢; all_goals (first | (rcases hp with rfl | hp <;> simp_all) | (subst hp; simp) | simp_all)) (by simp [keys] <;> omega) ?_
      ((try with_reducible refine Cw.go [] ?_); (try simp (disch := (first | assumption | omega | (simp only [lenS, lenT, UInt64.reduceToNat]; try omega))) only [↓Sx.S0, Sx.S1, Tryz.fx, uWO_1, Nat.reduceAdd, Nat.reducePow, Int.reducePow, Nat.reduceBEq, ↓reduceIte, UInt8.reduceToNat, UInt16.reduceToNat, UInt32.reduceToNat, UInt64.reduceToNat, Int.reduceToNat]))
      refine ⟨_, (by simp (disch := (first | assumption | omega | (simp only [lenS, lenT, UInt64.reduceToNat]; try omega))) only [↓Sx.S0, Sx.S1, Tryz.fx, uWO_1, Nat.reduceAdd, Nat.reducePow, Int.reducePow, Nat.reduceBEq, ↓reduceIte, UInt8.reduceToNat, UInt16.reduceToNat, UInt32.reduceToNat, UInt64.reduceToNat, Int.reduceToNat]; rfl), ?_⟩
      unfold OfS ofM
      rw [prs_len, hgm, Option.bind_some, hgm2]
      exact ⟨bm, o, congrArg (fun b => Value.tuple #[vm bm, .bool b]) (decide_eq_decide.2 (by omega)), rfl, hgo2, hwm⟩
end Go.Proofs
end
section
open Go Go.Proofs Go.Sx Go.RefP
namespace Go.Proofs
set_option maxRecDepth 10000
set_option maxHeartbeats 4000000
set_option linter.unusedSimpArgs false
set_option linter.defProp false
def uWP_1 := And.intro (And.intro (And.intro (@rdIn_v8) (And.intro (@rdIn_v16) (@rdIn_v32))) (And.intro (And.intro (@rdIn_v64) (@rdIn_vi)) (And.intro (@load_ref0) (@load_ref1)))) (And.intro (And.intro (And.intro (@cells_ref) (@eqIdz)) (And.intro (@store_rr) (@load_ref))) (And.intro (And.intro (@load_bk0) (@load_bk1)) (And.intro (@tup2_0) (@tup2_1))))
theorem load_bk (a b : Value) (E : TypeId) : loadV (some (true, 2)) (some (.cells #[a, b] E (0, 0))) 0 = some (.agg #[a, b]) := load_all _ E (0, 0) 2 rfl
/-- Names that are not too long. -/
def ShortN (l : List RefL) : Prop := ∀ g, g < l.length → (l.getD g ref0).name.length < 1099511627776
theorem Right_spec (vt vl : Value) (t l : List RefL) (w : World) (ht : RefSl w vt t) (hl : RefSl w vl l) (htl : t.length < 1000000) (hll : l.length < 1000000) (hnt : ShortN t) (hnl : ShortN l) :
    Rets Tryz.prog 8 #[.agg #[vt, vl]] w (fun v D => v = .bool (rightB t l) ∧ D = []) := by
  unfold rightB rightM
  rw [prs_len]
  refine Rets.enterV Tryz.func8 rfl (rs := [.tmp 2]) Tryz.results8 Tryz.ntmps8 ?_
  simp only [List.size_toArray, List.length_cons, List.length_nil, Nat.reduceAdd, Nat.reduceSub, List.replicate_succ, List.replicate_zero, List.cons_append, List.nil_append]
  ((try with_reducible refine Cw.go [] ?_); (try simp (disch := (first | assumption | omega | (simp only [lenS, lenT, UInt64.reduceToNat]; try omega))) only [↓Sx.S0, Sx.S1, Tryz.fx, uWP_1, Nat.reduceAdd, Nat.reducePow, Int.reducePow, Nat.reduceBEq, ↓reduceIte, UInt8.reduceToNat, UInt16.reduceToNat, UInt32.reduceToNat, UInt64.reduceToNat, Int.reduceToNat]))
  refine Ow.box rfl rfl fun bx hbx hwx => ?_
  simp only [ev_tmp, getF_0, getF_s, cells_agg, List.nil_append, List.cons_append]
  refine Ow.go rfl ?_
  simp (disch := (first | assumption | omega | (simp only [lenS, lenT, UInt64.reduceToNat]; try omega))) only [↓Sx.S0, Sx.S1, Tryz.fx, uWP_1, Nat.reduceAdd, Nat.reducePow, Int.reducePow, Nat.reduceBEq, ↓reduceIte, UInt8.reduceToNat, UInt16.reduceToNat, UInt32.reduceToNat, UInt64.reduceToNat, Int.reduceToNat]
  ((try with_reducible refine Cw.go [] ?_); (try simp (disch := (first | assumption | omega | (simp only [lenS, lenT, UInt64.reduceToNat]; try omega))) only [↓Sx.S0, Sx.S1, Tryz.fx, uWP_1, Nat.reduceAdd, Nat.reducePow, Int.reducePow, Nat.reduceBEq, ↓reduceIte, UInt8.reduceToNat, UInt16.reduceToNat, UInt32.reduceToNat, UInt64.reduceToNat, Int.reduceToNat, hl.len, load_bk]))
  refine Ow.callN rfl rfl Tryz.call27 (S := (fun B v D => OfS B t l l.length v D)) (fun w' hw' => of_spec vt vl t l l.length w' (ht.oldN hw' ⟨hwx, trivial⟩) (hl.oldN hw' ⟨hwx, trivial⟩) htl hll (Nat.le_refl _) hnt hnl) (fun B v D h => h.new) (fun B v D hA hB hS => ?_)
  have hnew := hS.new
  unfold OfS at hS
  cases ho : ofM nameV z32 (prs t) (prs l) l.length with
  | none =>
    rw [ho] at hS
    obtain ⟨rfl, hD⟩ := hS
    refine Ow.go rfl ?_
    simp (disch := (first | assumption | omega | (simp only [lenS, lenT, UInt64.reduceToNat]; try omega))) only [↓Sx.S0, Sx.S1, Tryz.fx, uWP_1, Nat.reduceAdd, Nat.reducePow, Int.reducePow, Nat.reduceBEq, ↓reduceIte, UInt8.reduceToNat, UInt16.reduceToNat, UInt32.reduceToNat, UInt64.reduceToNat, Int.reduceToNat]
    ((try with_reducible refine Cw.go [] ?_); (try simp (disch := (first | assumption | omega | (simp only [lenS, lenT, UInt64.reduceToNat]; try omega))) only [↓Sx.S0, Sx.S1, Tryz.fx, uWP_1, Nat.reduceAdd, Nat.reducePow, Int.reducePow, Nat.reduceBEq, ↓reduceIte, UInt8.reduceToNat, UInt16.reduceToNat, UInt32.reduceToNat, UInt64.reduceToNat, Int.reduceToNat]))
    refine ⟨_, (by simp (disch := (first | assumption | omega | (simp only [lenS, lenT, UInt64.reduceToNat]; try omega))) only [↓Sx.S0, Sx.S1, Tryz.fx, uWP_1, Nat.reduceAdd, Nat.reducePow, Int.reducePow, Nat.reduceBEq, ↓reduceIte, UInt8.reduceToNat, UInt16.reduceToNat, UInt32.reduceToNat, UInt64.reduceToNat, Int.reduceToNat]; rfl), ⟨hwx, hnew.mono hB⟩, ?_⟩
    rfl
  | some m =>
    rw [ho] at hS
    obtain ⟨b, o, rfl, rfl, hm, hb⟩ := hS
    refine Ow.go rfl ?_
    simp (disch := (first | assumption | omega | (simp only [lenS, lenT, UInt64.reduceToNat]; try omega))) only [↓Sx.S0, Sx.S1, Tryz.fx, uWP_1, Nat.reduceAdd, Nat.reducePow, Int.reducePow, Nat.reduceBEq, ↓reduceIte, UInt8.reduceToNat, UInt16.reduceToNat, UInt32.reduceToNat, UInt64.reduceToNat, Int.reduceToNat]
    ((try with_reducible refine Cw.go [] ?_); (try simp (disch := (first | assumption | omega | (simp only [lenS, lenT, UInt64.reduceToNat]; try omega))) only [↓Sx.S0, Sx.S1, Tryz.fx, uWP_1, Nat.reduceAdd, Nat.reducePow, Int.reducePow, Nat.reduceBEq, ↓reduceIte, UInt8.reduceToNat, UInt16.reduceToNat, UInt32.reduceToNat, UInt64.reduceToNat, Int.reduceToNat]))
    refine ⟨_, (by simp (disch := (first | assumption | omega | (simp only [lenS, lenT, UInt64.reduceToNat]; try omega))) only [↓Sx.S0, Sx.S1, Tryz.fx, uWP_1, Nat.reduceAdd, Nat.reducePow, Int.reducePow, Nat.reduceBEq, ↓reduceIte, UInt8.reduceToNat, UInt16.reduceToNat, UInt32.reduceToNat, UInt64.reduceToNat, Int.reduceToNat]; rfl), ⟨hwx, Nat.le_trans hB hb, trivial⟩, ?_⟩
    simp [tupV]
theorem getV_len {m : Vals} {n z : List UInt8} (h : AllLen m) (hz : z.length = 32) : (getV n z m).length = 32 := by
  unfold getV
  cases hf : m.find? fun p => n == p.1 with
  | none => exact hz
  | some p => exact h p (List.mem_of_find?_eq_some hf)
theorem prs_ids (l : List RefL) : ∀ g, g < (prs l).length → ((prs l).getD g zp).2.length = 32 := by
  intro g hg
  rw [prs_len] at hg
  rw [prs_getD l g hg]
  exact (l.getD g ref0).id.h
/-- A name's value. -/
def valueB (t l : List RefL) (n : List UInt8) : List UInt8 :=
  match ofM nameV z32 (prs t) (prs l) l.length with
  | some m => if l.length ≤ 100 then getV n z32 m else z32
  | none => z32
theorem Value_spec (vt vl : Value) (t l : List RefL) (n : List UInt8) (w : World) (ht : RefSl w vt t) (hl : RefSl w vl l) (htl : t.length < 1000000) (hll : l.length < 1000000) (hnt : ShortN t) (hnl : ShortN l) :
    Rets Tryz.prog 10 #[.agg #[vt, vl], vs n] w (fun v D => v = .agg (a8 (valueB t l n)) ∧ D = []) := by
  refine Rets.enterV Tryz.func10 rfl (rs := [.cell 4 34]) Tryz.results10 Tryz.ntmps10 ?_
  simp only [List.size_toArray, List.length_cons, List.length_nil, Nat.reduceAdd, Nat.reduceSub, List.replicate_succ, List.replicate_zero, List.cons_append, List.nil_append]
  ((try with_reducible refine Cw.go [] ?_); (try simp (disch := (first | assumption | omega | (simp only [lenS, lenT, UInt64.reduceToNat]; try omega))) only [↓Sx.S0, Sx.S1, Tryz.fx, uWP_1, Nat.reduceAdd, Nat.reducePow, Int.reducePow, Nat.reduceBEq, ↓reduceIte, UInt8.reduceToNat, UInt16.reduceToNat, UInt32.reduceToNat, UInt64.reduceToNat, Int.reduceToNat]))
  refine Ow.box rfl rfl fun bx hbx hwx => ?_
  simp only [ev_tmp, getF_0, getF_s, cells_agg, List.nil_append, List.cons_append]
  refine Ow.go rfl ?_
  simp (disch := (first | assumption | omega | (simp only [lenS, lenT, UInt64.reduceToNat]; try omega))) only [↓Sx.S0, Sx.S1, Tryz.fx, uWP_1, Nat.reduceAdd, Nat.reducePow, Int.reducePow, Nat.reduceBEq, ↓reduceIte, UInt8.reduceToNat, UInt16.reduceToNat, UInt32.reduceToNat, UInt64.reduceToNat, Int.reduceToNat]
  have zrId : zeroV Tryz.prog 34 = some (.agg (a8 (List.replicate 32 0))) := Tryz.zr34
  rw [show (List.replicate 32 (0 : UInt8)) = z32 from rfl] at zrId
  have hzl : z32.length = 32 := by simp [z32]
  refine Ow.alloc rfl rfl zrId fun b1 hb1 hw1 => ?_
  simp only [cells_agg, List.nil_append, List.cons_append]
  obtain ⟨hx1, -⟩ := hb1
  refine Ow.go rfl ?_
  simp (disch := (first | assumption | omega | (simp only [lenS, lenT, UInt64.reduceToNat]; try omega))) only [↓Sx.S0, Sx.S1, Tryz.fx, uWP_1, Nat.reduceAdd, Nat.reducePow, Int.reducePow, Nat.reduceBEq, ↓reduceIte, UInt8.reduceToNat, UInt16.reduceToNat, UInt32.reduceToNat, UInt64.reduceToNat, Int.reduceToNat]
  ((try with_reducible refine Cw.go [] ?_); (try simp (disch := (first | assumption | omega | (simp only [lenS, lenT, UInt64.reduceToNat]; try omega))) only [↓Sx.S0, Sx.S1, Tryz.fx, uWP_1, Nat.reduceAdd, Nat.reducePow, Int.reducePow, Nat.reduceBEq, ↓reduceIte, UInt8.reduceToNat, UInt16.reduceToNat, UInt32.reduceToNat, UInt64.reduceToNat, Int.reduceToNat, hl.len, load_bk]))
  refine Ow.callN rfl rfl Tryz.call27 (S := (fun B v D => OfS B t l l.length v D)) (fun w' hw' => of_spec vt vl t l l.length w' (ht.oldN hw' ⟨hwx, hw1, trivial⟩) (hl.oldN hw' ⟨hwx, hw1, trivial⟩) htl hll (Nat.le_refl _) hnt hnl) (fun B v D h => h.new) (fun B v D hA hB hS => ?_)
  have hnew := hS.new
  unfold OfS at hS
  unfold valueB
  cases ho : ofM nameV z32 (prs t) (prs l) l.length with
  | none =>
    rw [ho] at hS
    obtain ⟨rfl, hD⟩ := hS
    refine Ow.go rfl ?_
    simp (disch := (first | assumption | omega | (simp only [lenS, lenT, UInt64.reduceToNat]; try omega))) only [↓Sx.S0, Sx.S1, Tryz.fx, uWP_1, Nat.reduceAdd, Nat.reducePow, Int.reducePow, Nat.reduceBEq, ↓reduceIte, UInt8.reduceToNat, UInt16.reduceToNat, UInt32.reduceToNat, UInt64.reduceToNat, Int.reduceToNat]
    ((try with_reducible refine Cw.go [] ?_); (try simp (disch := (first | assumption | omega | (simp only [lenS, lenT, UInt64.reduceToNat]; try omega))) only [↓Sx.S0, Sx.S1, Tryz.fx, uWP_1, Nat.reduceAdd, Nat.reducePow, Int.reducePow, Nat.reduceBEq, ↓reduceIte, UInt8.reduceToNat, UInt16.reduceToNat, UInt32.reduceToNat, UInt64.reduceToNat, Int.reduceToNat]))
    refine Ow.build (.agg (a8 z32)) rfl (by kernel_rfl) ?_
    refine Ow.go rfl ?_
    simp (disch := (first | assumption | omega | (simp only [lenS, lenT, UInt64.reduceToNat]; try omega))) only [↓Sx.S0, Sx.S1, Tryz.fx, uWP_1, Nat.reduceAdd, Nat.reducePow, Int.reducePow, Nat.reduceBEq, ↓reduceIte, UInt8.reduceToNat, UInt16.reduceToNat, UInt32.reduceToNat, UInt64.reduceToNat, Int.reduceToNat]
    ((try with_reducible refine Cw.go [] ?_); (try simp (disch := (first | assumption | omega | (simp only [lenS, lenT, UInt64.reduceToNat]; try omega))) only [↓Sx.S0, Sx.S1, Tryz.fx, uWP_1, Nat.reduceAdd, Nat.reducePow, Int.reducePow, Nat.reduceBEq, ↓reduceIte, UInt8.reduceToNat, UInt16.reduceToNat, UInt32.reduceToNat, UInt64.reduceToNat, Int.reduceToNat]))
    refine ⟨_, (by simp (disch := (first | assumption | omega | (simp only [lenS, lenT, UInt64.reduceToNat]; try omega))) only [↓Sx.S0, Sx.S1, Tryz.fx, uWP_1, Nat.reduceAdd, Nat.reducePow, Int.reducePow, Nat.reduceBEq, ↓reduceIte, UInt8.reduceToNat, UInt16.reduceToNat, UInt32.reduceToNat, UInt64.reduceToNat, Int.reduceToNat]; rfl), ⟨hwx, hw1, hnew.mono hB⟩, ?_⟩
    rfl
  | some m =>
    rw [ho] at hS
    obtain ⟨b, o, rfl, rfl, hm, hb⟩ := hS
    obtain ⟨hxb, h1b, -⟩ := hA
    have hwb := Nat.le_trans hB hb
    by_cases h100 : l.length ≤ 100
    · have hd : decide (l.length ≤ 100) = true := by simpa using h100
      refine Ow.go rfl ?_
      simp (disch := (first | assumption | omega | (simp only [lenS, lenT, UInt64.reduceToNat]; try omega))) only [↓Sx.S0, Sx.S1, Tryz.fx, uWP_1, Nat.reduceAdd, Nat.reducePow, Int.reducePow, Nat.reduceBEq, ↓reduceIte, UInt8.reduceToNat, UInt16.reduceToNat, UInt32.reduceToNat, UInt64.reduceToNat, Int.reduceToNat]
      ((try with_reducible refine Cw.go [] ?_); (try simp (disch := (first | assumption | omega | (simp only [lenS, lenT, UInt64.reduceToNat]; try omega))) only [↓Sx.S0, Sx.S1, Tryz.fx, uWP_1, Nat.reduceAdd, Nat.reducePow, Int.reducePow, Nat.reduceBEq, ↓reduceIte, UInt8.reduceToNat, UInt16.reduceToNat, UInt32.reduceToNat, UInt64.reduceToNat, Int.reduceToNat, hd]))
      refine Ow.mapGet rfl rfl Tryz.underlying64 Tryz.underlying9 zrId rfl rfl (read_look (by rw [look_other _ _ _ _ (by omega), look_other _ _ _ _ (by omega)]; exact look_same _ _ _)) hm ?_
      have hgl := getV_len (n := n) (ofM_len (prs_ids t) (prs_ids l) (by rw [prs_len]; exact Nat.le_refl _) ho) hzl
      refine Ow.go rfl ?_
      simp (disch := (first | assumption | omega | (simp only [lenS, lenT, UInt64.reduceToNat]; try omega))) only [↓Sx.S0, Sx.S1, Tryz.fx, uWP_1, Nat.reduceAdd, Nat.reducePow, Int.reducePow, Nat.reduceBEq, ↓reduceIte, UInt8.reduceToNat, UInt16.reduceToNat, UInt32.reduceToNat, UInt64.reduceToNat, Int.reduceToNat]
      ((try with_reducible refine Cw.go [] ?_); (try simp (disch := (first | assumption | omega | (simp only [lenS, lenT, UInt64.reduceToNat]; try omega))) only [↓Sx.S0, Sx.S1, Tryz.fx, uWP_1, Nat.reduceAdd, Nat.reducePow, Int.reducePow, Nat.reduceBEq, ↓reduceIte, UInt8.reduceToNat, UInt16.reduceToNat, UInt32.reduceToNat, UInt64.reduceToNat, Int.reduceToNat]))
      refine ⟨_, (by simp (disch := (first | assumption | omega | (simp only [lenS, lenT, UInt64.reduceToNat]; try omega))) only [↓Sx.S0, Sx.S1, Tryz.fx, uWP_1, Nat.reduceAdd, Nat.reducePow, Int.reducePow, Nat.reduceBEq, ↓reduceIte, UInt8.reduceToNat, UInt16.reduceToNat, UInt32.reduceToNat, UInt64.reduceToNat, Int.reduceToNat]; rfl), ⟨hwx, hw1, hwb, trivial⟩, ?_⟩
      exact congrArg (fun x => Value.agg (a8 x)) (if_pos h100).symm
    · have hd : decide (l.length ≤ 100) = false := by simpa using h100
      refine Ow.go rfl ?_
      simp (disch := (first | assumption | omega | (simp only [lenS, lenT, UInt64.reduceToNat]; try omega))) only [↓Sx.S0, Sx.S1, Tryz.fx, uWP_1, Nat.reduceAdd, Nat.reducePow, Int.reducePow, Nat.reduceBEq, ↓reduceIte, UInt8.reduceToNat, UInt16.reduceToNat, UInt32.reduceToNat, UInt64.reduceToNat, Int.reduceToNat]
      ((try with_reducible refine Cw.go [] ?_); (try simp (disch := (first | assumption | omega | (simp only [lenS, lenT, UInt64.reduceToNat]; try omega))) only [↓Sx.S0, Sx.S1, Tryz.fx, uWP_1, Nat.reduceAdd, Nat.reducePow, Int.reducePow, Nat.reduceBEq, ↓reduceIte, UInt8.reduceToNat, UInt16.reduceToNat, UInt32.reduceToNat, UInt64.reduceToNat, Int.reduceToNat, hd]))
      refine Ow.build (.agg (a8 z32)) rfl (by kernel_rfl) ?_
      refine Ow.go rfl ?_
      simp (disch := (first | assumption | omega | (simp only [lenS, lenT, UInt64.reduceToNat]; try omega))) only [↓Sx.S0, Sx.S1, Tryz.fx, uWP_1, Nat.reduceAdd, Nat.reducePow, Int.reducePow, Nat.reduceBEq, ↓reduceIte, UInt8.reduceToNat, UInt16.reduceToNat, UInt32.reduceToNat, UInt64.reduceToNat, Int.reduceToNat]
      ((try with_reducible refine Cw.go [] ?_); (try simp (disch := (first | assumption | omega | (simp only [lenS, lenT, UInt64.reduceToNat]; try omega))) only [↓Sx.S0, Sx.S1, Tryz.fx, uWP_1, Nat.reduceAdd, Nat.reducePow, Int.reducePow, Nat.reduceBEq, ↓reduceIte, UInt8.reduceToNat, UInt16.reduceToNat, UInt32.reduceToNat, UInt64.reduceToNat, Int.reduceToNat]))
      refine ⟨_, (by simp (disch := (first | assumption | omega | (simp only [lenS, lenT, UInt64.reduceToNat]; try omega))) only [↓Sx.S0, Sx.S1, Tryz.fx, uWP_1, Nat.reduceAdd, Nat.reducePow, Int.reducePow, Nat.reduceBEq, ↓reduceIte, UInt8.reduceToNat, UInt16.reduceToNat, UInt32.reduceToNat, UInt64.reduceToNat, Int.reduceToNat]; rfl), ⟨hwx, hw1, hwb, trivial⟩, ?_⟩
      exact congrArg (fun x => Value.agg (a8 x)) (if_neg h100).symm
end Go.Proofs
end
