/-
  Part 3 of the walk: contracts of the functions that the law reaches, and the calculus they stand on.
  No conditions.
-/
import Derived.Test.YteppologbikipaaDoorR2
section
open Go Go.Proofs Go.Sx
namespace Go.Proofs
set_option maxRecDepth 10000
set_option maxHeartbeats 4000000
set_option linter.unusedSimpArgs false
/-! ### Names -/
def badR (c : Int) : Bool := decide (c < 33) || decide (126 < c) || (c == 47)
def badB (b : UInt8) : Bool := decide (b.toNat < 33) || decide (126 < b.toNat) || (b.toNat == 47)
theorem eqb (a b : Bool) : binX Tryd.prog .eql 4 (.bool a) (.bool b) = some (.bool (a == b)) := by
  simp [binX, eqX, plainV, eqNilV, Tryd.underlying4]
theorem tup1_0 (a : Value) : (#[a] : Array Value)[0]? = some a := (rfl)
set_option linter.defProp false
def uOJ_1 := And.intro (And.intro (And.intro (@rdIn_v8) (And.intro (@rdIn_v16) (@rdIn_v32))) (And.intro (And.intro (@rdIn_v64) (@rdIn_vi)) (And.intro (@binX_i32) (@bin_lss_i32)))) (And.intro (And.intro (And.intro (@bin_gtr_i32) (@bin_eql_i32)) (And.intro (@lit_i32) (@tup1_0))) (And.intro (And.intro (@Sx.tup3_0) (@Sx.tup3_1)) (And.intro (@Sx.tup3_2) (@eqb))))
theorem isNameC_spec (c : Int) (w : World) : Rets Tryd.prog 153 #[v32i c] w (fun v D => v = .bool (badR c) ∧ D = []) := by
  refine Rets.enterV Tryd.func153 rfl (rs := [.tmp 2]) Tryd.results153 Tryd.ntmps153 ?_
  simp only [List.size_toArray, List.length_cons, List.length_nil, Nat.reduceAdd, Nat.reduceSub, List.replicate_succ, List.replicate_zero, List.cons_append, List.nil_append]
  unfold badR
  cases h1 : decide (c < 33)
  · cases h2 : decide (126 < c)
    · ((try with_reducible refine Cw.go [] ?_); (try simp (disch := (first | assumption | omega | (simp only [lenS, lenT, UInt64.reduceToNat]; try omega))) only [↓Sx.S0, Sx.S1, Tryd.fx, uOJ_1, Nat.reduceAdd, Nat.reducePow, Int.reducePow, Nat.reduceBEq, ↓reduceIte, UInt8.reduceToNat, UInt16.reduceToNat, UInt32.reduceToNat, UInt64.reduceToNat, Int.reduceToNat, h1, h2]))
      refine ⟨_, (by simp (disch := (first | assumption | omega | (simp only [lenS, lenT, UInt64.reduceToNat]; try omega))) only [↓Sx.S0, Sx.S1, Tryd.fx, uOJ_1, Nat.reduceAdd, Nat.reducePow, Int.reducePow, Nat.reduceBEq, ↓reduceIte, UInt8.reduceToNat, UInt16.reduceToNat, UInt32.reduceToNat, UInt64.reduceToNat, Int.reduceToNat]; rfl), trivial, ?_⟩
      simp [tupV]
    · ((try with_reducible refine Cw.go [] ?_); (try simp (disch := (first | assumption | omega | (simp only [lenS, lenT, UInt64.reduceToNat]; try omega))) only [↓Sx.S0, Sx.S1, Tryd.fx, uOJ_1, Nat.reduceAdd, Nat.reducePow, Int.reducePow, Nat.reduceBEq, ↓reduceIte, UInt8.reduceToNat, UInt16.reduceToNat, UInt32.reduceToNat, UInt64.reduceToNat, Int.reduceToNat, h1, h2]))
      refine ⟨_, (by simp (disch := (first | assumption | omega | (simp only [lenS, lenT, UInt64.reduceToNat]; try omega))) only [↓Sx.S0, Sx.S1, Tryd.fx, uOJ_1, Nat.reduceAdd, Nat.reducePow, Int.reducePow, Nat.reduceBEq, ↓reduceIte, UInt8.reduceToNat, UInt16.reduceToNat, UInt32.reduceToNat, UInt64.reduceToNat, Int.reduceToNat]; rfl), trivial, ?_⟩
      simp [tupV]
  · ((try with_reducible refine Cw.go [] ?_); (try simp (disch := (first | assumption | omega | (simp only [lenS, lenT, UInt64.reduceToNat]; try omega))) only [↓Sx.S0, Sx.S1, Tryd.fx, uOJ_1, Nat.reduceAdd, Nat.reducePow, Int.reducePow, Nat.reduceBEq, ↓reduceIte, UInt8.reduceToNat, UInt16.reduceToNat, UInt32.reduceToNat, UInt64.reduceToNat, Int.reduceToNat, h1]))
    refine ⟨_, (by simp (disch := (first | assumption | omega | (simp only [lenS, lenT, UInt64.reduceToNat]; try omega))) only [↓Sx.S0, Sx.S1, Tryd.fx, uOJ_1, Nat.reduceAdd, Nat.reducePow, Int.reducePow, Nat.reduceBEq, ↓reduceIte, UInt8.reduceToNat, UInt16.reduceToNat, UInt32.reduceToNat, UInt64.reduceToNat, Int.reduceToNat]; rfl), trivial, ?_⟩
    simp [tupV]
theorem bad_rune (l : List UInt8) (i : Nat) (h : i < l.length) : badR ((Utf8.decode ⟨l.toArray⟩ i).1 : Nat) = badB (l.getD i 0) ∧ (badB (l.getD i 0) = false → (Utf8.decode ⟨l.toArray⟩ i).2 = 1) := by
  obtain ⟨h0, h1, h2⟩ := decode_rune l i h
  by_cases hc : (l.getD i 0).toNat < 128
  · rw [h1 hc]
    refine ⟨?_, fun _ => rfl⟩
    unfold badR badB
    congr 1
    · congr 1
      · apply decide_eq_decide.2; omega
      · apply decide_eq_decide.2; omega
    · rw [Bool.eq_iff_iff, beq_iff_eq, beq_iff_eq]; omega
  · have h2' := h2 (by omega)
    have hb : badB (l.getD i 0) = true := by
      unfold badB
      rw [decide_eq_true (show 126 < (l.getD i 0).toNat by omega)]; simp
    rw [hb]
    refine ⟨?_, fun h => by cases h⟩
    unfold badR
    rw [decide_eq_true (show (126 : Int) < (((Utf8.decode ⟨l.toArray⟩ i).1 : Nat) : Int) by omega)]; simp
theorem indexFunc_spec (s : List UInt8) (k : FuncId) (hk : ∀ a w, (callFunc k a).run Tryd.prog w = .ok (.enter k a) w) (hc : ∀ c w, Rets Tryd.prog k #[v32i c] w (fun v D => v = .bool (badR c) ∧ D = [])) (w : World) (hs : s.length < 1099511627776) :
    Rets Tryd.prog 150 #[vs s, .func (.func k) #[] #[], .bool true] w (fun v D => ∃ n : Int, v = vi n ∧ (0 ≤ n ↔ s.any badB = true) ∧ D = []) := by
  refine Rets.mono (S := fun v D => (∃ n : Int, v = vi n ∧ (0 ≤ n ↔ s.any badB = true)) ∧ D = []) ?_ (by rintro v D ⟨⟨n, h1, h2⟩, h3⟩; exact ⟨n, h1, h2, h3⟩)
  refine Rets.enterV Tryd.func150 rfl (rs := [.tmp 6]) Tryd.results150 Tryd.ntmps150 ?_
  simp only [List.size_toArray, List.length_cons, List.length_nil, Nat.reduceAdd, Nat.reduceSub, List.replicate_succ, List.replicate_zero, List.cons_append, List.nil_append]
  ((try with_reducible refine Cw.go [] ?_); (try simp (disch := (first | assumption | omega | (simp only [lenS, lenT, UInt64.reduceToNat]; try omega))) only [↓Sx.S0, Sx.S1, Tryd.fx, uOJ_1, Nat.reduceAdd, Nat.reducePow, Int.reducePow, Nat.reduceBEq, ↓reduceIte, UInt8.reduceToNat, UInt16.reduceToNat, UInt32.reduceToNat, UInt64.reduceToNat, Int.reduceToNat]))
  refine Ow.rangeText rfl rfl Tryd.underlying9 rfl fun b1 hb1 hw1 => ?_
  refine Ow.go rfl ?_
  simp (disch := (first | assumption | omega | (simp only [lenS, lenT, UInt64.reduceToNat]; try omega))) only [↓Sx.S0, Sx.S1, Tryd.fx, uOJ_1, Nat.reduceAdd, Nat.reducePow, Int.reducePow, Nat.reduceBEq, ↓reduceIte, UInt8.reduceToNat, UInt16.reduceToNat, UInt32.reduceToNat, UInt64.reduceToNat, Int.reduceToNat]
  ((try with_reducible refine Cw.go [] ?_); (try simp (disch := (first | assumption | omega | (simp only [lenS, lenT, UInt64.reduceToNat]; try omega))) only [↓Sx.S0, Sx.S1, Tryd.fx, uOJ_1, Nat.reduceAdd, Nat.reducePow, Int.reducePow, Nat.reduceBEq, ↓reduceIte, UInt8.reduceToNat, UInt16.reduceToNat, UInt32.reduceToNat, UInt64.reduceToNat, Int.reduceToNat]))
  refine Cw.loopG (G := Nat) [11, 12, 13, 14, 7, 8, 15, 16, 17, 18, 19, 20, 6] (fun g => []) (fun g => [(b1, .stringIter ⟨s.toArray⟩ g)]) (fun g => g ≤ s.length ∧ ∀ i, i < g → badB (s.getD i 0) = false) (fun g => s.length - g) 0 rfl rfl ?_ ?_
  · exact ⟨by omega, fun i hi => by omega⟩
  intro g j hg
  simp only [overFrom, pin, setF_0, setF_s, List.contains_cons, List.contains_nil, Nat.reduceBEq, Bool.or_false, Bool.false_or, Bool.or_true, Bool.true_or, Nat.reduceAdd, ↓reduceIte, Bool.false_eq_true]
  obtain ⟨hgL, hgood⟩ := hg
  by_cases hlt : g < s.length
  · have hbr := bad_rune s g hlt
    ((try with_reducible refine Cw.go [] ?_); (try simp (disch := (first | assumption | omega | (simp only [lenS, lenT, UInt64.reduceToNat]; try omega))) only [↓Sx.S0, Sx.S1, Tryd.fx, uOJ_1, Nat.reduceAdd, Nat.reducePow, Int.reducePow, Nat.reduceBEq, ↓reduceIte, UInt8.reduceToNat, UInt16.reduceToNat, UInt32.reduceToNat, UInt64.reduceToNat, Int.reduceToNat]))
    refine Ow.nextText rfl rfl rfl (look_same _ _ _) hlt ?_
    rw [setB_same]
    generalize hdd : Utf8.decode ⟨s.toArray⟩ g = dd at *
    obtain ⟨c, n⟩ := dd
    simp only at hbr ⊢
    refine Ow.go rfl ?_
    simp (disch := (first | assumption | omega | (simp only [lenS, lenT, UInt64.reduceToNat]; try omega))) only [↓Sx.S0, Sx.S1, Tryd.fx, uOJ_1, Nat.reduceAdd, Nat.reducePow, Int.reducePow, Nat.reduceBEq, ↓reduceIte, UInt8.reduceToNat, UInt16.reduceToNat, UInt32.reduceToNat, UInt64.reduceToNat, Int.reduceToNat]
    ((try with_reducible refine Cw.go [] ?_); (try simp (disch := (first | assumption | omega | (simp only [lenS, lenT, UInt64.reduceToNat]; try omega))) only [↓Sx.S0, Sx.S1, Tryd.fx, uOJ_1, Nat.reduceAdd, Nat.reducePow, Int.reducePow, Nat.reduceBEq, ↓reduceIte, UInt8.reduceToNat, UInt16.reduceToNat, UInt32.reduceToNat, UInt64.reduceToNat, Int.reduceToNat]))
    refine Ow.callFn1 (v := .bool (badR c)) (k := k) rfl rfl rfl hk (fun w' hw' => hc _ w') ?_
    rw [hbr.1]
    refine Ow.go rfl ?_
    simp (disch := (first | assumption | omega | (simp only [lenS, lenT, UInt64.reduceToNat]; try omega))) only [↓Sx.S0, Sx.S1, Tryd.fx, uOJ_1, Nat.reduceAdd, Nat.reducePow, Int.reducePow, Nat.reduceBEq, ↓reduceIte, UInt8.reduceToNat, UInt16.reduceToNat, UInt32.reduceToNat, UInt64.reduceToNat, Int.reduceToNat]
    cases hbb : badB (s.getD g 0)
    · ((try with_reducible refine Cw.go [] ?_); (try simp (disch := (first | assumption | omega | (simp only [lenS, lenT, UInt64.reduceToNat]; try omega))) only [↓Sx.S0, Sx.S1, Tryd.fx, uOJ_1, Nat.reduceAdd, Nat.reducePow, Int.reducePow, Nat.reduceBEq, ↓reduceIte, UInt8.reduceToNat, UInt16.reduceToNat, UInt32.reduceToNat, UInt64.reduceToNat, Int.reduceToNat]))
      refine Again.mk (g + 1) (by omega) ⟨by omega, fun i hi => ?_⟩ ?_ rfl
      · by_cases hig : i = g
        · rw [hig]; exact hbb
        · exact hgood i (by omega)
      · rw [hbr.2 hbb]
    · ((try with_reducible refine Cw.go [] ?_); (try simp (disch := (first | assumption | omega | (simp only [lenS, lenT, UInt64.reduceToNat]; try omega))) only [↓Sx.S0, Sx.S1, Tryd.fx, uOJ_1, Nat.reduceAdd, Nat.reducePow, Int.reducePow, Nat.reduceBEq, ↓reduceIte, UInt8.reduceToNat, UInt16.reduceToNat, UInt32.reduceToNat, UInt64.reduceToNat, Int.reduceToNat]))
      refine ⟨_, (by simp (disch := (first | assumption | omega | (simp only [lenS, lenT, UInt64.reduceToNat]; try omega))) only [↓Sx.S0, Sx.S1, Tryd.fx, uOJ_1, Nat.reduceAdd, Nat.reducePow, Int.reducePow, Nat.reduceBEq, ↓reduceIte, UInt8.reduceToNat, UInt16.reduceToNat, UInt32.reduceToNat, UInt64.reduceToNat, Int.reduceToNat]; rfl), ⟨hw1, trivial⟩, ?_⟩
      refine ⟨(g : Int), rfl, ⟨fun _ => ?_, fun _ => by omega⟩⟩
      rw [List.any_eq_true]
      refine ⟨s.getD g 0, ?_, hbb⟩
      rw [List.getD_eq_getElem?_getD, List.getElem?_eq_getElem hlt]
      exact List.getElem_mem hlt
  · obtain rfl : g = s.length := by omega
    ((try with_reducible refine Cw.go [] ?_); (try simp (disch := (first | assumption | omega | (simp only [lenS, lenT, UInt64.reduceToNat]; try omega))) only [↓Sx.S0, Sx.S1, Tryd.fx, uOJ_1, Nat.reduceAdd, Nat.reducePow, Int.reducePow, Nat.reduceBEq, ↓reduceIte, UInt8.reduceToNat, UInt16.reduceToNat, UInt32.reduceToNat, UInt64.reduceToNat, Int.reduceToNat]))
    refine Ow.nextOver rfl rfl rfl (look_same _ _ _) hlt ?_
    refine Ow.go rfl ?_
    simp (disch := (first | assumption | omega | (simp only [lenS, lenT, UInt64.reduceToNat]; try omega))) only [↓Sx.S0, Sx.S1, Tryd.fx, uOJ_1, Nat.reduceAdd, Nat.reducePow, Int.reducePow, Nat.reduceBEq, ↓reduceIte, UInt8.reduceToNat, UInt16.reduceToNat, UInt32.reduceToNat, UInt64.reduceToNat, Int.reduceToNat]
    ((try with_reducible refine Cw.go [] ?_); (try simp (disch := (first | assumption | omega | (simp only [lenS, lenT, UInt64.reduceToNat]; try omega))) only [↓Sx.S0, Sx.S1, Tryd.fx, uOJ_1, Nat.reduceAdd, Nat.reducePow, Int.reducePow, Nat.reduceBEq, ↓reduceIte, UInt8.reduceToNat, UInt16.reduceToNat, UInt32.reduceToNat, UInt64.reduceToNat, Int.reduceToNat]))
    refine ⟨_, (by simp (disch := (first | assumption | omega | (simp only [lenS, lenT, UInt64.reduceToNat]; try omega))) only [↓Sx.S0, Sx.S1, Tryd.fx, uOJ_1, Nat.reduceAdd, Nat.reducePow, Int.reducePow, Nat.reduceBEq, ↓reduceIte, UInt8.reduceToNat, UInt16.reduceToNat, UInt32.reduceToNat, UInt64.reduceToNat, Int.reduceToNat]; rfl), ⟨hw1, trivial⟩, ?_⟩
    refine ⟨-1, rfl, ⟨fun h => by omega, fun h => ?_⟩⟩
    rw [List.any_eq_true] at h
    obtain ⟨x, hx, hxb⟩ := h
    obtain ⟨i, hi, rfl⟩ := List.getElem_of_mem hx
    have := hgood i hi
    rw [List.getD_eq_getElem?_getD, List.getElem?_eq_getElem hi] at this
    exact absurd hxb (by simpa using this)
theorem IndexFunc_spec (s : List UInt8) (k : FuncId) (hk : ∀ a w, (callFunc k a).run Tryd.prog w = .ok (.enter k a) w) (hc : ∀ c w, Rets Tryd.prog k #[v32i c] w (fun v D => v = .bool (badR c) ∧ D = [])) (w : World) (hs : s.length < 1099511627776) :
    Rets Tryd.prog 124 #[vs s, .func (.func k) #[] #[]] w (fun v D => ∃ n : Int, v = vi n ∧ (0 ≤ n ↔ s.any badB = true) ∧ D = []) := by
  refine Rets.mono (S := fun v D => (∃ n : Int, v = vi n ∧ (0 ≤ n ↔ s.any badB = true)) ∧ D = []) ?_ (by rintro v D ⟨⟨n, h1, h2⟩, h3⟩; exact ⟨n, h1, h2, h3⟩)
  refine Rets.enterV Tryd.func124 rfl (rs := [.tmp 4]) Tryd.results124 Tryd.ntmps124 ?_
  simp only [List.size_toArray, List.length_cons, List.length_nil, Nat.reduceAdd, Nat.reduceSub, List.replicate_succ, List.replicate_zero, List.cons_append, List.nil_append]
  ((try with_reducible refine Cw.go [] ?_); (try simp (disch := (first | assumption | omega | (simp only [lenS, lenT, UInt64.reduceToNat]; try omega))) only [↓Sx.S0, Sx.S1, Tryd.fx, uOJ_1, Nat.reduceAdd, Nat.reducePow, Int.reducePow, Nat.reduceBEq, ↓reduceIte, UInt8.reduceToNat, UInt16.reduceToNat, UInt32.reduceToNat, UInt64.reduceToNat, Int.reduceToNat]))
  refine Ow.callF rfl rfl Tryd.call150 (S := fun _ v D => ∃ n : Int, v = vi n ∧ (0 ≤ n ↔ s.any badB = true) ∧ D = []) (fun w' hw' => indexFunc_spec s k hk hc w' hs) ?_
  rintro B v D - - ⟨n, rfl, hn, rfl⟩
  refine ⟨_, Mrg.nil, ?_⟩
  refine Ow.go rfl ?_
  simp (disch := (first | assumption | omega | (simp only [lenS, lenT, UInt64.reduceToNat]; try omega))) only [↓Sx.S0, Sx.S1, Tryd.fx, uOJ_1, Nat.reduceAdd, Nat.reducePow, Int.reducePow, Nat.reduceBEq, ↓reduceIte, UInt8.reduceToNat, UInt16.reduceToNat, UInt32.reduceToNat, UInt64.reduceToNat, Int.reduceToNat]
  ((try with_reducible refine Cw.go [] ?_); (try simp (disch := (first | assumption | omega | (simp only [lenS, lenT, UInt64.reduceToNat]; try omega))) only [↓Sx.S0, Sx.S1, Tryd.fx, uOJ_1, Nat.reduceAdd, Nat.reducePow, Int.reducePow, Nat.reduceBEq, ↓reduceIte, UInt8.reduceToNat, UInt16.reduceToNat, UInt32.reduceToNat, UInt64.reduceToNat, Int.reduceToNat]))
  refine ⟨_, (by simp (disch := (first | assumption | omega | (simp only [lenS, lenT, UInt64.reduceToNat]; try omega))) only [↓Sx.S0, Sx.S1, Tryd.fx, uOJ_1, Nat.reduceAdd, Nat.reducePow, Int.reducePow, Nat.reduceBEq, ↓reduceIte, UInt8.reduceToNat, UInt16.reduceToNat, UInt32.reduceToNat, UInt64.reduceToNat, Int.reduceToNat]; rfl), trivial, ?_⟩
  exact ⟨n, rfl, hn⟩
theorem ContainsFunc_spec (s : List UInt8) (k : FuncId) (hk : ∀ a w, (callFunc k a).run Tryd.prog w = .ok (.enter k a) w) (hc : ∀ c w, Rets Tryd.prog k #[v32i c] w (fun v D => v = .bool (badR c) ∧ D = [])) (w : World) (hs : s.length < 1099511627776) :
    Rets Tryd.prog 93 #[vs s, .func (.func k) #[] #[]] w (fun v D => v = .bool (s.any badB) ∧ D = []) := by
  refine Rets.enterV Tryd.func93 rfl (rs := [.tmp 4]) Tryd.results93 Tryd.ntmps93 ?_
  simp only [List.size_toArray, List.length_cons, List.length_nil, Nat.reduceAdd, Nat.reduceSub, List.replicate_succ, List.replicate_zero, List.cons_append, List.nil_append]
  ((try with_reducible refine Cw.go [] ?_); (try simp (disch := (first | assumption | omega | (simp only [lenS, lenT, UInt64.reduceToNat]; try omega))) only [↓Sx.S0, Sx.S1, Tryd.fx, uOJ_1, Nat.reduceAdd, Nat.reducePow, Int.reducePow, Nat.reduceBEq, ↓reduceIte, UInt8.reduceToNat, UInt16.reduceToNat, UInt32.reduceToNat, UInt64.reduceToNat, Int.reduceToNat]))
  refine Ow.callF rfl rfl Tryd.call124 (S := fun _ v D => ∃ n : Int, v = vi n ∧ (0 ≤ n ↔ s.any badB = true) ∧ D = []) (fun w' hw' => IndexFunc_spec s k hk hc w' hs) ?_
  rintro B v D - - ⟨n, rfl, hn, rfl⟩
  refine ⟨_, Mrg.nil, ?_⟩
  refine Ow.go rfl ?_
  simp (disch := (first | assumption | omega | (simp only [lenS, lenT, UInt64.reduceToNat]; try omega))) only [↓Sx.S0, Sx.S1, Tryd.fx, uOJ_1, Nat.reduceAdd, Nat.reducePow, Int.reducePow, Nat.reduceBEq, ↓reduceIte, UInt8.reduceToNat, UInt16.reduceToNat, UInt32.reduceToNat, UInt64.reduceToNat, Int.reduceToNat]
  ((try with_reducible refine Cw.go [] ?_); (try simp (disch := (first | assumption | omega | (simp only [lenS, lenT, UInt64.reduceToNat]; try omega))) only [↓Sx.S0, Sx.S1, Tryd.fx, uOJ_1, Nat.reduceAdd, Nat.reducePow, Int.reducePow, Nat.reduceBEq, ↓reduceIte, UInt8.reduceToNat, UInt16.reduceToNat, UInt32.reduceToNat, UInt64.reduceToNat, Int.reduceToNat]))
  refine ⟨_, (by simp (disch := (first | assumption | omega | (simp only [lenS, lenT, UInt64.reduceToNat]; try omega))) only [↓Sx.S0, Sx.S1, Tryd.fx, uOJ_1, Nat.reduceAdd, Nat.reducePow, Int.reducePow, Nat.reduceBEq, ↓reduceIte, UInt8.reduceToNat, UInt16.reduceToNat, UInt32.reduceToNat, UInt64.reduceToNat, Int.reduceToNat]; rfl), trivial, ?_⟩
  exact congrArg Value.bool (by rw [Bool.eq_iff_iff, decide_eq_true_eq]; exact hn)
theorem isName_spec (s : List UInt8) (w : World) (hs : s.length < 1099511627776) :
    Rets Tryd.prog 129 #[vs s] w (fun v D => v = .bool (!(s == []) && decide (s.length ≤ 32) && !(s.any badB)) ∧ D = []) := by
  refine Rets.enterV Tryd.func129 rfl (rs := [.tmp 2]) Tryd.results129 Tryd.ntmps129 ?_
  simp only [List.size_toArray, List.length_cons, List.length_nil, Nat.reduceAdd, Nat.reduceSub, List.replicate_succ, List.replicate_zero, List.cons_append, List.nil_append]
  cases h0 : (s != [])
  · have e0 : (s == []) = true := by simpa using h0
    ((try with_reducible refine Cw.go [] ?_); (try simp (disch := (first | assumption | omega | (simp only [lenS, lenT, UInt64.reduceToNat]; try omega))) only [↓Sx.S0, Sx.S1, Tryd.fx, uOJ_1, Nat.reduceAdd, Nat.reducePow, Int.reducePow, Nat.reduceBEq, ↓reduceIte, UInt8.reduceToNat, UInt16.reduceToNat, UInt32.reduceToNat, UInt64.reduceToNat, Int.reduceToNat, h0]))
    refine ⟨_, (by simp (disch := (first | assumption | omega | (simp only [lenS, lenT, UInt64.reduceToNat]; try omega))) only [↓Sx.S0, Sx.S1, Tryd.fx, uOJ_1, Nat.reduceAdd, Nat.reducePow, Int.reducePow, Nat.reduceBEq, ↓reduceIte, UInt8.reduceToNat, UInt16.reduceToNat, UInt32.reduceToNat, UInt64.reduceToNat, Int.reduceToNat]; rfl), trivial, ?_⟩
    simp [tupV, e0]
  · have e0 : (s == []) = false := by simpa using h0
    cases h1 : decide ((s.length : Int) ≤ 32)
    · have e1 : decide (s.length ≤ 32) = false := decide_eq_false (by have := of_decide_eq_false h1; omega)
      ((try with_reducible refine Cw.go [] ?_); (try simp (disch := (first | assumption | omega | (simp only [lenS, lenT, UInt64.reduceToNat]; try omega))) only [↓Sx.S0, Sx.S1, Tryd.fx, uOJ_1, Nat.reduceAdd, Nat.reducePow, Int.reducePow, Nat.reduceBEq, ↓reduceIte, UInt8.reduceToNat, UInt16.reduceToNat, UInt32.reduceToNat, UInt64.reduceToNat, Int.reduceToNat, h0, h1]))
      refine ⟨_, (by simp (disch := (first | assumption | omega | (simp only [lenS, lenT, UInt64.reduceToNat]; try omega))) only [↓Sx.S0, Sx.S1, Tryd.fx, uOJ_1, Nat.reduceAdd, Nat.reducePow, Int.reducePow, Nat.reduceBEq, ↓reduceIte, UInt8.reduceToNat, UInt16.reduceToNat, UInt32.reduceToNat, UInt64.reduceToNat, Int.reduceToNat]; rfl), trivial, ?_⟩
      simp only [tupV, e0, e1, Bool.not_false, Bool.true_and, Bool.false_and, Bool.and_false]
    · have e1 : decide (s.length ≤ 32) = true := decide_eq_true (by have := of_decide_eq_true h1; omega)
      ((try with_reducible refine Cw.go [] ?_); (try simp (disch := (first | assumption | omega | (simp only [lenS, lenT, UInt64.reduceToNat]; try omega))) only [↓Sx.S0, Sx.S1, Tryd.fx, uOJ_1, Nat.reduceAdd, Nat.reducePow, Int.reducePow, Nat.reduceBEq, ↓reduceIte, UInt8.reduceToNat, UInt16.reduceToNat, UInt32.reduceToNat, UInt64.reduceToNat, Int.reduceToNat, h0, h1]))
      refine Ow.callFV rfl Tryd.call93 (fun w' hw' => ContainsFunc_spec s 153 Tryd.call153 isNameC_spec w' hs) ?_
      refine Ow.go rfl ?_
      simp (disch := (first | assumption | omega | (simp only [lenS, lenT, UInt64.reduceToNat]; try omega))) only [↓Sx.S0, Sx.S1, Tryd.fx, uOJ_1, Nat.reduceAdd, Nat.reducePow, Int.reducePow, Nat.reduceBEq, ↓reduceIte, UInt8.reduceToNat, UInt16.reduceToNat, UInt32.reduceToNat, UInt64.reduceToNat, Int.reduceToNat]
      ((try with_reducible refine Cw.go [] ?_); (try simp (disch := (first | assumption | omega | (simp only [lenS, lenT, UInt64.reduceToNat]; try omega))) only [↓Sx.S0, Sx.S1, Tryd.fx, uOJ_1, Nat.reduceAdd, Nat.reducePow, Int.reducePow, Nat.reduceBEq, ↓reduceIte, UInt8.reduceToNat, UInt16.reduceToNat, UInt32.reduceToNat, UInt64.reduceToNat, Int.reduceToNat]))
      refine ⟨_, (by simp (disch := (first | assumption | omega | (simp only [lenS, lenT, UInt64.reduceToNat]; try omega))) only [↓Sx.S0, Sx.S1, Tryd.fx, uOJ_1, Nat.reduceAdd, Nat.reducePow, Int.reducePow, Nat.reduceBEq, ↓reduceIte, UInt8.reduceToNat, UInt16.reduceToNat, UInt32.reduceToNat, UInt64.reduceToNat, Int.reduceToNat]; rfl), trivial, ?_⟩
      simp only [tupV, e0, e1, Bool.not_false, Bool.true_and]
set_option linter.defProp false
def uOJ_2 := And.intro (And.intro (@rdIn_v8) (@rdIn_v16)) (And.intro (@rdIn_v32) (And.intro (@rdIn_v64) (@rdIn_vi)))
/-- May a text be a name? -/
def nameV (s : List UInt8) : Bool := !(s == []) && decide (s.length ≤ 32) && !(s.any badB)
theorem badB_eq (c : UInt8) : badB c = (decide (c < 33) || decide (126 < c) || (c == 47)) := by
  unfold badB
  congr 1
  rw [Bool.eq_iff_iff, beq_iff_eq, beq_iff_eq, ← UInt8.toNat_inj]; rfl
theorem refName_spec (s : List UInt8) (w : World) (hs : s.length < 1099511627776) :
    Rets Tryd.prog 110 #[vs s] w (fun v D => v = .bool (nameV s) ∧ D = []) := by
  refine Rets.enterV Tryd.func110 rfl (rs := [.tmp 2]) Tryd.results110 Tryd.ntmps110 ?_
  simp only [List.size_toArray, List.length_cons, List.length_nil, Nat.reduceAdd, Nat.reduceSub, List.replicate_succ, List.replicate_zero, List.cons_append, List.nil_append]
  ((try with_reducible refine Cw.go [] ?_); (try simp (disch := (first | assumption | omega | (simp only [lenS, lenT, UInt64.reduceToNat]; try omega))) only [↓Sx.S0, Sx.S1, Tryd.fx, uOJ_2, Nat.reduceAdd, Nat.reducePow, Int.reducePow, Nat.reduceBEq, ↓reduceIte, UInt8.reduceToNat, UInt16.reduceToNat, UInt32.reduceToNat, UInt64.reduceToNat, Int.reduceToNat]))
  refine Cw.loopG (G := Nat) [4, 5, 6, 7, 10, 11, 12, 13, 14, 15, 16, 17, 18, 19, 20, 21, 22, 23, 24, 25, 2, 8, 9, 3] (fun g => [(3, vi g)]) (fun g => []) (fun g => g ≤ s.length ∧ ∀ i, i < g → badB (s.getD i 0) = false) (fun g => s.length - g) 0 rfl rfl ?_ ?_
  · exact ⟨by omega, fun i hi => by omega⟩
  intro g j hg
  simp only [overFrom, pin, setF_0, setF_s, List.contains_cons, List.contains_nil, Nat.reduceBEq, Bool.or_false, Bool.false_or, Bool.or_true, Bool.true_or, Nat.reduceAdd, ↓reduceIte, Bool.false_eq_true]
  obtain ⟨hgL, hgood⟩ := hg
  by_cases hlt : g < s.length
  · have hb := badB_eq (s.getD g 0)
    have hbad : badB (s.getD g 0) = true → nameV s = false := by
      intro h
      have : s.any badB = true := List.any_eq_true.2 ⟨s.getD g 0, by rw [List.getD_eq_getElem?_getD, List.getElem?_eq_getElem hlt]; exact List.getElem_mem hlt, h⟩
      unfold nameV
      rw [this]; simp
    have hgo : badB (s.getD g 0) = false → ∀ i, i < g + 1 → badB (s.getD i 0) = false := fun h i hi => by
      by_cases hig : i = g
      · rw [hig]; exact h
      · exact hgood i (by omega)
    generalize hc : s.getD g 0 = c at *
    cases h1 : decide (c < 33)
    · cases h2 : decide (126 < c)
      · cases h3 : (c == 47)
        · ((try with_reducible refine Cw.go [] ?_); (try simp (disch := (first | assumption | omega | (simp only [lenS, lenT, UInt64.reduceToNat]; try omega))) only [↓Sx.S0, Sx.S1, Tryd.fx, uOJ_2, Nat.reduceAdd, Nat.reducePow, Int.reducePow, Nat.reduceBEq, ↓reduceIte, UInt8.reduceToNat, UInt16.reduceToNat, UInt32.reduceToNat, UInt64.reduceToNat, Int.reduceToNat, hc, h1, h2, h3]))
          refine Again.mk (g + 1) (by omega) ⟨by omega, hgo (by rw [hb, h1, h2, h3]; rfl)⟩ rfl rfl
        · ((try with_reducible refine Cw.go [] ?_); (try simp (disch := (first | assumption | omega | (simp only [lenS, lenT, UInt64.reduceToNat]; try omega))) only [↓Sx.S0, Sx.S1, Tryd.fx, uOJ_2, Nat.reduceAdd, Nat.reducePow, Int.reducePow, Nat.reduceBEq, ↓reduceIte, UInt8.reduceToNat, UInt16.reduceToNat, UInt32.reduceToNat, UInt64.reduceToNat, Int.reduceToNat, hc, h1, h2, h3]))
          rw [hbad (by rw [hb, h1, h2, h3]; rfl)]
          refine ⟨_, (by simp (disch := (first | assumption | omega | (simp only [lenS, lenT, UInt64.reduceToNat]; try omega))) only [↓Sx.S0, Sx.S1, Tryd.fx, uOJ_2, Nat.reduceAdd, Nat.reducePow, Int.reducePow, Nat.reduceBEq, ↓reduceIte, UInt8.reduceToNat, UInt16.reduceToNat, UInt32.reduceToNat, UInt64.reduceToNat, Int.reduceToNat]; rfl), trivial, ?_⟩
          rfl
      · ((try with_reducible refine Cw.go [] ?_); (try simp (disch := (first | assumption | omega | (simp only [lenS, lenT, UInt64.reduceToNat]; try omega))) only [↓Sx.S0, Sx.S1, Tryd.fx, uOJ_2, Nat.reduceAdd, Nat.reducePow, Int.reducePow, Nat.reduceBEq, ↓reduceIte, UInt8.reduceToNat, UInt16.reduceToNat, UInt32.reduceToNat, UInt64.reduceToNat, Int.reduceToNat, hc, h1, h2]))
        rw [hbad (by rw [hb, h1, h2]; rfl)]
        refine ⟨_, (by simp (disch := (first | assumption | omega | (simp only [lenS, lenT, UInt64.reduceToNat]; try omega))) only [↓Sx.S0, Sx.S1, Tryd.fx, uOJ_2, Nat.reduceAdd, Nat.reducePow, Int.reducePow, Nat.reduceBEq, ↓reduceIte, UInt8.reduceToNat, UInt16.reduceToNat, UInt32.reduceToNat, UInt64.reduceToNat, Int.reduceToNat]; rfl), trivial, ?_⟩
        rfl
    · ((try with_reducible refine Cw.go [] ?_); (try simp (disch := (first | assumption | omega | (simp only [lenS, lenT, UInt64.reduceToNat]; try omega))) only [↓Sx.S0, Sx.S1, Tryd.fx, uOJ_2, Nat.reduceAdd, Nat.reducePow, Int.reducePow, Nat.reduceBEq, ↓reduceIte, UInt8.reduceToNat, UInt16.reduceToNat, UInt32.reduceToNat, UInt64.reduceToNat, Int.reduceToNat, hc, h1]))
      rw [hbad (by rw [hb, h1]; simp)]
      refine ⟨_, (by simp (disch := (first | assumption | omega | (simp only [lenS, lenT, UInt64.reduceToNat]; try omega))) only [↓Sx.S0, Sx.S1, Tryd.fx, uOJ_2, Nat.reduceAdd, Nat.reducePow, Int.reducePow, Nat.reduceBEq, ↓reduceIte, UInt8.reduceToNat, UInt16.reduceToNat, UInt32.reduceToNat, UInt64.reduceToNat, Int.reduceToNat]; rfl), trivial, ?_⟩
      rfl
  · obtain rfl : g = s.length := by omega
    have hany : s.any badB = false := by
      rw [List.any_eq_false]
      intro x hx
      obtain ⟨i, hi, rfl⟩ := List.getElem_of_mem hx
      have := hgood i hi
      rw [List.getD_eq_getElem?_getD, List.getElem?_eq_getElem hi] at this
      simpa using this
    unfold nameV
    rw [hany]
    cases h1 : decide (1 ≤ (s.length : Int))
    · have e0 : (s == []) = true := by
        have := of_decide_eq_false h1
        rw [List.eq_nil_of_length_eq_zero (show s.length = 0 by omega)]; rfl
      ((try with_reducible refine Cw.go [] ?_); (try simp (disch := (first | assumption | omega | (simp only [lenS, lenT, UInt64.reduceToNat]; try omega))) only [↓Sx.S0, Sx.S1, Tryd.fx, uOJ_2, Nat.reduceAdd, Nat.reducePow, Int.reducePow, Nat.reduceBEq, ↓reduceIte, UInt8.reduceToNat, UInt16.reduceToNat, UInt32.reduceToNat, UInt64.reduceToNat, Int.reduceToNat, h1]))
      refine ⟨_, (by simp (disch := (first | assumption | omega | (simp only [lenS, lenT, UInt64.reduceToNat]; try omega))) only [↓Sx.S0, Sx.S1, Tryd.fx, uOJ_2, Nat.reduceAdd, Nat.reducePow, Int.reducePow, Nat.reduceBEq, ↓reduceIte, UInt8.reduceToNat, UInt16.reduceToNat, UInt32.reduceToNat, UInt64.reduceToNat, Int.reduceToNat]; rfl), trivial, ?_⟩
      simp only [tupV, e0, Bool.not_true, Bool.false_and]
    · have e0 : (s == []) = false := by
        have := of_decide_eq_true h1
        cases s with
        | nil => simp at this
        | cons x r => rfl
      have e1 : decide ((s.length : Int) ≤ 32) = decide (s.length ≤ 32) := decide_eq_decide.2 (by omega)
      ((try with_reducible refine Cw.go [] ?_); (try simp (disch := (first | assumption | omega | (simp only [lenS, lenT, UInt64.reduceToNat]; try omega))) only [↓Sx.S0, Sx.S1, Tryd.fx, uOJ_2, Nat.reduceAdd, Nat.reducePow, Int.reducePow, Nat.reduceBEq, ↓reduceIte, UInt8.reduceToNat, UInt16.reduceToNat, UInt32.reduceToNat, UInt64.reduceToNat, Int.reduceToNat, h1]))
      refine ⟨_, (by simp (disch := (first | assumption | omega | (simp only [lenS, lenT, UInt64.reduceToNat]; try omega))) only [↓Sx.S0, Sx.S1, Tryd.fx, uOJ_2, Nat.reduceAdd, Nat.reducePow, Int.reducePow, Nat.reduceBEq, ↓reduceIte, UInt8.reduceToNat, UInt16.reduceToNat, UInt32.reduceToNat, UInt64.reduceToNat, Int.reduceToNat]; rfl), trivial, ?_⟩
      simp only [tupV, e0, e1, Bool.not_false, Bool.true_and, Bool.and_true]
end Go.Proofs
end
section
open Go Go.Proofs Go.Sx Go.StP
namespace Go.Proofs
set_option maxRecDepth 10000
set_option maxHeartbeats 4000000
set_option linter.unusedSimpArgs false
/-! ### Entries that may be -/
/-- May the entry at a place be? -/
def entOk (l : List EntL) (i : Nat) : Bool :=
  nameV (l.getD i ent0).name && ((l.getD i ent0).kind == 1 || (l.getD i ent0).kind == 2) && (i == 0 || ltB (l.getD (i - 1) ent0).name (l.getD i ent0).name)
def entsOk (l : List EntL) : Bool := decide (l.length ≤ 32) && (List.range l.length).all (entOk l)
theorem entsOk_no {l : List EntL} {k : Nat} (hk : k < l.length) (h : entOk l k = false) : entsOk l = false := by
  unfold entsOk
  have : (List.range l.length).all (entOk l) = false := by
    rw [List.all_eq_false]
    exact ⟨k, List.mem_range.2 hk, by simp [h]⟩
  rw [this, Bool.and_false]
theorem entsOk_yes {l : List EntL} (h : ∀ i, i < l.length → entOk l i = true) : entsOk l = decide (l.length ≤ 32) := by
  unfold entsOk
  have : (List.range l.length).all (entOk l) = true := List.all_eq_true.2 fun i hi => h i (List.mem_range.1 hi)
  rw [this, Bool.and_true]
set_option linter.defProp false
def uOK_1 := And.intro (And.intro (And.intro (@load_ent0) (@load_ent1)) (And.intro (@load_ent2) (@load_ent))) (And.intro (And.intro (@store_entr) (@cells_ent)) (And.intro (@rdIn_v8) (@rdIn_vi)))
/-- Names that are not too long to speak of. -/
def ShortE (l : List EntL) : Prop := ∀ i, i < l.length → (l.getD i ent0).name.length < 1099511627776
theorem isNameV_spec (s : List UInt8) (w : World) (hs : s.length < 1099511627776) : Rets Tryd.prog 129 #[vs s] w (fun v D => v = .bool (nameV s) ∧ D = []) := isName_spec s w hs
theorem bne_beq {a b : Int} {c : Bool} (h : (a != b) = c) : (a == b) = !c := by rw [← h]; simp [bne]
theorem entries_spec (v : Value) (l : List EntL) (w : World) (hv : EntS w v l) (hl : l.length < 1000000) (hsh : ShortE l) :
    Rets Tryd.prog 100 #[v] w (fun v' D => v' = .bool (entsOk l) ∧ D = []) := by
  obtain ⟨b, off, arr, E, fz, hr⟩ := hv.row
  have ln := hv.len
  refine Rets.enterV Tryd.func100 rfl (rs := [.tmp 2]) Tryd.results100 Tryd.ntmps100 ?_
  simp only [List.size_toArray, List.length_cons, List.length_nil, Nat.reduceAdd, Nat.reduceSub, List.replicate_succ, List.replicate_zero, List.cons_append, List.nil_append]
  ((try with_reducible refine Cw.go [] ?_); (try simp (disch := (first | assumption | omega | (simp only [lenS, lenT, UInt64.reduceToNat]; try omega))) only [↓Sx.S0, Sx.S1, Tryd.fx, uOK_1, Nat.reduceAdd, Nat.reducePow, Int.reducePow, Nat.reduceBEq, ↓reduceIte, UInt8.reduceToNat, UInt16.reduceToNat, UInt32.reduceToNat, UInt64.reduceToNat, Int.reduceToNat, ln]))
  refine Cw.loopG (G := Nat) [8, 9, 10, 11, 4, 3, 12, 13, 14, 15, 16, 17, 18, 19, 20, 21, 22, 23, 24, 25, 26, 27, 28, 29, 30, 31, 32, 33, 34, 35, 36, 37, 38, 39, 40, 2, 41, 7] (fun g => [(7, vi g)]) (fun g => []) (fun g => g ≤ l.length ∧ ∀ i, i < g → entOk l i = true) (fun g => l.length - g) 0 rfl rfl ?_ ?_
  · exact ⟨Nat.zero_le _, fun i hi => absurd hi (Nat.not_lt_zero i)⟩
  · intro k jk hk
    simp only [overFrom, pin, setF_0, setF_s, List.contains_cons, List.contains_nil, Nat.reduceBEq, Bool.or_false, Bool.false_or, Bool.or_true, Bool.true_or, Nat.reduceAdd, ↓reduceIte, Bool.false_eq_true]
    obtain ⟨h1, h2⟩ := hk
    by_cases hk : k < l.length
    · have h0 : 0 < l.length := by omega
      have hbl := hr.lt h0
      have r2 := hr.has h0
      have i2 := hr.idx true k hk
      have l2 := row_ent hr hk
      ((try with_reducible refine Cw.go [6] ?_); (try simp (disch := (first | assumption | omega | (simp only [lenS, lenT, UInt64.reduceToNat]; try omega))) only [↓Sx.S0, Sx.S1, Tryd.fx, uOK_1, Nat.reduceAdd, Nat.reducePow, Int.reducePow, Nat.reduceBEq, ↓reduceIte, UInt8.reduceToNat, UInt16.reduceToNat, UInt32.reduceToNat, UInt64.reduceToNat, Int.reduceToNat, r2, i2, l2]))
      refine Ow.alloc rfl rfl zrEnt fun b4 hb4 hw4 => ?_
      simp only [cells_agg, List.nil_append, List.cons_append]
      have hn4 : b4 ≠ b := by omega
      refine Ow.go rfl ?_
      simp (disch := (first | assumption | omega | (simp only [lenS, lenT, UInt64.reduceToNat]; try omega))) only [↓Sx.S0, Sx.S1, Tryd.fx, uOK_1, Nat.reduceAdd, Nat.reducePow, Int.reducePow, Nat.reduceBEq, ↓reduceIte, UInt8.reduceToNat, UInt16.reduceToNat, UInt32.reduceToNat, UInt64.reduceToNat, Int.reduceToNat]
      have hs := hsh k hk
      refine Cw.regionS [b4, b] [0, 1, 2, 3, 4, 5, 6, 7, 8, 9, 10, 11, 12, 13, 14, 15, 16, 17, 18, 19, 20, 21, 22, 24, 23, 25, 26, 27, 28] [] (by kernel_rfl) (by kernel_rfl) (by kernel_rfl) ?_
      simp only [nl_cons, ↓pickL_nil, ↓pickL_cons, ↓nthO_0, ↓nthO_s, consO_some]
      refine Ow.goQ ?_
      simp (disch := (first | assumption | omega | (simp only [lenS, lenT, UInt64.reduceToNat]; try omega))) only [↓Sx.S0, Sx.S1, Tryd.fx, uOK_1, Nat.reduceAdd, Nat.reducePow, Int.reducePow, Nat.reduceBEq, ↓reduceIte, UInt8.reduceToNat, UInt16.reduceToNat, UInt32.reduceToNat, UInt64.reduceToNat, Int.reduceToNat]
      refine Ow.callFV rfl Tryd.call129 (fun w' hw' => isNameV_spec (l.getD k ent0).name w' hs) ?_
      cases hn : nameV (l.getD k ent0).name
      · have e0 : entOk l k = false := by unfold entOk; rw [hn]; rfl
        rw [entsOk_no hk e0]
        refine Ow.goQ ?_
        simp (disch := (first | assumption | omega | (simp only [lenS, lenT, UInt64.reduceToNat]; try omega))) only [↓Sx.S0, Sx.S1, Tryd.fx, uOK_1, Nat.reduceAdd, Nat.reducePow, Int.reducePow, Nat.reduceBEq, ↓reduceIte, UInt8.reduceToNat, UInt16.reduceToNat, UInt32.reduceToNat, UInt64.reduceToNat, Int.reduceToNat]
        refine ⟨_, (by simp (disch := (first | assumption | omega | (simp only [lenS, lenT, UInt64.reduceToNat]; try omega))) only [↓Sx.S0, Sx.S1, Tryd.fx, uOK_1, Nat.reduceAdd, Nat.reducePow, Int.reducePow, Nat.reduceBEq, ↓reduceIte, UInt8.reduceToNat, UInt16.reduceToNat, UInt32.reduceToNat, UInt64.reduceToNat, Int.reduceToNat]; rfl), ⟨hw4, trivial⟩, ?_⟩
        rfl
      · cases hk1 : ((l.getD k ent0).kind != 1)
        · have hkk : ((l.getD k ent0).kind == 1 || (l.getD k ent0).kind == 2) = true := by rw [bne_beq hk1]; rfl
          by_cases h0k : k = 0
          · have d1 : decide ((0 : Int) < (k : Int)) = false := decide_eq_false (by omega)
            have e1 : entOk l k = true := by unfold entOk; rw [hn, hkk, h0k]; rfl
            refine Ow.goQ ?_
            simp (disch := (first | assumption | omega | (simp only [lenS, lenT, UInt64.reduceToNat]; try omega))) only [↓Sx.S0, Sx.S1, Tryd.fx, uOK_1, Nat.reduceAdd, Nat.reducePow, Int.reducePow, Nat.reduceBEq, ↓reduceIte, UInt8.reduceToNat, UInt16.reduceToNat, UInt32.reduceToNat, UInt64.reduceToNat, Int.reduceToNat, hk1, d1]
            refine Cw.forgetN [] (by exact ⟨hw4, trivial⟩) (by intro p hp; simp only [List.mem_cons, List.not_mem_nil, or_false] at hp ⊢; all_goals (first | (rcases hp with rfl | hp <;> simp_all) | (subst hp; simp) | simp_all)) (by simp [keys] <;> omega) ?_
            ((try with_reducible refine Cw.go [] ?_); (try simp (disch := (first | assumption | omega | (simp only [lenS, lenT, UInt64.reduceToNat]; try omega))) only [↓Sx.S0, Sx.S1, Tryd.fx, uOK_1, Nat.reduceAdd, Nat.reducePow, Int.reducePow, Nat.reduceBEq, ↓reduceIte, UInt8.reduceToNat, UInt16.reduceToNat, UInt32.reduceToNat, UInt64.reduceToNat, Int.reduceToNat]))
            exact Again.mk (k + 1) (by omega) ⟨by omega, fun i hi => by
              rcases Nat.lt_succ_iff_lt_or_eq.1 hi with h | rfl
              · exact h2 i h
              · exact e1⟩ rfl rfl
          · have d1 : decide ((0 : Int) < (k : Int)) = true := decide_eq_true (by omega)
            have i3 : indexAddrV (.sl (true, 34)) v (some ((k : Int) - 1)) = some (vp b (off + (k - 1) * 34)) := by
              rw [show (k : Int) - 1 = ((k - 1 : Nat) : Int) by omega]; exact hr.idx true (k - 1) (by omega)
            have l3 : ∀ n, loadV (some (false, n)) (some (.cells arr E fz)) (off + (k - 1) * 34) = some (vs (l.getD (k - 1) ent0).name) := fun n => row_ent0 hr (show k - 1 < l.length by omega) n
            have ek : (k == 0) = false := beq_eq_false_iff_ne.2 h0k
            cases hl3 : Op.bytesLess (l.getD (k - 1) ent0).name (l.getD k ent0).name
            · have e1 : entOk l k = false := by unfold entOk; rw [hn, hkk, ek]; exact hl3
              rw [entsOk_no hk e1]
              refine Ow.goQ ?_
              simp (disch := (first | assumption | omega | (simp only [lenS, lenT, UInt64.reduceToNat]; try omega))) only [↓Sx.S0, Sx.S1, Tryd.fx, uOK_1, Nat.reduceAdd, Nat.reducePow, Int.reducePow, Nat.reduceBEq, ↓reduceIte, UInt8.reduceToNat, UInt16.reduceToNat, UInt32.reduceToNat, UInt64.reduceToNat, Int.reduceToNat, hk1, d1, i3, r2, l3, hl3]
              refine ⟨_, (by simp (disch := (first | assumption | omega | (simp only [lenS, lenT, UInt64.reduceToNat]; try omega))) only [↓Sx.S0, Sx.S1, Tryd.fx, uOK_1, Nat.reduceAdd, Nat.reducePow, Int.reducePow, Nat.reduceBEq, ↓reduceIte, UInt8.reduceToNat, UInt16.reduceToNat, UInt32.reduceToNat, UInt64.reduceToNat, Int.reduceToNat]; rfl), ⟨hw4, trivial⟩, ?_⟩
              rfl
            · have e1 : entOk l k = true := by unfold entOk; rw [hn, hkk, ek]; exact hl3
              refine Ow.goQ ?_
              simp (disch := (first | assumption | omega | (simp only [lenS, lenT, UInt64.reduceToNat]; try omega))) only [↓Sx.S0, Sx.S1, Tryd.fx, uOK_1, Nat.reduceAdd, Nat.reducePow, Int.reducePow, Nat.reduceBEq, ↓reduceIte, UInt8.reduceToNat, UInt16.reduceToNat, UInt32.reduceToNat, UInt64.reduceToNat, Int.reduceToNat, hk1, d1, i3, r2, l3, hl3]
              refine Cw.forgetN [] (by exact ⟨hw4, trivial⟩) (by intro p hp; simp only [List.mem_cons, List.not_mem_nil, or_false] at hp ⊢; all_goals (first | (rcases hp with rfl | hp <;> simp_all) | (subst hp; simp) | simp_all)) (by simp [keys] <;> omega) ?_
              ((try with_reducible refine Cw.go [] ?_); (try simp (disch := (first | assumption | omega | (simp only [lenS, lenT, UInt64.reduceToNat]; try omega))) only [↓Sx.S0, Sx.S1, Tryd.fx, uOK_1, Nat.reduceAdd, Nat.reducePow, Int.reducePow, Nat.reduceBEq, ↓reduceIte, UInt8.reduceToNat, UInt16.reduceToNat, UInt32.reduceToNat, UInt64.reduceToNat, Int.reduceToNat]))
              exact Again.mk (k + 1) (by omega) ⟨by omega, fun i hi => by
                rcases Nat.lt_succ_iff_lt_or_eq.1 hi with h | rfl
                · exact h2 i h
                · exact e1⟩ rfl rfl
        · cases hk2 : ((l.getD k ent0).kind != 2)
          · have hkk : ((l.getD k ent0).kind == 1 || (l.getD k ent0).kind == 2) = true := by rw [bne_beq hk2]; simp
            by_cases h0k : k = 0
            · have d1 : decide ((0 : Int) < (k : Int)) = false := decide_eq_false (by omega)
              have e1 : entOk l k = true := by unfold entOk; rw [hn, hkk, h0k]; rfl
              refine Ow.goQ ?_
              simp (disch := (first | assumption | omega | (simp only [lenS, lenT, UInt64.reduceToNat]; try omega))) only [↓Sx.S0, Sx.S1, Tryd.fx, uOK_1, Nat.reduceAdd, Nat.reducePow, Int.reducePow, Nat.reduceBEq, ↓reduceIte, UInt8.reduceToNat, UInt16.reduceToNat, UInt32.reduceToNat, UInt64.reduceToNat, Int.reduceToNat, hk1, hk2, d1]
              refine Cw.forgetN [] (by exact ⟨hw4, trivial⟩) (by intro p hp; simp only [List.mem_cons, List.not_mem_nil, or_false] at hp ⊢; all_goals (first | (rcases hp with rfl | hp <;> simp_all) | (subst hp; simp) | simp_all)) (by simp [keys] <;> omega) ?_
              ((try with_reducible refine Cw.go [] ?_); (try simp (disch := (first | assumption | omega | (simp only [lenS, lenT, UInt64.reduceToNat]; try omega))) only [↓Sx.S0, Sx.S1, Tryd.fx, uOK_1, Nat.reduceAdd, Nat.reducePow, Int.reducePow, Nat.reduceBEq, ↓reduceIte, UInt8.reduceToNat, UInt16.reduceToNat, UInt32.reduceToNat, UInt64.reduceToNat, Int.reduceToNat]))
              exact Again.mk (k + 1) (by omega) ⟨by omega, fun i hi => by
                rcases Nat.lt_succ_iff_lt_or_eq.1 hi with h | rfl
                · exact h2 i h
                · exact e1⟩ rfl rfl
            · have d1 : decide ((0 : Int) < (k : Int)) = true := decide_eq_true (by omega)
              have i3 : indexAddrV (.sl (true, 34)) v (some ((k : Int) - 1)) = some (vp b (off + (k - 1) * 34)) := by
                rw [show (k : Int) - 1 = ((k - 1 : Nat) : Int) by omega]; exact hr.idx true (k - 1) (by omega)
              have l3 : ∀ n, loadV (some (false, n)) (some (.cells arr E fz)) (off + (k - 1) * 34) = some (vs (l.getD (k - 1) ent0).name) := fun n => row_ent0 hr (show k - 1 < l.length by omega) n
              have ek : (k == 0) = false := beq_eq_false_iff_ne.2 h0k
              cases hl3 : Op.bytesLess (l.getD (k - 1) ent0).name (l.getD k ent0).name
              · have e1 : entOk l k = false := by unfold entOk; rw [hn, hkk, ek]; exact hl3
                rw [entsOk_no hk e1]
                refine Ow.goQ ?_
                simp (disch := (first | assumption | omega | (simp only [lenS, lenT, UInt64.reduceToNat]; try omega))) only [↓Sx.S0, Sx.S1, Tryd.fx, uOK_1, Nat.reduceAdd, Nat.reducePow, Int.reducePow, Nat.reduceBEq, ↓reduceIte, UInt8.reduceToNat, UInt16.reduceToNat, UInt32.reduceToNat, UInt64.reduceToNat, Int.reduceToNat, hk1, hk2, d1, i3, r2, l3, hl3]
                refine ⟨_, (by simp (disch := (first | assumption | omega | (simp only [lenS, lenT, UInt64.reduceToNat]; try omega))) only [↓Sx.S0, Sx.S1, Tryd.fx, uOK_1, Nat.reduceAdd, Nat.reducePow, Int.reducePow, Nat.reduceBEq, ↓reduceIte, UInt8.reduceToNat, UInt16.reduceToNat, UInt32.reduceToNat, UInt64.reduceToNat, Int.reduceToNat]; rfl), ⟨hw4, trivial⟩, ?_⟩
                rfl
              · have e1 : entOk l k = true := by unfold entOk; rw [hn, hkk, ek]; exact hl3
                refine Ow.goQ ?_
                simp (disch := (first | assumption | omega | (simp only [lenS, lenT, UInt64.reduceToNat]; try omega))) only [↓Sx.S0, Sx.S1, Tryd.fx, uOK_1, Nat.reduceAdd, Nat.reducePow, Int.reducePow, Nat.reduceBEq, ↓reduceIte, UInt8.reduceToNat, UInt16.reduceToNat, UInt32.reduceToNat, UInt64.reduceToNat, Int.reduceToNat, hk1, hk2, d1, i3, r2, l3, hl3]
                refine Cw.forgetN [] (by exact ⟨hw4, trivial⟩) (by intro p hp; simp only [List.mem_cons, List.not_mem_nil, or_false] at hp ⊢; all_goals (first | (rcases hp with rfl | hp <;> simp_all) | (subst hp; simp) | simp_all)) (by simp [keys] <;> omega) ?_
                ((try with_reducible refine Cw.go [] ?_); (try simp (disch := (first | assumption | omega | (simp only [lenS, lenT, UInt64.reduceToNat]; try omega))) only [↓Sx.S0, Sx.S1, Tryd.fx, uOK_1, Nat.reduceAdd, Nat.reducePow, Int.reducePow, Nat.reduceBEq, ↓reduceIte, UInt8.reduceToNat, UInt16.reduceToNat, UInt32.reduceToNat, UInt64.reduceToNat, Int.reduceToNat]))
                exact Again.mk (k + 1) (by omega) ⟨by omega, fun i hi => by
                  rcases Nat.lt_succ_iff_lt_or_eq.1 hi with h | rfl
                  · exact h2 i h
                  · exact e1⟩ rfl rfl
          · have e0 : entOk l k = false := by
              unfold entOk
              rw [hn, bne_beq hk1, bne_beq hk2]; rfl
            rw [entsOk_no hk e0]
            refine Ow.goQ ?_
            simp (disch := (first | assumption | omega | (simp only [lenS, lenT, UInt64.reduceToNat]; try omega))) only [↓Sx.S0, Sx.S1, Tryd.fx, uOK_1, Nat.reduceAdd, Nat.reducePow, Int.reducePow, Nat.reduceBEq, ↓reduceIte, UInt8.reduceToNat, UInt16.reduceToNat, UInt32.reduceToNat, UInt64.reduceToNat, Int.reduceToNat, hk1, hk2]
            refine ⟨_, (by simp (disch := (first | assumption | omega | (simp only [lenS, lenT, UInt64.reduceToNat]; try omega))) only [↓Sx.S0, Sx.S1, Tryd.fx, uOK_1, Nat.reduceAdd, Nat.reducePow, Int.reducePow, Nat.reduceBEq, ↓reduceIte, UInt8.reduceToNat, UInt16.reduceToNat, UInt32.reduceToNat, UInt64.reduceToNat, Int.reduceToNat]; rfl), ⟨hw4, trivial⟩, ?_⟩
            rfl
    · obtain rfl : k = l.length := by omega
      rw [entsOk_yes h2]
      ((try with_reducible refine Cw.go [] ?_); (try simp (disch := (first | assumption | omega | (simp only [lenS, lenT, UInt64.reduceToNat]; try omega))) only [↓Sx.S0, Sx.S1, Tryd.fx, uOK_1, Nat.reduceAdd, Nat.reducePow, Int.reducePow, Nat.reduceBEq, ↓reduceIte, UInt8.reduceToNat, UInt16.reduceToNat, UInt32.reduceToNat, UInt64.reduceToNat, Int.reduceToNat, ln]))
      refine ⟨_, (by simp (disch := (first | assumption | omega | (simp only [lenS, lenT, UInt64.reduceToNat]; try omega))) only [↓Sx.S0, Sx.S1, Tryd.fx, uOK_1, Nat.reduceAdd, Nat.reducePow, Int.reducePow, Nat.reduceBEq, ↓reduceIte, UInt8.reduceToNat, UInt16.reduceToNat, UInt32.reduceToNat, UInt64.reduceToNat, Int.reduceToNat]; rfl), trivial, ?_⟩
      exact congrArg Value.bool (decide_eq_decide.2 (by omega))
end Go.Proofs
end
section
open Go Go.Proofs Go.Sx Go.StP
namespace Go.Proofs
set_option maxRecDepth 10000
set_option maxHeartbeats 4000000
set_option linter.unusedSimpArgs false
set_option linter.defProp false
def uOL_1 := And.intro (And.intro (And.intro (@load_ent0) (@load_ent1)) (And.intro (@load_ent2) (@load_ent))) (And.intro (And.intro (@store_entr) (@cells_ent)) (And.intro (@rdIn_v8) (@rdIn_vi)))
theorem leq_ltB (a b : List UInt8) : (Op.bytesLess a b || a == b) = !ltB b a := by rw [← gtr_ltB, Bool.not_not]
theorem TreeRight_spec (v : Value) (l : List EntL) (w : World) (hv : EntS w v l) (hl : l.length < 1000000) (hsh : ShortE l) :
    Rets Tryd.prog 68 #[v] w (fun v' D => v' = .bool (entsOk l) ∧ D = []) := by
  obtain ⟨b, off, arr, E, fz, hr⟩ := hv.row
  have ln := hv.len
  refine Rets.enterV Tryd.func68 rfl (rs := [.tmp 2]) Tryd.results68 Tryd.ntmps68 ?_
  simp only [List.size_toArray, List.length_cons, List.length_nil, Nat.reduceAdd, Nat.reduceSub, List.replicate_succ, List.replicate_zero, List.cons_append, List.nil_append]
  by_cases h32 : 32 < l.length
  · ((try with_reducible refine Cw.go [] ?_); (try simp (disch := (first | assumption | omega | (simp only [lenS, lenT, UInt64.reduceToNat]; try omega))) only [↓Sx.S0, Sx.S1, Tryd.fx, uOL_1, Nat.reduceAdd, Nat.reducePow, Int.reducePow, Nat.reduceBEq, ↓reduceIte, UInt8.reduceToNat, UInt16.reduceToNat, UInt32.reduceToNat, UInt64.reduceToNat, Int.reduceToNat, ln]))
    have : entsOk l = false := by unfold entsOk; rw [decide_eq_false (by omega), Bool.false_and]
    rw [this]
    refine ⟨_, (by simp (disch := (first | assumption | omega | (simp only [lenS, lenT, UInt64.reduceToNat]; try omega))) only [↓Sx.S0, Sx.S1, Tryd.fx, uOL_1, Nat.reduceAdd, Nat.reducePow, Int.reducePow, Nat.reduceBEq, ↓reduceIte, UInt8.reduceToNat, UInt16.reduceToNat, UInt32.reduceToNat, UInt64.reduceToNat, Int.reduceToNat]; rfl), trivial, ?_⟩
    rfl
  · ((try with_reducible refine Cw.go [] ?_); (try simp (disch := (first | assumption | omega | (simp only [lenS, lenT, UInt64.reduceToNat]; try omega))) only [↓Sx.S0, Sx.S1, Tryd.fx, uOL_1, Nat.reduceAdd, Nat.reducePow, Int.reducePow, Nat.reduceBEq, ↓reduceIte, UInt8.reduceToNat, UInt16.reduceToNat, UInt32.reduceToNat, UInt64.reduceToNat, Int.reduceToNat, ln]))
    refine Cw.loopG (G := Nat) [7, 8, 9, 10, 13, 14, 15, 16, 17, 18, 19, 20, 21, 22, 23, 24, 25, 26, 27, 28, 29, 30, 31, 32, 33, 34, 35, 2, 36, 37, 38, 39, 40, 41, 42, 43, 44, 45, 46, 47, 48, 49, 50, 51, 11, 12, 3] (fun g => [(3, vi g)]) (fun g => []) (fun g => g ≤ l.length ∧ ∀ i, i < g → entOk l i = true) (fun g => l.length - g) 0 rfl rfl ?_ ?_
    · exact ⟨Nat.zero_le _, fun i hi => absurd hi (Nat.not_lt_zero i)⟩
    · intro k jk hk
      simp only [overFrom, pin, setF_0, setF_s, List.contains_cons, List.contains_nil, Nat.reduceBEq, Bool.or_false, Bool.false_or, Bool.or_true, Bool.true_or, Nat.reduceAdd, ↓reduceIte, Bool.false_eq_true]
      obtain ⟨h1, h2⟩ := hk
      by_cases hk : k < l.length
      · have h0 : 0 < l.length := by omega
        have hbl := hr.lt h0
        have r2 := hr.has h0
        have i2 := hr.idx true k hk
        have m0 : ∀ n, loadV (some (false, n)) (some (.cells arr E fz)) (off + k * 34) = some (vs (l.getD k ent0).name) := fun n => row_ent0 hr hk n
        have m1 : ∀ n, loadV (some (false, n)) (some (.cells arr E fz)) (off + k * 34 + 1) = some (vi (l.getD k ent0).kind) := fun n => row_ent1 hr hk n
        have hs := hsh k hk
        ((try with_reducible refine Cw.go [] ?_); (try simp (disch := (first | assumption | omega | (simp only [lenS, lenT, UInt64.reduceToNat]; try omega))) only [↓Sx.S0, Sx.S1, Tryd.fx, uOL_1, Nat.reduceAdd, Nat.reducePow, Int.reducePow, Nat.reduceBEq, ↓reduceIte, UInt8.reduceToNat, UInt16.reduceToNat, UInt32.reduceToNat, UInt64.reduceToNat, Int.reduceToNat, ln, r2, i2, m0, m1]))
        refine Ow.callFV rfl Tryd.call110 (fun w' hw' => refName_spec (l.getD k ent0).name w' hs) ?_
        cases hn : nameV (l.getD k ent0).name
        · have e0 : entOk l k = false := by unfold entOk; rw [hn]; rfl
          rw [entsOk_no hk e0]
          refine Ow.go rfl ?_
          simp (disch := (first | assumption | omega | (simp only [lenS, lenT, UInt64.reduceToNat]; try omega))) only [↓Sx.S0, Sx.S1, Tryd.fx, uOL_1, Nat.reduceAdd, Nat.reducePow, Int.reducePow, Nat.reduceBEq, ↓reduceIte, UInt8.reduceToNat, UInt16.reduceToNat, UInt32.reduceToNat, UInt64.reduceToNat, Int.reduceToNat]
          refine ⟨_, (by simp (disch := (first | assumption | omega | (simp only [lenS, lenT, UInt64.reduceToNat]; try omega))) only [↓Sx.S0, Sx.S1, Tryd.fx, uOL_1, Nat.reduceAdd, Nat.reducePow, Int.reducePow, Nat.reduceBEq, ↓reduceIte, UInt8.reduceToNat, UInt16.reduceToNat, UInt32.reduceToNat, UInt64.reduceToNat, Int.reduceToNat]; rfl), trivial, ?_⟩
          rfl
        · cases hk1 : decide ((l.getD k ent0).kind < 1)
          · cases hk2 : decide (2 < (l.getD k ent0).kind)
            · have hkk : ((l.getD k ent0).kind == 1 || (l.getD k ent0).kind == 2) = true := by
                have q1 := of_decide_eq_false hk1
                have q2 := of_decide_eq_false hk2
                rcases (show (l.getD k ent0).kind = 1 ∨ (l.getD k ent0).kind = 2 by omega) with h | h <;> rw [h] <;> rfl
              refine Ow.go rfl ?_
              simp (disch := (first | assumption | omega | (simp only [lenS, lenT, UInt64.reduceToNat]; try omega))) only [↓Sx.S0, Sx.S1, Tryd.fx, uOL_1, Nat.reduceAdd, Nat.reducePow, Int.reducePow, Nat.reduceBEq, ↓reduceIte, UInt8.reduceToNat, UInt16.reduceToNat, UInt32.reduceToNat, UInt64.reduceToNat, Int.reduceToNat, r2, i2, m0, m1, hk1, hk2]
              by_cases h0k : k = 0
              · have d1 : decide ((0 : Int) < (k : Int)) = false := decide_eq_false (by omega)
                have e1 : entOk l k = true := by unfold entOk; rw [hn, hkk, h0k]; rfl
                refine Cw.regionS [b] [0, 1, 2, 3, 4, 5, 6, 8, 9, 10, 11, 12, 7, 13, 14, 15] [] (by kernel_rfl) (by kernel_rfl) (by kernel_rfl) ?_
                simp only [nl_cons, ↓pickL_nil, ↓pickL_cons, ↓nthO_0, ↓nthO_s, consO_some]
                refine Ow.goQ ?_
                simp (disch := (first | assumption | omega | (simp only [lenS, lenT, UInt64.reduceToNat]; try omega))) only [↓Sx.S0, Sx.S1, Tryd.fx, uOL_1, Nat.reduceAdd, Nat.reducePow, Int.reducePow, Nat.reduceBEq, ↓reduceIte, UInt8.reduceToNat, UInt16.reduceToNat, UInt32.reduceToNat, UInt64.reduceToNat, Int.reduceToNat, d1]
                exact Again.mk (k + 1) (by omega) ⟨by omega, fun i hi => by
                  rcases Nat.lt_succ_iff_lt_or_eq.1 hi with h | rfl
                  · exact h2 i h
                  · exact e1⟩ rfl rfl
              · have d1 : decide ((0 : Int) < (k : Int)) = true := decide_eq_true (by omega)
                have i3 : indexAddrV (.sl (true, 34)) v (some ((k : Int) - 1)) = some (vp b (off + (k - 1) * 34)) := by
                  rw [show (k : Int) - 1 = ((k - 1 : Nat) : Int) by omega]; exact hr.idx true (k - 1) (by omega)
                have l3 : ∀ n, loadV (some (false, n)) (some (.cells arr E fz)) (off + (k - 1) * 34) = some (vs (l.getD (k - 1) ent0).name) := fun n => row_ent0 hr (show k - 1 < l.length by omega) n
                have ek : (k == 0) = false := beq_eq_false_iff_ne.2 h0k
                cases hl3 : ltB (l.getD (k - 1) ent0).name (l.getD k ent0).name
                · have e1 : entOk l k = false := by unfold entOk; rw [hn, hkk, ek]; exact hl3
                  rw [entsOk_no hk e1]
                  refine Cw.regionS [b] [0, 1, 2, 3, 4, 5, 6, 8, 9, 10, 11, 12, 7, 13, 14, 15] [] (by kernel_rfl) (by kernel_rfl) (by kernel_rfl) ?_
                  simp only [nl_cons, ↓pickL_nil, ↓pickL_cons, ↓nthO_0, ↓nthO_s, consO_some]
                  refine Ow.goQ ?_
                  simp (disch := (first | assumption | omega | (simp only [lenS, lenT, UInt64.reduceToNat]; try omega))) only [↓Sx.S0, Sx.S1, Tryd.fx, uOL_1, Nat.reduceAdd, Nat.reducePow, Int.reducePow, Nat.reduceBEq, ↓reduceIte, UInt8.reduceToNat, UInt16.reduceToNat, UInt32.reduceToNat, UInt64.reduceToNat, Int.reduceToNat, d1, i2, i3, r2, m0, l3, leq_ltB, hl3]
                  refine ⟨_, (by simp (disch := (first | assumption | omega | (simp only [lenS, lenT, UInt64.reduceToNat]; try omega))) only [↓Sx.S0, Sx.S1, Tryd.fx, uOL_1, Nat.reduceAdd, Nat.reducePow, Int.reducePow, Nat.reduceBEq, ↓reduceIte, UInt8.reduceToNat, UInt16.reduceToNat, UInt32.reduceToNat, UInt64.reduceToNat, Int.reduceToNat]; rfl), trivial, ?_⟩
                  rfl
                · have e1 : entOk l k = true := by unfold entOk; rw [hn, hkk, ek]; exact hl3
                  refine Cw.regionS [b] [0, 1, 2, 3, 4, 5, 6, 8, 9, 10, 11, 12, 7, 13, 14, 15] [] (by kernel_rfl) (by kernel_rfl) (by kernel_rfl) ?_
                  simp only [nl_cons, ↓pickL_nil, ↓pickL_cons, ↓nthO_0, ↓nthO_s, consO_some]
                  refine Ow.goQ ?_
                  simp (disch := (first | assumption | omega | (simp only [lenS, lenT, UInt64.reduceToNat]; try omega))) only [↓Sx.S0, Sx.S1, Tryd.fx, uOL_1, Nat.reduceAdd, Nat.reducePow, Int.reducePow, Nat.reduceBEq, ↓reduceIte, UInt8.reduceToNat, UInt16.reduceToNat, UInt32.reduceToNat, UInt64.reduceToNat, Int.reduceToNat, d1, i2, i3, r2, m0, l3, leq_ltB, hl3]
                  exact Again.mk (k + 1) (by omega) ⟨by omega, fun i hi => by
                    rcases Nat.lt_succ_iff_lt_or_eq.1 hi with h | rfl
                    · exact h2 i h
                    · exact e1⟩ rfl rfl
            · have e0 : entOk l k = false := by
                have q2 := of_decide_eq_true hk2
                unfold entOk
                rw [hn, show ((l.getD k ent0).kind == 1) = false from beq_eq_false_iff_ne.2 (by omega), show ((l.getD k ent0).kind == 2) = false from beq_eq_false_iff_ne.2 (by omega)]; rfl
              rw [entsOk_no hk e0]
              refine Ow.go rfl ?_
              simp (disch := (first | assumption | omega | (simp only [lenS, lenT, UInt64.reduceToNat]; try omega))) only [↓Sx.S0, Sx.S1, Tryd.fx, uOL_1, Nat.reduceAdd, Nat.reducePow, Int.reducePow, Nat.reduceBEq, ↓reduceIte, UInt8.reduceToNat, UInt16.reduceToNat, UInt32.reduceToNat, UInt64.reduceToNat, Int.reduceToNat, r2, i2, m0, m1, hk1, hk2]
              refine ⟨_, (by simp (disch := (first | assumption | omega | (simp only [lenS, lenT, UInt64.reduceToNat]; try omega))) only [↓Sx.S0, Sx.S1, Tryd.fx, uOL_1, Nat.reduceAdd, Nat.reducePow, Int.reducePow, Nat.reduceBEq, ↓reduceIte, UInt8.reduceToNat, UInt16.reduceToNat, UInt32.reduceToNat, UInt64.reduceToNat, Int.reduceToNat]; rfl), trivial, ?_⟩
              rfl
          · have e0 : entOk l k = false := by
              have q2 := of_decide_eq_true hk1
              unfold entOk
              rw [hn, show ((l.getD k ent0).kind == 1) = false from beq_eq_false_iff_ne.2 (by omega), show ((l.getD k ent0).kind == 2) = false from beq_eq_false_iff_ne.2 (by omega)]; rfl
            rw [entsOk_no hk e0]
            refine Ow.go rfl ?_
            simp (disch := (first | assumption | omega | (simp only [lenS, lenT, UInt64.reduceToNat]; try omega))) only [↓Sx.S0, Sx.S1, Tryd.fx, uOL_1, Nat.reduceAdd, Nat.reducePow, Int.reducePow, Nat.reduceBEq, ↓reduceIte, UInt8.reduceToNat, UInt16.reduceToNat, UInt32.reduceToNat, UInt64.reduceToNat, Int.reduceToNat, r2, i2, m0, m1, hk1]
            refine ⟨_, (by simp (disch := (first | assumption | omega | (simp only [lenS, lenT, UInt64.reduceToNat]; try omega))) only [↓Sx.S0, Sx.S1, Tryd.fx, uOL_1, Nat.reduceAdd, Nat.reducePow, Int.reducePow, Nat.reduceBEq, ↓reduceIte, UInt8.reduceToNat, UInt16.reduceToNat, UInt32.reduceToNat, UInt64.reduceToNat, Int.reduceToNat]; rfl), trivial, ?_⟩
            rfl
      · obtain rfl : k = l.length := by omega
        rw [entsOk_yes h2, show decide (l.length ≤ 32) = true from decide_eq_true (by omega)]
        ((try with_reducible refine Cw.go [] ?_); (try simp (disch := (first | assumption | omega | (simp only [lenS, lenT, UInt64.reduceToNat]; try omega))) only [↓Sx.S0, Sx.S1, Tryd.fx, uOL_1, Nat.reduceAdd, Nat.reducePow, Int.reducePow, Nat.reduceBEq, ↓reduceIte, UInt8.reduceToNat, UInt16.reduceToNat, UInt32.reduceToNat, UInt64.reduceToNat, Int.reduceToNat, ln]))
        refine ⟨_, (by simp (disch := (first | assumption | omega | (simp only [lenS, lenT, UInt64.reduceToNat]; try omega))) only [↓Sx.S0, Sx.S1, Tryd.fx, uOL_1, Nat.reduceAdd, Nat.reducePow, Int.reducePow, Nat.reduceBEq, ↓reduceIte, UInt8.reduceToNat, UInt16.reduceToNat, UInt32.reduceToNat, UInt64.reduceToNat, Int.reduceToNat]; rfl), trivial, ?_⟩
        rfl
end Go.Proofs
end
section
open Go Go.Proofs Go.Sx Go.StP
namespace Go.Proofs
set_option maxRecDepth 10000
set_option maxHeartbeats 4000000
set_option linter.unusedSimpArgs false
/-! ### Ids in slices -/
theorem idLC_len' (x : IdL) : (idLC x).length = 32 := by simp [idLC, x.h]
theorem idLC_one' (x : IdL) : (idLC x).all Value.oneCell' = true := all_v8 _
abbrev IdS (w : World) (v : Value) (l : List IdL) : Prop := SlV 32 idLC id0 w v l
theorem row_id {w : World} {v : Value} {l : List IdL} {b off : Nat} {arr : Array Value} {E : TypeId} {fz : Nat × Nat} (h : RowS 32 idLC id0 w v l b off arr E fz) {k : Nat} (hk : k < l.length) :
    loadV (some (true, 32)) (some (.cells arr E fz)) (off + k * 32) = some (.agg (a8 (l.getD k id0).l)) := RowS.load h idLC_len' (by omega) hk
theorem eqIdA (a b : IdL) : binX Tryd.prog .eql 40 (.agg (a8 a.l)) (.agg (a8 b.l)) = some (.bool (a.l == b.l)) :=
  binX_a8 Tryd.underlying40 Tryd.underlying5 Tryd.ag5 (by kernel_rfl) a.l b.l ⟨a.h, b.h⟩
theorem neIdA (a b : IdL) : binX Tryd.prog .neq 40 (.agg (a8 a.l)) (.agg (a8 b.l)) = some (.bool (!(a.l == b.l))) :=
  binX_a8n Tryd.underlying40 Tryd.underlying5 Tryd.ag5 (by kernel_rfl) a.l b.l ⟨a.h, b.h⟩
instance : DecidableEq IdL := fun a b => if h : a.l = b.l then .isTrue (by cases a; cases b; simp only at h; subst h; rfl) else .isFalse (fun e => h (by rw [e]))
theorem IdL.ext' {a b : IdL} (h : a.l = b.l) : a = b := by cases a; cases b; simp only at h; subst h; rfl
/-- The first place of an id. -/
def idxG (x : IdL) : List IdL → Nat → Int
  | [], _ => -1
  | y :: r, i => if x.l == y.l then (i : Int) else idxG x r (i + 1)
theorem idxG_cons (x y : IdL) (r : List IdL) (i : Nat) : idxG x (y :: r) i = if x.l == y.l then (i : Int) else idxG x r (i + 1) := rfl
theorem idxG_any (x : IdL) : ∀ (l : List IdL) (i : Nat), decide (0 ≤ idxG x l i) = l.any fun y => x.l == y.l
  | [], _ => rfl
  | y :: r, i => by
    unfold idxG
    rw [List.any_cons]
    cases h : (x.l == y.l)
    · rw [if_neg (by simp), Bool.false_or]; exact idxG_any x r (i + 1)
    · rw [if_pos rfl, Bool.true_or, decide_eq_true (by omega)]
theorem load_idb (x : IdL) (E : TypeId) (fz : Nat × Nat) : loadV (some (true, 32)) (some (.cells (a8 x.l) E fz)) 0 = some (.agg (a8 x.l)) := load_all8 _ E fz 32 x.h
set_option linter.defProp false
def uOM_1 := And.intro (And.intro (@eqIdA) (@neIdA)) (And.intro (@load_idb) (And.intro (@rdIn_v8) (@rdIn_vi)))
theorem IndexId_spec (v : Value) (l : List IdL) (x : IdL) (w : World) (hv : IdS w v l) (hl : l.length < 1000000) :
    Rets Tryd.prog 175 #[v, .agg (a8 x.l)] w (fun v' D => v' = vi (idxG x l 0) ∧ D = []) := by
  obtain ⟨b, off, arr, E, fz, hr⟩ := hv.row
  have ln := hv.len
  refine Rets.enterV Tryd.func175 rfl (rs := [.tmp 4]) Tryd.results175 Tryd.ntmps175 ?_
  simp only [List.size_toArray, List.length_cons, List.length_nil, Nat.reduceAdd, Nat.reduceSub, List.replicate_succ, List.replicate_zero, List.cons_append, List.nil_append]
  ((try with_reducible refine Cw.go [] ?_); (try simp (disch := (first | assumption | omega | (simp only [lenS, lenT, UInt64.reduceToNat]; try omega))) only [↓Sx.S0, Sx.S1, Tryd.fx, uOM_1, Nat.reduceAdd, Nat.reducePow, Int.reducePow, Nat.reduceBEq, ↓reduceIte, UInt8.reduceToNat, UInt16.reduceToNat, UInt32.reduceToNat, UInt64.reduceToNat, Int.reduceToNat]))
  refine Ow.box rfl rfl fun b1 hb1 hw1 => ?_
  simp only [ev_tmp, getF_0, getF_s, cells_agg, List.nil_append, List.cons_append]
  refine Ow.go rfl ?_
  simp (disch := (first | assumption | omega | (simp only [lenS, lenT, UInt64.reduceToNat]; try omega))) only [↓Sx.S0, Sx.S1, Tryd.fx, uOM_1, Nat.reduceAdd, Nat.reducePow, Int.reducePow, Nat.reduceBEq, ↓reduceIte, UInt8.reduceToNat, UInt16.reduceToNat, UInt32.reduceToNat, UInt64.reduceToNat, Int.reduceToNat]
  ((try with_reducible refine Cw.go [] ?_); (try simp (disch := (first | assumption | omega | (simp only [lenS, lenT, UInt64.reduceToNat]; try omega))) only [↓Sx.S0, Sx.S1, Tryd.fx, uOM_1, Nat.reduceAdd, Nat.reducePow, Int.reducePow, Nat.reduceBEq, ↓reduceIte, UInt8.reduceToNat, UInt16.reduceToNat, UInt32.reduceToNat, UInt64.reduceToNat, Int.reduceToNat, ln]))
  refine Cw.loopG (G := Nat) [9, 10, 5, 11, 12, 13, 14, 15, 16, 17, 4, 18, 8] (fun g => [(8, vi g)]) (fun g => [(b1, .cells (a8 x.l) 40 (0, 0))]) (fun g => g ≤ l.length ∧ idxG x l 0 = idxG x (l.drop g) g) (fun g => l.length - g) 0 rfl rfl ?_ ?_
  · exact ⟨Nat.zero_le _, rfl⟩
  · intro k jk hk
    simp only [overFrom, pin, setF_0, setF_s, List.contains_cons, List.contains_nil, Nat.reduceBEq, Bool.or_false, Bool.false_or, Bool.or_true, Bool.true_or, Nat.reduceAdd, ↓reduceIte, Bool.false_eq_true]
    obtain ⟨h1, h2⟩ := hk
    by_cases hk : k < l.length
    · have h0 : 0 < l.length := by omega
      have hbl := hr.lt h0
      have hn1 : b1 ≠ b := by omega
      have r2 := hr.has h0
      have i2 := hr.idx true k hk
      have l2 := row_id hr hk
      rw [drop_cons (z := id0) hk, idxG_cons] at h2
      ((try with_reducible refine Cw.go [] ?_); (try simp (disch := (first | assumption | omega | (simp only [lenS, lenT, UInt64.reduceToNat]; try omega))) only [↓Sx.S0, Sx.S1, Tryd.fx, uOM_1, Nat.reduceAdd, Nat.reducePow, Int.reducePow, Nat.reduceBEq, ↓reduceIte, UInt8.reduceToNat, UInt16.reduceToNat, UInt32.reduceToNat, UInt64.reduceToNat, Int.reduceToNat]))
      refine Cw.regionS [b1, b] [1, 2, 3, 0, 4, 5] [] (by kernel_rfl) (by kernel_rfl) (by kernel_rfl) ?_
      simp only [nl_cons, ↓pickL_nil, ↓pickL_cons, ↓nthO_0, ↓nthO_s, consO_some]
      refine Ow.goQ ?_
      simp (disch := (first | assumption | omega | (simp only [lenS, lenT, UInt64.reduceToNat]; try omega))) only [↓Sx.S0, Sx.S1, Tryd.fx, uOM_1, Nat.reduceAdd, Nat.reducePow, Int.reducePow, Nat.reduceBEq, ↓reduceIte, UInt8.reduceToNat, UInt16.reduceToNat, UInt32.reduceToNat, UInt64.reduceToNat, Int.reduceToNat, i2, r2, l2]
      cases hq : (x.l == (l.getD k id0).l)
      · rw [hq, if_neg (by simp)] at h2
        ((try with_reducible refine Cw.go [] ?_); (try simp (disch := (first | assumption | omega | (simp only [lenS, lenT, UInt64.reduceToNat]; try omega))) only [↓Sx.S0, Sx.S1, Tryd.fx, uOM_1, Nat.reduceAdd, Nat.reducePow, Int.reducePow, Nat.reduceBEq, ↓reduceIte, UInt8.reduceToNat, UInt16.reduceToNat, UInt32.reduceToNat, UInt64.reduceToNat, Int.reduceToNat, hq]))
        exact Again.mk (k + 1) (by omega) ⟨hk, h2⟩ rfl rfl
      · rw [hq, if_pos rfl] at h2
        rw [h2]
        ((try with_reducible refine Cw.go [] ?_); (try simp (disch := (first | assumption | omega | (simp only [lenS, lenT, UInt64.reduceToNat]; try omega))) only [↓Sx.S0, Sx.S1, Tryd.fx, uOM_1, Nat.reduceAdd, Nat.reducePow, Int.reducePow, Nat.reduceBEq, ↓reduceIte, UInt8.reduceToNat, UInt16.reduceToNat, UInt32.reduceToNat, UInt64.reduceToNat, Int.reduceToNat, hq]))
        refine ⟨_, (by simp (disch := (first | assumption | omega | (simp only [lenS, lenT, UInt64.reduceToNat]; try omega))) only [↓Sx.S0, Sx.S1, Tryd.fx, uOM_1, Nat.reduceAdd, Nat.reducePow, Int.reducePow, Nat.reduceBEq, ↓reduceIte, UInt8.reduceToNat, UInt16.reduceToNat, UInt32.reduceToNat, UInt64.reduceToNat, Int.reduceToNat]; rfl), ⟨hw1, trivial⟩, ?_⟩
        rfl
    · obtain rfl : k = l.length := by omega
      rw [List.drop_length] at h2
      rw [h2]
      ((try with_reducible refine Cw.go [] ?_); (try simp (disch := (first | assumption | omega | (simp only [lenS, lenT, UInt64.reduceToNat]; try omega))) only [↓Sx.S0, Sx.S1, Tryd.fx, uOM_1, Nat.reduceAdd, Nat.reducePow, Int.reducePow, Nat.reduceBEq, ↓reduceIte, UInt8.reduceToNat, UInt16.reduceToNat, UInt32.reduceToNat, UInt64.reduceToNat, Int.reduceToNat]))
      refine ⟨_, (by simp (disch := (first | assumption | omega | (simp only [lenS, lenT, UInt64.reduceToNat]; try omega))) only [↓Sx.S0, Sx.S1, Tryd.fx, uOM_1, Nat.reduceAdd, Nat.reducePow, Int.reducePow, Nat.reduceBEq, ↓reduceIte, UInt8.reduceToNat, UInt16.reduceToNat, UInt32.reduceToNat, UInt64.reduceToNat, Int.reduceToNat]; rfl), ⟨hw1, trivial⟩, ?_⟩
      rfl
theorem ContainsId_spec (v : Value) (l : List IdL) (x : IdL) (w : World) (hv : IdS w v l) (hl : l.length < 1000000) :
    Rets Tryd.prog 155 #[v, .agg (a8 x.l)] w (fun v' D => v' = .bool (l.any fun y => x.l == y.l) ∧ D = []) := by
  refine Rets.enterV Tryd.func155 rfl (rs := [.tmp 4]) Tryd.results155 Tryd.ntmps155 ?_
  simp only [List.size_toArray, List.length_cons, List.length_nil, Nat.reduceAdd, Nat.reduceSub, List.replicate_succ, List.replicate_zero, List.cons_append, List.nil_append]
  ((try with_reducible refine Cw.go [] ?_); (try simp (disch := (first | assumption | omega | (simp only [lenS, lenT, UInt64.reduceToNat]; try omega))) only [↓Sx.S0, Sx.S1, Tryd.fx, uOM_1, Nat.reduceAdd, Nat.reducePow, Int.reducePow, Nat.reduceBEq, ↓reduceIte, UInt8.reduceToNat, UInt16.reduceToNat, UInt32.reduceToNat, UInt64.reduceToNat, Int.reduceToNat]))
  refine Ow.box rfl rfl fun b1 hb1 hw1 => ?_
  simp only [ev_tmp, getF_0, getF_s, cells_agg, List.nil_append, List.cons_append]
  refine Ow.go rfl ?_
  simp (disch := (first | assumption | omega | (simp only [lenS, lenT, UInt64.reduceToNat]; try omega))) only [↓Sx.S0, Sx.S1, Tryd.fx, uOM_1, Nat.reduceAdd, Nat.reducePow, Int.reducePow, Nat.reduceBEq, ↓reduceIte, UInt8.reduceToNat, UInt16.reduceToNat, UInt32.reduceToNat, UInt64.reduceToNat, Int.reduceToNat]
  ((try with_reducible refine Cw.go [] ?_); (try simp (disch := (first | assumption | omega | (simp only [lenS, lenT, UInt64.reduceToNat]; try omega))) only [↓Sx.S0, Sx.S1, Tryd.fx, uOM_1, Nat.reduceAdd, Nat.reducePow, Int.reducePow, Nat.reduceBEq, ↓reduceIte, UInt8.reduceToNat, UInt16.reduceToNat, UInt32.reduceToNat, UInt64.reduceToNat, Int.reduceToNat]))
  refine Ow.callFV rfl Tryd.call175 (fun w' hw' => IndexId_spec v l x w' (hv.oldN hw' ⟨hw1, trivial⟩) hl) ?_
  refine Ow.go rfl ?_
  simp (disch := (first | assumption | omega | (simp only [lenS, lenT, UInt64.reduceToNat]; try omega))) only [↓Sx.S0, Sx.S1, Tryd.fx, uOM_1, Nat.reduceAdd, Nat.reducePow, Int.reducePow, Nat.reduceBEq, ↓reduceIte, UInt8.reduceToNat, UInt16.reduceToNat, UInt32.reduceToNat, UInt64.reduceToNat, Int.reduceToNat]
  refine ⟨_, (by simp (disch := (first | assumption | omega | (simp only [lenS, lenT, UInt64.reduceToNat]; try omega))) only [↓Sx.S0, Sx.S1, Tryd.fx, uOM_1, Nat.reduceAdd, Nat.reducePow, Int.reducePow, Nat.reduceBEq, ↓reduceIte, UInt8.reduceToNat, UInt16.reduceToNat, UInt32.reduceToNat, UInt64.reduceToNat, Int.reduceToNat]; rfl), ⟨hw1, trivial⟩, ?_⟩
  exact congrArg Value.bool (idxG_any x l 0)
theorem SameIds_spec (v1 v2 : Value) (l1 l2 : List IdL) (w : World) (hv1 : IdS w v1 l1) (hv2 : IdS w v2 l2) (hl1 : l1.length < 1000000) (_hl2 : l2.length < 1000000) :
    Rets Tryd.prog 65 #[v1, v2] w (fun v' D => v' = .bool (decide (l1 = l2)) ∧ D = []) := by
  obtain ⟨b1, off1, arr1, E1, fz1, hr1⟩ := hv1.row
  obtain ⟨b2, off2, arr2, E2, fz2, hr2⟩ := hv2.row
  have ln1 := hv1.len
  have ln2 := hv2.len
  refine Rets.enterV Tryd.func65 rfl (rs := [.tmp 4]) Tryd.results65 Tryd.ntmps65 ?_
  simp only [List.size_toArray, List.length_cons, List.length_nil, Nat.reduceAdd, Nat.reduceSub, List.replicate_succ, List.replicate_zero, List.cons_append, List.nil_append]
  by_cases hl : l1.length = l2.length
  · ((try with_reducible refine Cw.go [] ?_); (try simp (disch := (first | assumption | omega | (simp only [lenS, lenT, UInt64.reduceToNat]; try omega))) only [↓Sx.S0, Sx.S1, Tryd.fx, uOM_1, Nat.reduceAdd, Nat.reducePow, Int.reducePow, Nat.reduceBEq, ↓reduceIte, UInt8.reduceToNat, UInt16.reduceToNat, UInt32.reduceToNat, UInt64.reduceToNat, Int.reduceToNat, ln1, ln2]))
    refine Cw.loopG (G := Nat) [11, 12, 13, 14, 17, 18, 19, 20, 21, 22, 23, 24, 25, 4, 15, 16, 5] (fun g => [(5, vi g)]) (fun g => []) (fun g => g ≤ l1.length ∧ l1.take g = l2.take g) (fun g => l1.length - g) 0 rfl rfl ?_ ?_
    · exact ⟨Nat.zero_le _, rfl⟩
    · intro k jk hk
      simp only [overFrom, pin, setF_0, setF_s, List.contains_cons, List.contains_nil, Nat.reduceBEq, Bool.or_false, Bool.false_or, Bool.or_true, Bool.true_or, Nat.reduceAdd, ↓reduceIte, Bool.false_eq_true]
      obtain ⟨h1, h2⟩ := hk
      by_cases hk : k < l1.length
      · have h0 : 0 < l1.length := by omega
        have ra := hr1.has h0
        have rb := hr2.has (show 0 < l2.length by omega)
        have ia := hr1.idx true k hk
        have ib := hr2.idx true k (show k < l2.length by omega)
        have la := row_id hr1 hk
        have lb := row_id hr2 (show k < l2.length by omega)
        ((try with_reducible refine Cw.go [] ?_); (try simp (disch := (first | assumption | omega | (simp only [lenS, lenT, UInt64.reduceToNat]; try omega))) only [↓Sx.S0, Sx.S1, Tryd.fx, uOM_1, Nat.reduceAdd, Nat.reducePow, Int.reducePow, Nat.reduceBEq, ↓reduceIte, UInt8.reduceToNat, UInt16.reduceToNat, UInt32.reduceToNat, UInt64.reduceToNat, Int.reduceToNat, ln1]))
        refine Cw.regionS [b1, b2] [0, 1, 2, 4, 5, 6, 3, 7, 8] [] (by kernel_rfl) (by kernel_rfl) (by kernel_rfl) ?_
        simp only [nl_cons, ↓pickL_nil, ↓pickL_cons, ↓nthO_0, ↓nthO_s, consO_some]
        refine Ow.goQ ?_
        simp (disch := (first | assumption | omega | (simp only [lenS, lenT, UInt64.reduceToNat]; try omega))) only [↓Sx.S0, Sx.S1, Tryd.fx, uOM_1, Nat.reduceAdd, Nat.reducePow, Int.reducePow, Nat.reduceBEq, ↓reduceIte, UInt8.reduceToNat, UInt16.reduceToNat, UInt32.reduceToNat, UInt64.reduceToNat, Int.reduceToNat, ra, rb, ia, ib, la, lb]
        cases hq : ((l1.getD k id0).l == (l2.getD k id0).l)
        · have : decide (l1 = l2) = false := decide_eq_false (fun e => by rw [e] at hq; simp at hq)
          rw [this]
          ((try with_reducible refine Cw.go [] ?_); (try simp (disch := (first | assumption | omega | (simp only [lenS, lenT, UInt64.reduceToNat]; try omega))) only [↓Sx.S0, Sx.S1, Tryd.fx, uOM_1, Nat.reduceAdd, Nat.reducePow, Int.reducePow, Nat.reduceBEq, ↓reduceIte, UInt8.reduceToNat, UInt16.reduceToNat, UInt32.reduceToNat, UInt64.reduceToNat, Int.reduceToNat, hq]))
          refine ⟨_, (by simp (disch := (first | assumption | omega | (simp only [lenS, lenT, UInt64.reduceToNat]; try omega))) only [↓Sx.S0, Sx.S1, Tryd.fx, uOM_1, Nat.reduceAdd, Nat.reducePow, Int.reducePow, Nat.reduceBEq, ↓reduceIte, UInt8.reduceToNat, UInt16.reduceToNat, UInt32.reduceToNat, UInt64.reduceToNat, Int.reduceToNat]; rfl), trivial, ?_⟩
          rfl
        · ((try with_reducible refine Cw.go [] ?_); (try simp (disch := (first | assumption | omega | (simp only [lenS, lenT, UInt64.reduceToNat]; try omega))) only [↓Sx.S0, Sx.S1, Tryd.fx, uOM_1, Nat.reduceAdd, Nat.reducePow, Int.reducePow, Nat.reduceBEq, ↓reduceIte, UInt8.reduceToNat, UInt16.reduceToNat, UInt32.reduceToNat, UInt64.reduceToNat, Int.reduceToNat, hq]))
          refine Again.mk (k + 1) (by omega) ⟨hk, ?_⟩ rfl rfl
          have e : l1.getD k id0 = l2.getD k id0 := IdL.ext' (by simpa using hq)
          rw [take_snoc (z := id0) hk, take_snoc (z := id0) (show k < l2.length by omega), h2, e]
      · obtain rfl : k = l1.length := by omega
        have : l1 = l2 := by rw [List.take_length, hl, List.take_length] at h2; exact h2
        rw [decide_eq_true this]
        ((try with_reducible refine Cw.go [] ?_); (try simp (disch := (first | assumption | omega | (simp only [lenS, lenT, UInt64.reduceToNat]; try omega))) only [↓Sx.S0, Sx.S1, Tryd.fx, uOM_1, Nat.reduceAdd, Nat.reducePow, Int.reducePow, Nat.reduceBEq, ↓reduceIte, UInt8.reduceToNat, UInt16.reduceToNat, UInt32.reduceToNat, UInt64.reduceToNat, Int.reduceToNat, ln1]))
        refine ⟨_, (by simp (disch := (first | assumption | omega | (simp only [lenS, lenT, UInt64.reduceToNat]; try omega))) only [↓Sx.S0, Sx.S1, Tryd.fx, uOM_1, Nat.reduceAdd, Nat.reducePow, Int.reducePow, Nat.reduceBEq, ↓reduceIte, UInt8.reduceToNat, UInt16.reduceToNat, UInt32.reduceToNat, UInt64.reduceToNat, Int.reduceToNat]; rfl), trivial, ?_⟩
        rfl
  · have : decide (l1 = l2) = false := decide_eq_false (fun e => hl (by rw [e]))
    rw [this]
    ((try with_reducible refine Cw.go [] ?_); (try simp (disch := (first | assumption | omega | (simp only [lenS, lenT, UInt64.reduceToNat]; try omega))) only [↓Sx.S0, Sx.S1, Tryd.fx, uOM_1, Nat.reduceAdd, Nat.reducePow, Int.reducePow, Nat.reduceBEq, ↓reduceIte, UInt8.reduceToNat, UInt16.reduceToNat, UInt32.reduceToNat, UInt64.reduceToNat, Int.reduceToNat, ln1, ln2]))
    refine ⟨_, (by simp (disch := (first | assumption | omega | (simp only [lenS, lenT, UInt64.reduceToNat]; try omega))) only [↓Sx.S0, Sx.S1, Tryd.fx, uOM_1, Nat.reduceAdd, Nat.reducePow, Int.reducePow, Nat.reduceBEq, ↓reduceIte, UInt8.reduceToNat, UInt16.reduceToNat, UInt32.reduceToNat, UInt64.reduceToNat, Int.reduceToNat]; rfl), trivial, ?_⟩
    rfl
end Go.Proofs
end
section
open Go Go.Proofs Go.Sx Go.StP
namespace Go.Proofs
set_option maxRecDepth 10000
set_option maxHeartbeats 4000000
set_option linter.unusedSimpArgs false
/-! ### Commits -/
structure ComL where
  tree : IdL
  par : List IdL
  text : List UInt8
def comC (t : IdL) (p : Value) (x : List UInt8) : List Value := t.l.map v8 ++ ([p] ++ [vs x])
theorem comC_len (t : IdL) (p : Value) (x : List UInt8) : (comC t p x).length = 34 := by simp [comC, t.h]
theorem comC_one (t : IdL) (p : Value) (x : List UInt8) (hp : Value.oneCell' p = true) : (comC t p x).all Value.oneCell' = true := by
  unfold comC
  simp only [List.all_append, List.all_cons, List.all_nil, all_v8, hp, Bool.and_true, Bool.true_and]
  rfl
theorem cells_com (t : IdL) (p : Value) (x : List UInt8) : Value.cells (.agg (comC t p x).toArray) = (comC t p x).toArray := cells_agg _
theorem load_com0 (t : IdL) (p : Value) (x : List UInt8) (E : TypeId) (fz : Nat × Nat) : loadV (some (true, 32)) (some (.cells (comC t p x).toArray E fz)) 0 = some (.agg (a8 t.l)) := by
  unfold comC; exact load_agg [] _ _ E fz rfl (by simp [t.h])
theorem load_com1 (t : IdL) (p : Value) (x : List UInt8) (n : Nat) (E : TypeId) (fz : Nat × Nat) : loadV (some (false, n)) (some (.cells (comC t p x).toArray E fz)) 32 = some p := by
  unfold comC; exact load_one _ _ p n E fz (by simp [t.h])
theorem load_com2 (t : IdL) (p : Value) (x : List UInt8) (n : Nat) (E : TypeId) (fz : Nat × Nat) : loadV (some (false, n)) (some (.cells (comC t p x).toArray E fz)) 33 = some (vs x) := by
  have e : comC t p x = (t.l.map v8 ++ [p]) ++ ([vs x] ++ []) := by unfold comC; simp only [List.append_assoc, List.append_nil]
  rw [e]; exact load_one _ _ (vs x) n E fz (by simp [t.h])
theorem load_com (t : IdL) (p : Value) (x : List UInt8) (E : TypeId) (fz : Nat × Nat) : loadV (some (true, 34)) (some (.cells (comC t p x).toArray E fz)) 0 = some (.agg (comC t p x).toArray) := load_all _ E fz 34 (by rw [List.size_toArray, comC_len])
theorem store_com (old : Array Value) (t : IdL) (p : Value) (x : List UInt8) (a : Bool) (E : TypeId) (h : old.size = 34) (hp : Value.oneCell' p = true) : storeV (some (a, 34)) (some (.cells old E (0, 0))) 0 (.agg (comC t p x).toArray) = some (.cells (comC t p x).toArray E (0, 0)) := store_whole _ a old E (comC_len t p x) (comC_one t p x hp) h
/-- May a commit be? -/
def parOk (l : List IdL) (i : Nat) : Bool := !((l.take i).any fun y => (l.getD i id0).l == y.l)
def comOk (c : ComL) : Bool := (decide (c.par.length ≤ 4) && decide (c.text.length ≤ 64)) && (List.range c.par.length).all (parOk c.par)
theorem comOk_no {c : ComL} {k : Nat} (hk : k < c.par.length) (h : parOk c.par k = false) : comOk c = false := by
  unfold comOk
  have : (List.range c.par.length).all (parOk c.par) = false := by
    rw [List.all_eq_false]
    exact ⟨k, List.mem_range.2 hk, by simp [h]⟩
  rw [this, Bool.and_false]
theorem comOk_yes {c : ComL} (h : ∀ i, i < c.par.length → parOk c.par i = true) : comOk c = (decide (c.par.length ≤ 4) && decide (c.text.length ≤ 64)) := by
  unfold comOk
  have : (List.range c.par.length).all (parOk c.par) = true := List.all_eq_true.2 fun i hi => h i (List.mem_range.1 hi)
  rw [this, Bool.and_true]
abbrev ComS (w : World) (v : Value) (c : ComL) : Prop := ∃ p, v = .agg (comC c.tree p c.text).toArray ∧ IdS w p c.par
theorem SlV.one {α : Type} {m : Nat} {enc : α → List Value} {z : α} {w : World} {v : Value} {l : List α} (h : SlV m enc z w v l) : Value.oneCell' v = true ∧ v.cells = #[v] := by
  obtain ⟨b, off, c, arr, E, fz, -, -, ⟨rfl, -, -⟩ | ⟨rfl, -, -⟩⟩ := h <;> exact ⟨rfl, rfl⟩
set_option linter.defProp false
def uON_1 := And.intro (And.intro (And.intro (@eqIdA) (@neIdA)) (And.intro (@load_idb) (And.intro (@rdIn_v8) (@rdIn_vi)))) (And.intro (And.intro (@load_com0) (@load_com1)) (And.intro (@load_com2) (And.intro (@load_com) (@cells_com))))
theorem commit_spec (v : Value) (c : ComL) (w : World) (hv : ComS w v c) (hl : c.par.length < 1000000) (ht : c.text.length < 1099511627776) :
    Rets Tryd.prog 132 #[v] w (fun v' D => v' = .bool (comOk c) ∧ D = []) := by
  obtain ⟨p, rfl, hp⟩ := hv
  obtain ⟨b, off, arr, E, fz, hr⟩ := hp.row
  have ln := hp.len
  refine Rets.enterV Tryd.func132 rfl (rs := [.tmp 2]) Tryd.results132 Tryd.ntmps132 ?_
  simp only [List.size_toArray, List.length_cons, List.length_nil, Nat.reduceAdd, Nat.reduceSub, List.replicate_succ, List.replicate_zero, List.cons_append, List.nil_append]
  ((try with_reducible refine Cw.go [] ?_); (try simp (disch := (first | assumption | omega | (simp only [lenS, lenT, UInt64.reduceToNat]; try omega))) only [↓Sx.S0, Sx.S1, Tryd.fx, uON_1, Nat.reduceAdd, Nat.reducePow, Int.reducePow, Nat.reduceBEq, ↓reduceIte, UInt8.reduceToNat, UInt16.reduceToNat, UInt32.reduceToNat, UInt64.reduceToNat, Int.reduceToNat]))
  refine Ow.box rfl rfl fun bx hbx hwx => ?_
  simp only [ev_tmp, getF_0, getF_s, cells_agg, List.nil_append, List.cons_append]
  refine Ow.go rfl ?_
  simp (disch := (first | assumption | omega | (simp only [lenS, lenT, UInt64.reduceToNat]; try omega))) only [↓Sx.S0, Sx.S1, Tryd.fx, uON_1, Nat.reduceAdd, Nat.reducePow, Int.reducePow, Nat.reduceBEq, ↓reduceIte, UInt8.reduceToNat, UInt16.reduceToNat, UInt32.reduceToNat, UInt64.reduceToNat, Int.reduceToNat]
  ((try with_reducible refine Cw.go [] ?_); (try simp (disch := (first | assumption | omega | (simp only [lenS, lenT, UInt64.reduceToNat]; try omega))) only [↓Sx.S0, Sx.S1, Tryd.fx, uON_1, Nat.reduceAdd, Nat.reducePow, Int.reducePow, Nat.reduceBEq, ↓reduceIte, UInt8.reduceToNat, UInt16.reduceToNat, UInt32.reduceToNat, UInt64.reduceToNat, Int.reduceToNat, ln]))
  refine Cw.loopG (G := Nat) [9, 10, 11, 12, 4, 3, 13, 14, 15, 16, 17, 18, 2, 19, 8] (fun g => [(8, vi g)]) (fun g => [(bx, .cells (comC c.tree p c.text).toArray 54 (0, 0))]) (fun g => g ≤ c.par.length ∧ ∀ i, i < g → parOk c.par i = true) (fun g => c.par.length - g) 0 rfl rfl ?_ ?_
  · exact ⟨Nat.zero_le _, fun i hi => absurd hi (Nat.not_lt_zero i)⟩
  · intro k jk hk
    simp only [overFrom, pin, setF_0, setF_s, List.contains_cons, List.contains_nil, Nat.reduceBEq, Bool.or_false, Bool.false_or, Bool.or_true, Bool.true_or, Nat.reduceAdd, ↓reduceIte, Bool.false_eq_true]
    obtain ⟨h1, h2⟩ := hk
    by_cases hk : k < c.par.length
    · have h0 : 0 < c.par.length := by omega
      have hbl := hr.lt h0
      have hnb : bx ≠ b := by omega
      have r2 := hr.has h0
      have i2 := hr.idx true k hk
      have l2 := row_id hr hk
      obtain ⟨v3, s3, hv3, -⟩ := hp.take (show k ≤ c.par.length by omega) true
      ((try with_reducible refine Cw.go [6] ?_); (try simp (disch := (first | assumption | omega | (simp only [lenS, lenT, UInt64.reduceToNat]; try omega))) only [↓Sx.S0, Sx.S1, Tryd.fx, uON_1, Nat.reduceAdd, Nat.reducePow, Int.reducePow, Nat.reduceBEq, ↓reduceIte, UInt8.reduceToNat, UInt16.reduceToNat, UInt32.reduceToNat, UInt64.reduceToNat, Int.reduceToNat, i2, r2, l2]))
      refine Ow.alloc rfl rfl Tryd.zr40 fun b4 hb4 hw4 => ?_
      simp only [cells_agg, List.nil_append, List.cons_append]
      obtain ⟨h4, -⟩ := hb4
      have hxl := (c.par.getD k id0).h
      refine Ow.go rfl ?_
      simp (disch := (first | assumption | omega | (simp only [lenS, lenT, UInt64.reduceToNat]; try omega))) only [↓Sx.S0, Sx.S1, Tryd.fx, uON_1, Nat.reduceAdd, Nat.reducePow, Int.reducePow, Nat.reduceBEq, ↓reduceIte, UInt8.reduceToNat, UInt16.reduceToNat, UInt32.reduceToNat, UInt64.reduceToNat, Int.reduceToNat]
      refine Cw.regionS [bx, b4] [0, 2, 1, 3, 4, 5] [] (by kernel_rfl) (by kernel_rfl) (by kernel_rfl) ?_
      simp only [nl_cons, ↓pickL_nil, ↓pickL_cons, ↓nthO_0, ↓nthO_s, consO_some]
      refine Ow.goQ ?_
      simp (disch := (first | assumption | omega | (simp only [lenS, lenT, UInt64.reduceToNat]; try omega))) only [↓Sx.S0, Sx.S1, Tryd.fx, uON_1, Nat.reduceAdd, Nat.reducePow, Int.reducePow, Nat.reduceBEq, ↓reduceIte, UInt8.reduceToNat, UInt16.reduceToNat, UInt32.reduceToNat, UInt64.reduceToNat, Int.reduceToNat, s3]
      refine Ow.callFV rfl Tryd.call155 (fun w' hw' => ContainsId_spec v3 (c.par.take k) (c.par.getD k id0) w' (hv3.oldN hw' ⟨hwx, hw4, trivial⟩) (by rw [List.length_take]; omega)) ?_
      cases hq : (c.par.take k).any fun y => (c.par.getD k id0).l == y.l
      · have e1 : parOk c.par k = true := by unfold parOk; rw [hq]; rfl
        refine Ow.goQ ?_
        simp (disch := (first | assumption | omega | (simp only [lenS, lenT, UInt64.reduceToNat]; try omega))) only [↓Sx.S0, Sx.S1, Tryd.fx, uON_1, Nat.reduceAdd, Nat.reducePow, Int.reducePow, Nat.reduceBEq, ↓reduceIte, UInt8.reduceToNat, UInt16.reduceToNat, UInt32.reduceToNat, UInt64.reduceToNat, Int.reduceToNat]
        refine Cw.forgetN [(bx, .cells (comC c.tree p c.text).toArray 54 (0, 0))] (by exact ⟨hwx, hw4, trivial⟩) (by intro p hp; simp only [List.mem_cons, List.not_mem_nil, or_false] at hp ⊢; all_goals (first | (rcases hp with rfl | hp <;> simp_all) | (subst hp; simp) | simp_all)) (by simp [keys] <;> omega) ?_
        ((try with_reducible refine Cw.go [] ?_); (try simp (disch := (first | assumption | omega | (simp only [lenS, lenT, UInt64.reduceToNat]; try omega))) only [↓Sx.S0, Sx.S1, Tryd.fx, uON_1, Nat.reduceAdd, Nat.reducePow, Int.reducePow, Nat.reduceBEq, ↓reduceIte, UInt8.reduceToNat, UInt16.reduceToNat, UInt32.reduceToNat, UInt64.reduceToNat, Int.reduceToNat]))
        exact Again.mk (k + 1) (by omega) ⟨by omega, fun i hi => by
          rcases Nat.lt_succ_iff_lt_or_eq.1 hi with h | rfl
          · exact h2 i h
          · exact e1⟩ rfl rfl
      · have e1 : parOk c.par k = false := by unfold parOk; rw [hq]; rfl
        rw [comOk_no hk e1]
        refine Ow.goQ ?_
        simp (disch := (first | assumption | omega | (simp only [lenS, lenT, UInt64.reduceToNat]; try omega))) only [↓Sx.S0, Sx.S1, Tryd.fx, uON_1, Nat.reduceAdd, Nat.reducePow, Int.reducePow, Nat.reduceBEq, ↓reduceIte, UInt8.reduceToNat, UInt16.reduceToNat, UInt32.reduceToNat, UInt64.reduceToNat, Int.reduceToNat]
        refine ⟨_, (by simp (disch := (first | assumption | omega | (simp only [lenS, lenT, UInt64.reduceToNat]; try omega))) only [↓Sx.S0, Sx.S1, Tryd.fx, uON_1, Nat.reduceAdd, Nat.reducePow, Int.reducePow, Nat.reduceBEq, ↓reduceIte, UInt8.reduceToNat, UInt16.reduceToNat, UInt32.reduceToNat, UInt64.reduceToNat, Int.reduceToNat]; rfl), ⟨hwx, hw4, trivial⟩, ?_⟩
        rfl
    · obtain rfl : k = c.par.length := by omega
      rw [comOk_yes h2]
      by_cases h4 : c.par.length ≤ 4
      · have d1 : decide (((c.par.length : Nat) : Int) ≤ 4) = true := decide_eq_true (by omega)
        ((try with_reducible refine Cw.go [] ?_); (try simp (disch := (first | assumption | omega | (simp only [lenS, lenT, UInt64.reduceToNat]; try omega))) only [↓Sx.S0, Sx.S1, Tryd.fx, uON_1, Nat.reduceAdd, Nat.reducePow, Int.reducePow, Nat.reduceBEq, ↓reduceIte, UInt8.reduceToNat, UInt16.reduceToNat, UInt32.reduceToNat, UInt64.reduceToNat, Int.reduceToNat, ln, d1]))
        refine ⟨_, (by simp (disch := (first | assumption | omega | (simp only [lenS, lenT, UInt64.reduceToNat]; try omega))) only [↓Sx.S0, Sx.S1, Tryd.fx, uON_1, Nat.reduceAdd, Nat.reducePow, Int.reducePow, Nat.reduceBEq, ↓reduceIte, UInt8.reduceToNat, UInt16.reduceToNat, UInt32.reduceToNat, UInt64.reduceToNat, Int.reduceToNat]; rfl), ⟨hwx, trivial⟩, ?_⟩
        rw [show decide (c.par.length ≤ 4) = true from decide_eq_true h4, Bool.true_and]; exact congrArg Value.bool (decide_eq_decide.2 (by omega))
      · have d1 : decide (((c.par.length : Nat) : Int) ≤ 4) = false := decide_eq_false (by omega)
        ((try with_reducible refine Cw.go [] ?_); (try simp (disch := (first | assumption | omega | (simp only [lenS, lenT, UInt64.reduceToNat]; try omega))) only [↓Sx.S0, Sx.S1, Tryd.fx, uON_1, Nat.reduceAdd, Nat.reducePow, Int.reducePow, Nat.reduceBEq, ↓reduceIte, UInt8.reduceToNat, UInt16.reduceToNat, UInt32.reduceToNat, UInt64.reduceToNat, Int.reduceToNat, ln, d1]))
        refine ⟨_, (by simp (disch := (first | assumption | omega | (simp only [lenS, lenT, UInt64.reduceToNat]; try omega))) only [↓Sx.S0, Sx.S1, Tryd.fx, uON_1, Nat.reduceAdd, Nat.reducePow, Int.reducePow, Nat.reduceBEq, ↓reduceIte, UInt8.reduceToNat, UInt16.reduceToNat, UInt32.reduceToNat, UInt64.reduceToNat, Int.reduceToNat]; rfl), ⟨hwx, trivial⟩, ?_⟩
        rw [show decide (c.par.length ≤ 4) = false from decide_eq_false h4]; rfl
end Go.Proofs
end
section
open Go Go.Proofs Go.Sx Go.StP
namespace Go.Proofs
set_option maxRecDepth 10000
set_option maxHeartbeats 4000000
set_option linter.unusedSimpArgs false
set_option linter.defProp false
def uOO_1 := And.intro (And.intro (And.intro (@eqIdA) (@neIdA)) (And.intro (@load_idb) (And.intro (@rdIn_v8) (@rdIn_vi)))) (And.intro (And.intro (@load_com0) (@load_com1)) (And.intro (@load_com2) (And.intro (@load_com) (@cells_com))))
theorem any_snoc {l : List IdL} {k : Nat} {x : IdL} (hk : k < l.length) (h : ((l.take k).any fun y => x.l == y.l) = false) (h2 : (x.l == (l.getD k id0).l) = false) : ((l.take (k + 1)).any fun y => x.l == y.l) = false := by
  rw [take_snoc (z := id0) hk, List.any_append, h, Bool.false_or, List.any_cons, h2]; rfl
theorem any_yes {l : List IdL} {k i : Nat} {x : IdL} (hk : k < l.length) (hi : k < i) (h2 : (x.l == (l.getD k id0).l) = true) : ((l.take i).any fun y => x.l == y.l) = true := by
  rw [List.any_eq_true]
  refine ⟨l.getD k id0, ?_, h2⟩
  rw [← getD_take (l := l) (z := id0) hi]
  exact getD_mem (by rw [List.length_take]; omega)
theorem CommitRight_spec (v : Value) (c : ComL) (w : World) (hv : ComS w v c) (hl : c.par.length < 1000000) (ht : c.text.length < 1099511627776) :
    Rets Tryd.prog 70 #[v] w (fun v' D => v' = .bool (comOk c) ∧ D = []) := by
  obtain ⟨p, rfl, hp⟩ := hv
  obtain ⟨b, off, arr, E, fz, hr⟩ := hp.row
  have ln := hp.len
  refine Rets.enterV Tryd.func70 rfl (rs := [.tmp 2]) Tryd.results70 Tryd.ntmps70 ?_
  simp only [List.size_toArray, List.length_cons, List.length_nil, Nat.reduceAdd, Nat.reduceSub, List.replicate_succ, List.replicate_zero, List.cons_append, List.nil_append]
  ((try with_reducible refine Cw.go [] ?_); (try simp (disch := (first | assumption | omega | (simp only [lenS, lenT, UInt64.reduceToNat]; try omega))) only [↓Sx.S0, Sx.S1, Tryd.fx, uOO_1, Nat.reduceAdd, Nat.reducePow, Int.reducePow, Nat.reduceBEq, ↓reduceIte, UInt8.reduceToNat, UInt16.reduceToNat, UInt32.reduceToNat, UInt64.reduceToNat, Int.reduceToNat]))
  refine Ow.box rfl rfl fun bx hbx hwx => ?_
  simp only [ev_tmp, getF_0, getF_s, cells_agg, List.nil_append, List.cons_append]
  refine Ow.go rfl ?_
  simp (disch := (first | assumption | omega | (simp only [lenS, lenT, UInt64.reduceToNat]; try omega))) only [↓Sx.S0, Sx.S1, Tryd.fx, uOO_1, Nat.reduceAdd, Nat.reducePow, Int.reducePow, Nat.reduceBEq, ↓reduceIte, UInt8.reduceToNat, UInt16.reduceToNat, UInt32.reduceToNat, UInt64.reduceToNat, Int.reduceToNat]
  by_cases h4 : 4 < c.par.length
  · have d1 : decide (4 < ((c.par.length : Nat) : Int)) = true := decide_eq_true (by omega)
    ((try with_reducible refine Cw.go [] ?_); (try simp (disch := (first | assumption | omega | (simp only [lenS, lenT, UInt64.reduceToNat]; try omega))) only [↓Sx.S0, Sx.S1, Tryd.fx, uOO_1, Nat.reduceAdd, Nat.reducePow, Int.reducePow, Nat.reduceBEq, ↓reduceIte, UInt8.reduceToNat, UInt16.reduceToNat, UInt32.reduceToNat, UInt64.reduceToNat, Int.reduceToNat, ln, d1]))
    have : comOk c = false := by unfold comOk; rw [show decide (c.par.length ≤ 4) = false from decide_eq_false (by omega)]; rfl
    rw [this]
    refine ⟨_, (by simp (disch := (first | assumption | omega | (simp only [lenS, lenT, UInt64.reduceToNat]; try omega))) only [↓Sx.S0, Sx.S1, Tryd.fx, uOO_1, Nat.reduceAdd, Nat.reducePow, Int.reducePow, Nat.reduceBEq, ↓reduceIte, UInt8.reduceToNat, UInt16.reduceToNat, UInt32.reduceToNat, UInt64.reduceToNat, Int.reduceToNat]; rfl), ⟨hwx, trivial⟩, ?_⟩
    rfl
  have d1 : decide (4 < ((c.par.length : Nat) : Int)) = false := decide_eq_false (by omega)
  by_cases h64 : 64 < c.text.length
  · have d2 : decide (64 < ((c.text.length : Nat) : Int)) = true := decide_eq_true (by omega)
    ((try with_reducible refine Cw.go [] ?_); (try simp (disch := (first | assumption | omega | (simp only [lenS, lenT, UInt64.reduceToNat]; try omega))) only [↓Sx.S0, Sx.S1, Tryd.fx, uOO_1, Nat.reduceAdd, Nat.reducePow, Int.reducePow, Nat.reduceBEq, ↓reduceIte, UInt8.reduceToNat, UInt16.reduceToNat, UInt32.reduceToNat, UInt64.reduceToNat, Int.reduceToNat, ln, d1, d2]))
    have : comOk c = false := by unfold comOk; rw [show decide (c.text.length ≤ 64) = false from decide_eq_false (by omega), Bool.and_false]; rfl
    rw [this]
    refine ⟨_, (by simp (disch := (first | assumption | omega | (simp only [lenS, lenT, UInt64.reduceToNat]; try omega))) only [↓Sx.S0, Sx.S1, Tryd.fx, uOO_1, Nat.reduceAdd, Nat.reducePow, Int.reducePow, Nat.reduceBEq, ↓reduceIte, UInt8.reduceToNat, UInt16.reduceToNat, UInt32.reduceToNat, UInt64.reduceToNat, Int.reduceToNat]; rfl), ⟨hwx, trivial⟩, ?_⟩
    rfl
  have d2 : decide (64 < ((c.text.length : Nat) : Int)) = false := decide_eq_false (by omega)
  ((try with_reducible refine Cw.go [] ?_); (try simp (disch := (first | assumption | omega | (simp only [lenS, lenT, UInt64.reduceToNat]; try omega))) only [↓Sx.S0, Sx.S1, Tryd.fx, uOO_1, Nat.reduceAdd, Nat.reducePow, Int.reducePow, Nat.reduceBEq, ↓reduceIte, UInt8.reduceToNat, UInt16.reduceToNat, UInt32.reduceToNat, UInt64.reduceToNat, Int.reduceToNat, ln, d1, d2]))
  refine Cw.loopG (G := Nat) [15, 16, 17, 18, 19, 4, 22, 23, 24, 27, 28, 29, 30, 31, 32, 33, 34, 35, 36, 37, 2, 25, 26, 20, 21, 3] (fun g => [(3, vi g)]) (fun g => [(bx, .cells (comC c.tree p c.text).toArray 54 (0, 0))]) (fun g => g ≤ c.par.length ∧ ∀ i, i < g → parOk c.par i = true) (fun g => c.par.length - g) 0 rfl rfl ?_ ?_
  · exact ⟨Nat.zero_le _, fun i hi => absurd hi (Nat.not_lt_zero i)⟩
  · intro i ji hi
    simp only [overFrom, pin, setF_0, setF_s, List.contains_cons, List.contains_nil, Nat.reduceBEq, Bool.or_false, Bool.false_or, Bool.or_true, Bool.true_or, Nat.reduceAdd, ↓reduceIte, Bool.false_eq_true]
    obtain ⟨h1, h2⟩ := hi
    by_cases hi : i < c.par.length
    · have h0 : 0 < c.par.length := by omega
      have hbl := hr.lt h0
      have hnb : bx ≠ b := by omega
      have r2 := hr.has h0
      have i2 := hr.idx true i hi
      have l2 := row_id hr hi
      ((try with_reducible refine Cw.go [] ?_); (try simp (disch := (first | assumption | omega | (simp only [lenS, lenT, UInt64.reduceToNat]; try omega))) only [↓Sx.S0, Sx.S1, Tryd.fx, uOO_1, Nat.reduceAdd, Nat.reducePow, Int.reducePow, Nat.reduceBEq, ↓reduceIte, UInt8.reduceToNat, UInt16.reduceToNat, UInt32.reduceToNat, UInt64.reduceToNat, Int.reduceToNat, ln]))
      refine Cw.loopG (G := Nat) [22, 23, 24, 27, 28, 29, 30, 31, 32, 33, 34, 35, 36, 37, 2, 25, 26, 4] (fun g => [(4, vi g)]) (fun g => [(bx, .cells (comC c.tree p c.text).toArray 54 (0, 0))]) (fun g => g ≤ i ∧ ((c.par.take g).any fun y => (c.par.getD i id0).l == y.l) = false) (fun g => i - g) 0 rfl rfl ?_ ?_
      · exact ⟨Nat.zero_le _, rfl⟩
      · intro k jk hk
        simp only [overFrom, pin, setF_0, setF_s, List.contains_cons, List.contains_nil, Nat.reduceBEq, Bool.or_false, Bool.false_or, Bool.or_true, Bool.true_or, Nat.reduceAdd, ↓reduceIte, Bool.false_eq_true]
        obtain ⟨g1, g2⟩ := hk
        by_cases hk : k < i
        · have i3 := hr.idx true k (show k < c.par.length by omega)
          have l3 := row_id hr (show k < c.par.length by omega)
          ((try with_reducible refine Cw.go [] ?_); (try simp (disch := (first | assumption | omega | (simp only [lenS, lenT, UInt64.reduceToNat]; try omega))) only [↓Sx.S0, Sx.S1, Tryd.fx, uOO_1, Nat.reduceAdd, Nat.reducePow, Int.reducePow, Nat.reduceBEq, ↓reduceIte, UInt8.reduceToNat, UInt16.reduceToNat, UInt32.reduceToNat, UInt64.reduceToNat, Int.reduceToNat]))
          refine Cw.regionS [bx, b] [0, 2, 5, 7, 1, 3, 4, 6, 8, 9, 10] [] (by kernel_rfl) (by kernel_rfl) (by kernel_rfl) ?_
          simp only [nl_cons, ↓pickL_nil, ↓pickL_cons, ↓nthO_0, ↓nthO_s, consO_some]
          refine Ow.goQ ?_
          simp (disch := (first | assumption | omega | (simp only [lenS, lenT, UInt64.reduceToNat]; try omega))) only [↓Sx.S0, Sx.S1, Tryd.fx, uOO_1, Nat.reduceAdd, Nat.reducePow, Int.reducePow, Nat.reduceBEq, ↓reduceIte, UInt8.reduceToNat, UInt16.reduceToNat, UInt32.reduceToNat, UInt64.reduceToNat, Int.reduceToNat, i2, r2, l2, i3, l3]
          cases hq : ((c.par.getD i id0).l == (c.par.getD k id0).l)
          · ((try with_reducible refine Cw.go [] ?_); (try simp (disch := (first | assumption | omega | (simp only [lenS, lenT, UInt64.reduceToNat]; try omega))) only [↓Sx.S0, Sx.S1, Tryd.fx, uOO_1, Nat.reduceAdd, Nat.reducePow, Int.reducePow, Nat.reduceBEq, ↓reduceIte, UInt8.reduceToNat, UInt16.reduceToNat, UInt32.reduceToNat, UInt64.reduceToNat, Int.reduceToNat, hq]))
            exact Again.mk (k + 1) (by omega) ⟨by omega, any_snoc (by omega) g2 hq⟩ rfl rfl
          · have e1 : parOk c.par i = false := by unfold parOk; rw [any_yes (by omega) hk hq]; rfl
            rw [comOk_no hi e1]
            ((try with_reducible refine Cw.go [] ?_); (try simp (disch := (first | assumption | omega | (simp only [lenS, lenT, UInt64.reduceToNat]; try omega))) only [↓Sx.S0, Sx.S1, Tryd.fx, uOO_1, Nat.reduceAdd, Nat.reducePow, Int.reducePow, Nat.reduceBEq, ↓reduceIte, UInt8.reduceToNat, UInt16.reduceToNat, UInt32.reduceToNat, UInt64.reduceToNat, Int.reduceToNat, hq]))
            refine ⟨_, (by simp (disch := (first | assumption | omega | (simp only [lenS, lenT, UInt64.reduceToNat]; try omega))) only [↓Sx.S0, Sx.S1, Tryd.fx, uOO_1, Nat.reduceAdd, Nat.reducePow, Int.reducePow, Nat.reduceBEq, ↓reduceIte, UInt8.reduceToNat, UInt16.reduceToNat, UInt32.reduceToNat, UInt64.reduceToNat, Int.reduceToNat]; rfl), ⟨hwx, trivial⟩, ?_⟩
            rfl
        · obtain rfl : k = i := by omega
          have e1 : parOk c.par k = true := by unfold parOk; rw [g2]; rfl
          ((try with_reducible refine Cw.go [] ?_); (try simp (disch := (first | assumption | omega | (simp only [lenS, lenT, UInt64.reduceToNat]; try omega))) only [↓Sx.S0, Sx.S1, Tryd.fx, uOO_1, Nat.reduceAdd, Nat.reducePow, Int.reducePow, Nat.reduceBEq, ↓reduceIte, UInt8.reduceToNat, UInt16.reduceToNat, UInt32.reduceToNat, UInt64.reduceToNat, Int.reduceToNat]))
          exact Again.mk (k + 1) (by omega) ⟨by omega, fun i hi => by
            rcases Nat.lt_succ_iff_lt_or_eq.1 hi with h | rfl
            · exact h2 i h
            · exact e1⟩ rfl rfl
    · obtain rfl : i = c.par.length := by omega
      rw [comOk_yes h2, show decide (c.par.length ≤ 4) = true from decide_eq_true (by omega), show decide (c.text.length ≤ 64) = true from decide_eq_true (by omega)]
      ((try with_reducible refine Cw.go [] ?_); (try simp (disch := (first | assumption | omega | (simp only [lenS, lenT, UInt64.reduceToNat]; try omega))) only [↓Sx.S0, Sx.S1, Tryd.fx, uOO_1, Nat.reduceAdd, Nat.reducePow, Int.reducePow, Nat.reduceBEq, ↓reduceIte, UInt8.reduceToNat, UInt16.reduceToNat, UInt32.reduceToNat, UInt64.reduceToNat, Int.reduceToNat, ln]))
      refine ⟨_, (by simp (disch := (first | assumption | omega | (simp only [lenS, lenT, UInt64.reduceToNat]; try omega))) only [↓Sx.S0, Sx.S1, Tryd.fx, uOO_1, Nat.reduceAdd, Nat.reducePow, Int.reducePow, Nat.reduceBEq, ↓reduceIte, UInt8.reduceToNat, UInt16.reduceToNat, UInt32.reduceToNat, UInt64.reduceToNat, Int.reduceToNat]; rfl), ⟨hwx, trivial⟩, ?_⟩
      rfl
def comEq (a b : ComL) : Bool := (a.tree.l == b.tree.l) && (a.text == b.text) && decide (a.par = b.par)
theorem SameCommit_spec (v1 v2 : Value) (c1 c2 : ComL) (w : World) (hv1 : ComS w v1 c1) (hv2 : ComS w v2 c2) (hl1 : c1.par.length < 1000000) (hl2 : c2.par.length < 1000000) :
    Rets Tryd.prog 23 #[v1, v2] w (fun v' D => v' = .bool (comEq c1 c2) ∧ D = []) := by
  obtain ⟨p1, rfl, hp1⟩ := hv1
  obtain ⟨p2, rfl, hp2⟩ := hv2
  refine Rets.enterV Tryd.func23 rfl (rs := [.tmp 4]) Tryd.results23 Tryd.ntmps23 ?_
  simp only [List.size_toArray, List.length_cons, List.length_nil, Nat.reduceAdd, Nat.reduceSub, List.replicate_succ, List.replicate_zero, List.cons_append, List.nil_append]
  ((try with_reducible refine Cw.go [] ?_); (try simp (disch := (first | assumption | omega | (simp only [lenS, lenT, UInt64.reduceToNat]; try omega))) only [↓Sx.S0, Sx.S1, Tryd.fx, uOO_1, Nat.reduceAdd, Nat.reducePow, Int.reducePow, Nat.reduceBEq, ↓reduceIte, UInt8.reduceToNat, UInt16.reduceToNat, UInt32.reduceToNat, UInt64.reduceToNat, Int.reduceToNat]))
  refine Ow.box rfl rfl fun b1 hb1 hw1 => ?_
  simp only [ev_tmp, getF_0, getF_s, cells_agg, List.nil_append, List.cons_append]
  refine Ow.go rfl ?_
  simp (disch := (first | assumption | omega | (simp only [lenS, lenT, UInt64.reduceToNat]; try omega))) only [↓Sx.S0, Sx.S1, Tryd.fx, uOO_1, Nat.reduceAdd, Nat.reducePow, Int.reducePow, Nat.reduceBEq, ↓reduceIte, UInt8.reduceToNat, UInt16.reduceToNat, UInt32.reduceToNat, UInt64.reduceToNat, Int.reduceToNat]
  refine Ow.box rfl rfl fun b2 hb2 hw2 => ?_
  simp only [ev_tmp, getF_0, getF_s, cells_agg, List.nil_append, List.cons_append]
  refine Ow.go rfl ?_
  simp (disch := (first | assumption | omega | (simp only [lenS, lenT, UInt64.reduceToNat]; try omega))) only [↓Sx.S0, Sx.S1, Tryd.fx, uOO_1, Nat.reduceAdd, Nat.reducePow, Int.reducePow, Nat.reduceBEq, ↓reduceIte, UInt8.reduceToNat, UInt16.reduceToNat, UInt32.reduceToNat, UInt64.reduceToNat, Int.reduceToNat]
  obtain ⟨h12, -⟩ := hb2
  have hne : b1 ≠ b2 := by omega
  unfold comEq
  cases h1 : (c1.tree.l == c2.tree.l)
  · ((try with_reducible refine Cw.go [] ?_); (try simp (disch := (first | assumption | omega | (simp only [lenS, lenT, UInt64.reduceToNat]; try omega))) only [↓Sx.S0, Sx.S1, Tryd.fx, uOO_1, Nat.reduceAdd, Nat.reducePow, Int.reducePow, Nat.reduceBEq, ↓reduceIte, UInt8.reduceToNat, UInt16.reduceToNat, UInt32.reduceToNat, UInt64.reduceToNat, Int.reduceToNat, h1]))
    refine ⟨_, (by simp (disch := (first | assumption | omega | (simp only [lenS, lenT, UInt64.reduceToNat]; try omega))) only [↓Sx.S0, Sx.S1, Tryd.fx, uOO_1, Nat.reduceAdd, Nat.reducePow, Int.reducePow, Nat.reduceBEq, ↓reduceIte, UInt8.reduceToNat, UInt16.reduceToNat, UInt32.reduceToNat, UInt64.reduceToNat, Int.reduceToNat]; rfl), ⟨hw1, hw2, trivial⟩, ?_⟩
    rfl
  · cases h2 : (c1.text == c2.text)
    · ((try with_reducible refine Cw.go [] ?_); (try simp (disch := (first | assumption | omega | (simp only [lenS, lenT, UInt64.reduceToNat]; try omega))) only [↓Sx.S0, Sx.S1, Tryd.fx, uOO_1, Nat.reduceAdd, Nat.reducePow, Int.reducePow, Nat.reduceBEq, ↓reduceIte, UInt8.reduceToNat, UInt16.reduceToNat, UInt32.reduceToNat, UInt64.reduceToNat, Int.reduceToNat, h1, h2]))
      refine ⟨_, (by simp (disch := (first | assumption | omega | (simp only [lenS, lenT, UInt64.reduceToNat]; try omega))) only [↓Sx.S0, Sx.S1, Tryd.fx, uOO_1, Nat.reduceAdd, Nat.reducePow, Int.reducePow, Nat.reduceBEq, ↓reduceIte, UInt8.reduceToNat, UInt16.reduceToNat, UInt32.reduceToNat, UInt64.reduceToNat, Int.reduceToNat]; rfl), ⟨hw1, hw2, trivial⟩, ?_⟩
      rfl
    · ((try with_reducible refine Cw.go [] ?_); (try simp (disch := (first | assumption | omega | (simp only [lenS, lenT, UInt64.reduceToNat]; try omega))) only [↓Sx.S0, Sx.S1, Tryd.fx, uOO_1, Nat.reduceAdd, Nat.reducePow, Int.reducePow, Nat.reduceBEq, ↓reduceIte, UInt8.reduceToNat, UInt16.reduceToNat, UInt32.reduceToNat, UInt64.reduceToNat, Int.reduceToNat, h1, h2]))
      refine Ow.callFV rfl Tryd.call65 (fun w' hw' => SameIds_spec p1 p2 c1.par c2.par w' (hp1.oldN hw' ⟨hw1, hw2, trivial⟩) (hp2.oldN hw' ⟨hw1, hw2, trivial⟩) hl1 hl2) ?_
      refine Ow.go rfl ?_
      simp (disch := (first | assumption | omega | (simp only [lenS, lenT, UInt64.reduceToNat]; try omega))) only [↓Sx.S0, Sx.S1, Tryd.fx, uOO_1, Nat.reduceAdd, Nat.reducePow, Int.reducePow, Nat.reduceBEq, ↓reduceIte, UInt8.reduceToNat, UInt16.reduceToNat, UInt32.reduceToNat, UInt64.reduceToNat, Int.reduceToNat]
      refine ⟨_, (by simp (disch := (first | assumption | omega | (simp only [lenS, lenT, UInt64.reduceToNat]; try omega))) only [↓Sx.S0, Sx.S1, Tryd.fx, uOO_1, Nat.reduceAdd, Nat.reducePow, Int.reducePow, Nat.reduceBEq, ↓reduceIte, UInt8.reduceToNat, UInt16.reduceToNat, UInt32.reduceToNat, UInt64.reduceToNat, Int.reduceToNat]; rfl), ⟨hw1, hw2, trivial⟩, ?_⟩
      rfl
end Go.Proofs
end
section
open Go Go.Proofs Go.Sx
namespace Go.Proofs
set_option maxRecDepth 10000
set_option maxHeartbeats 4000000
set_option linter.unusedSimpArgs false
/-! ### Numbers, texts and ids, as the law writes them -/
theorem clampN_nat {n : Nat} (h : n < 1099511627776) : clampN (n : Int) = n := by unfold clampN maxN; omega
theorem NumberR_spec : ∀ (k : Nat) (n : Int) (w : World), clampN n ≤ k →
    Rets Tryd.prog 107 #[vi n] w (fun v D => v = vs (numL (clampN n)) ∧ D = []) := by
  intro k
  induction k using Nat.strongRecOn with
  | ind k ih =>
    intro n w hk
    refine Rets.enterV Tryd.func107 rfl (rs := [.tmp 2]) Tryd.results107 Tryd.ntmps107 ?_
    simp only [List.size_toArray, List.length_cons, List.length_nil, Nat.reduceAdd, Nat.reduceSub, List.replicate_succ, List.replicate_zero, List.cons_append, List.nil_append]
    by_cases h0 : n < 0
    · have d1 : decide (n < 0) = true := decide_eq_true h0
      have e : clampN n = 0 := by unfold clampN maxN; omega
      rw [e]
      ((try with_reducible refine Cw.go [] ?_); (try simp (disch := (first | assumption | omega | (simp only [lenS, lenT, UInt64.reduceToNat]; try omega))) only [↓Sx.S0, Sx.S1, Tryd.fx, Nat.reduceAdd, Nat.reducePow, Int.reducePow, Nat.reduceBEq, ↓reduceIte, UInt8.reduceToNat, UInt16.reduceToNat, UInt32.reduceToNat, UInt64.reduceToNat, Int.reduceToNat, d1]))
      refine Ow.buildSlice (e := 5) #[v8 0] rfl rfl (by kernel_rfl) fun b1 hb1 hw1 => ?_
      rw [show (#[v8 0] : Array Value) = a8 [0] from rfl]
      refine Ow.go rfl ?_
      simp (disch := (first | assumption | omega | (simp only [lenS, lenT, UInt64.reduceToNat]; try omega))) only [↓Sx.S0, Sx.S1, Tryd.fx, Nat.reduceAdd, Nat.reducePow, Int.reducePow, Nat.reduceBEq, ↓reduceIte, UInt8.reduceToNat, UInt16.reduceToNat, UInt32.reduceToNat, UInt64.reduceToNat, Int.reduceToNat]
      ((try with_reducible refine Cw.go [] ?_); (try simp (disch := (first | assumption | omega | (simp only [lenS, lenT, UInt64.reduceToNat]; try omega))) only [↓Sx.S0, Sx.S1, Tryd.fx, Nat.reduceAdd, Nat.reducePow, Int.reducePow, Nat.reduceBEq, ↓reduceIte, UInt8.reduceToNat, UInt16.reduceToNat, UInt32.reduceToNat, UInt64.reduceToNat, Int.reduceToNat]))
      refine ⟨_, (by simp (disch := (first | assumption | omega | (simp only [lenS, lenT, UInt64.reduceToNat]; try omega))) only [↓Sx.S0, Sx.S1, Tryd.fx, Nat.reduceAdd, Nat.reducePow, Int.reducePow, Nat.reduceBEq, ↓reduceIte, UInt8.reduceToNat, UInt16.reduceToNat, UInt32.reduceToNat, UInt64.reduceToNat, Int.reduceToNat]; rfl), ⟨hw1, trivial⟩, ?_⟩
      rw [numL_small (by omega)]; rfl
    · have d1 : decide (n < 0) = false := decide_eq_false h0
      generalize hm : clampN n = m at hk ⊢
      have hm2 : m ≤ 1099511627775 := by unfold clampN maxN at hm; omega
      by_cases h1 : n > 1099511627775
      · have d2 : decide (1099511627775 < n) = true := decide_eq_true h1
        have e : (1099511627775 : Int) = (m : Int) := by unfold clampN maxN at hm; omega
        ((try with_reducible refine Cw.go [5] ?_); (try simp (disch := (first | assumption | omega | (simp only [lenS, lenT, UInt64.reduceToNat]; try omega))) only [↓Sx.S0, Sx.S1, Tryd.fx, Nat.reduceAdd, Nat.reducePow, Int.reducePow, Nat.reduceBEq, ↓reduceIte, UInt8.reduceToNat, UInt16.reduceToNat, UInt32.reduceToNat, UInt64.reduceToNat, Int.reduceToNat, d1, d2]))
        rw [e]
        by_cases h2 : m < 128
        · have d3 : decide ((m : Int) < 128) = true := decide_eq_true (by omega)
          rw [numL_small h2]
          ((try with_reducible refine Cw.go [] ?_); (try simp (disch := (first | assumption | omega | (simp only [lenS, lenT, UInt64.reduceToNat]; try omega))) only [↓Sx.S0, Sx.S1, Tryd.fx, Nat.reduceAdd, Nat.reducePow, Int.reducePow, Nat.reduceBEq, ↓reduceIte, UInt8.reduceToNat, UInt16.reduceToNat, UInt32.reduceToNat, UInt64.reduceToNat, Int.reduceToNat, d1, d3]))
          generalize hc : UInt8.ofInt (m : Int) = c
          have hc' : c = UInt8.ofNat m := by rw [← hc, byte_int]
          refine Ow.buildSlice (e := 5) #[v8 c] rfl rfl (by kernel_rfl) fun b1 hb1 hw1 => ?_
          rw [show (#[v8 c] : Array Value) = a8 [c] from rfl]
          have e4 : List.take 1 (List.drop 0 [c]) = [c] := rfl
          refine Ow.go rfl ?_
          simp (disch := (first | assumption | omega | (simp only [lenS, lenT, UInt64.reduceToNat]; try omega))) only [↓Sx.S0, Sx.S1, Tryd.fx, Nat.reduceAdd, Nat.reducePow, Int.reducePow, Nat.reduceBEq, ↓reduceIte, UInt8.reduceToNat, UInt16.reduceToNat, UInt32.reduceToNat, UInt64.reduceToNat, Int.reduceToNat, e4]
          ((try with_reducible refine Cw.go [] ?_); (try simp (disch := (first | assumption | omega | (simp only [lenS, lenT, UInt64.reduceToNat]; try omega))) only [↓Sx.S0, Sx.S1, Tryd.fx, Nat.reduceAdd, Nat.reducePow, Int.reducePow, Nat.reduceBEq, ↓reduceIte, UInt8.reduceToNat, UInt16.reduceToNat, UInt32.reduceToNat, UInt64.reduceToNat, Int.reduceToNat]))
          refine ⟨_, (by simp (disch := (first | assumption | omega | (simp only [lenS, lenT, UInt64.reduceToNat]; try omega))) only [↓Sx.S0, Sx.S1, Tryd.fx, Nat.reduceAdd, Nat.reducePow, Int.reducePow, Nat.reduceBEq, ↓reduceIte, UInt8.reduceToNat, UInt16.reduceToNat, UInt32.reduceToNat, UInt64.reduceToNat, Int.reduceToNat]; rfl), ⟨hw1, trivial⟩, ?_⟩
          rw [hc']; rfl
        · have d3 : decide ((m : Int) < 128) = false := decide_eq_false (by omega)
          have ih2 := fun w => ih (m / 128) (by omega) ((m / 128 : Nat) : Int) w (by rw [clampN_nat (by omega)]; omega)
          rw [clampN_nat (by omega)] at ih2
          have hl2 := numL_len_lt 6 (m / 128) (by omega) (by omega)
          rw [numL_big h2]
          ((try with_reducible refine Cw.go [] ?_); (try simp (disch := (first | assumption | omega | (simp only [lenS, lenT, UInt64.reduceToNat]; try omega))) only [↓Sx.S0, Sx.S1, Tryd.fx, Nat.reduceAdd, Nat.reducePow, Int.reducePow, Nat.reduceBEq, ↓reduceIte, UInt8.reduceToNat, UInt16.reduceToNat, UInt32.reduceToNat, UInt64.reduceToNat, Int.reduceToNat, d1, d3]))
          refine Cw.regionK 11 (by kernel_rfl) (by kernel_rfl) ?_
          refine OwK.run [0, 1, 2, 3, 6, 7] [true, true, true, true, false, false, true, true, false, false, false] 5 rfl (by kernel_rfl) (by kernel_rfl) fun k hk => ?_
          simp only [nl_cons, ↓pickL_nil, ↓pickL_cons, ↓nthO_0, ↓nthO_s, consO_some]
          simp (disch := (first | assumption | omega | (simp only [lenS, lenT, UInt64.reduceToNat]; try omega))) only [↓Sx.S0, Sx.S1, Tryd.fx, Nat.reduceAdd, Nat.reducePow, Int.reducePow, Nat.reduceBEq, ↓reduceIte, UInt8.reduceToNat, UInt16.reduceToNat, UInt32.reduceToNat, UInt64.reduceToNat, Int.reduceToNat]
          (with_reducible refine hk _ _ _ ?_); clear hk k
          generalize hc : UInt8.ofInt ((m : Int) % 128 + 128) = c
          have hc' : c = UInt8.ofNat (m % 128 + 128) := by rw [← hc, show ((m : Int) % 128 + 128) = ((m % 128 + 128 : Nat) : Int) from rfl, byte_int]
          rw [show (m : Int) / 128 = ((m / 128 : Nat) : Int) from rfl]
          refine OwK.two 4 8 _ _ (by kernel_rfl) rfl rfl ?_ ?_
          · refine Ow.buildSlice (e := 5) #[v8 c] rfl rfl (by kernel_rfl) fun b1 hb1 hw1 => ?_
            rw [show (#[v8 c] : Array Value) = a8 [c] from rfl]
            have e4 : List.take 1 (List.drop 0 [c]) = [c] := rfl
            refine Ow.go rfl ?_
            simp (disch := (first | assumption | omega | (simp only [lenS, lenT, UInt64.reduceToNat]; try omega))) only [↓Sx.S0, Sx.S1, Tryd.fx, Nat.reduceAdd, Nat.reducePow, Int.reducePow, Nat.reduceBEq, ↓reduceIte, UInt8.reduceToNat, UInt16.reduceToNat, UInt32.reduceToNat, UInt64.reduceToNat, Int.reduceToNat, e4]
            try with_reducible refine Ow.nil ?_
            refine OwK.two 5 8 _ _ (by kernel_rfl) rfl rfl ?_ ?_
            · refine Ow.go rfl ?_
              simp (disch := (first | assumption | omega | (simp only [lenS, lenT, UInt64.reduceToNat]; try omega))) only [↓Sx.S0, Sx.S1, Tryd.fx, Nat.reduceAdd, Nat.reducePow, Int.reducePow, Nat.reduceBEq, ↓reduceIte, UInt8.reduceToNat, UInt16.reduceToNat, UInt32.reduceToNat, UInt64.reduceToNat, Int.reduceToNat, e4]
              refine OwK.rest [8, 9, 10] [4, 8] rfl (by kernel_rfl) (by kernel_rfl) ?_
              simp only [nl_cons, ↓pickL_nil, ↓pickL_cons, ↓nthO_0, ↓nthO_s, consO_some]
              refine Ow.callFV rfl Tryd.call107 (fun w' hw' => ih2 w') ?_
              refine Ow.go rfl ?_
              simp (disch := (first | assumption | omega | (simp only [lenS, lenT, UInt64.reduceToNat]; try omega))) only [↓Sx.S0, Sx.S1, Tryd.fx, Nat.reduceAdd, Nat.reducePow, Int.reducePow, Nat.reduceBEq, ↓reduceIte, UInt8.reduceToNat, UInt16.reduceToNat, UInt32.reduceToNat, UInt64.reduceToNat, Int.reduceToNat]
              ((try with_reducible refine Cw.go [] ?_); (try simp (disch := (first | assumption | omega | (simp only [lenS, lenT, UInt64.reduceToNat]; try omega))) only [↓Sx.S0, Sx.S1, Tryd.fx, Nat.reduceAdd, Nat.reducePow, Int.reducePow, Nat.reduceBEq, ↓reduceIte, UInt8.reduceToNat, UInt16.reduceToNat, UInt32.reduceToNat, UInt64.reduceToNat, Int.reduceToNat]))
              refine ⟨_, (by simp (disch := (first | assumption | omega | (simp only [lenS, lenT, UInt64.reduceToNat]; try omega))) only [↓Sx.S0, Sx.S1, Tryd.fx, Nat.reduceAdd, Nat.reducePow, Int.reducePow, Nat.reduceBEq, ↓reduceIte, UInt8.reduceToNat, UInt16.reduceToNat, UInt32.reduceToNat, UInt64.reduceToNat, Int.reduceToNat]; rfl), ⟨hw1, trivial⟩, ?_⟩
              rw [hc']; rfl
            · refine Ow.callFV rfl Tryd.call107 (fun w' hw' => ih2 w') ?_
              refine Ow.go rfl ?_
              simp (disch := (first | assumption | omega | (simp only [lenS, lenT, UInt64.reduceToNat]; try omega))) only [↓Sx.S0, Sx.S1, Tryd.fx, Nat.reduceAdd, Nat.reducePow, Int.reducePow, Nat.reduceBEq, ↓reduceIte, UInt8.reduceToNat, UInt16.reduceToNat, UInt32.reduceToNat, UInt64.reduceToNat, Int.reduceToNat]
              refine OwK.rest [5, 9, 10] [4, 8] rfl (by kernel_rfl) (by kernel_rfl) ?_
              simp only [nl_cons, ↓pickL_nil, ↓pickL_cons, ↓nthO_0, ↓nthO_s, consO_some]
              refine Ow.go rfl ?_
              simp (disch := (first | assumption | omega | (simp only [lenS, lenT, UInt64.reduceToNat]; try omega))) only [↓Sx.S0, Sx.S1, Tryd.fx, Nat.reduceAdd, Nat.reducePow, Int.reducePow, Nat.reduceBEq, ↓reduceIte, UInt8.reduceToNat, UInt16.reduceToNat, UInt32.reduceToNat, UInt64.reduceToNat, Int.reduceToNat, e4]
              ((try with_reducible refine Cw.go [] ?_); (try simp (disch := (first | assumption | omega | (simp only [lenS, lenT, UInt64.reduceToNat]; try omega))) only [↓Sx.S0, Sx.S1, Tryd.fx, Nat.reduceAdd, Nat.reducePow, Int.reducePow, Nat.reduceBEq, ↓reduceIte, UInt8.reduceToNat, UInt16.reduceToNat, UInt32.reduceToNat, UInt64.reduceToNat, Int.reduceToNat]))
              refine ⟨_, (by simp (disch := (first | assumption | omega | (simp only [lenS, lenT, UInt64.reduceToNat]; try omega))) only [↓Sx.S0, Sx.S1, Tryd.fx, Nat.reduceAdd, Nat.reducePow, Int.reducePow, Nat.reduceBEq, ↓reduceIte, UInt8.reduceToNat, UInt16.reduceToNat, UInt32.reduceToNat, UInt64.reduceToNat, Int.reduceToNat]; rfl), ⟨hw1, trivial⟩, ?_⟩
              rw [hc']; rfl
          · refine Ow.callFV rfl Tryd.call107 (fun w' hw' => ih2 w') ?_
            refine Ow.go rfl ?_
            simp (disch := (first | assumption | omega | (simp only [lenS, lenT, UInt64.reduceToNat]; try omega))) only [↓Sx.S0, Sx.S1, Tryd.fx, Nat.reduceAdd, Nat.reducePow, Int.reducePow, Nat.reduceBEq, ↓reduceIte, UInt8.reduceToNat, UInt16.reduceToNat, UInt32.reduceToNat, UInt64.reduceToNat, Int.reduceToNat]
            refine OwK.rest [4, 5, 9, 10] [4, 8] rfl (by kernel_rfl) (by kernel_rfl) ?_
            simp only [nl_cons, ↓pickL_nil, ↓pickL_cons, ↓nthO_0, ↓nthO_s, consO_some]
            refine Ow.buildSlice (e := 5) #[v8 c] rfl rfl (by kernel_rfl) fun b1 hb1 hw1 => ?_
            rw [show (#[v8 c] : Array Value) = a8 [c] from rfl]
            have e4 : List.take 1 (List.drop 0 [c]) = [c] := rfl
            refine Ow.go rfl ?_
            simp (disch := (first | assumption | omega | (simp only [lenS, lenT, UInt64.reduceToNat]; try omega))) only [↓Sx.S0, Sx.S1, Tryd.fx, Nat.reduceAdd, Nat.reducePow, Int.reducePow, Nat.reduceBEq, ↓reduceIte, UInt8.reduceToNat, UInt16.reduceToNat, UInt32.reduceToNat, UInt64.reduceToNat, Int.reduceToNat, e4]
            ((try with_reducible refine Cw.go [] ?_); (try simp (disch := (first | assumption | omega | (simp only [lenS, lenT, UInt64.reduceToNat]; try omega))) only [↓Sx.S0, Sx.S1, Tryd.fx, Nat.reduceAdd, Nat.reducePow, Int.reducePow, Nat.reduceBEq, ↓reduceIte, UInt8.reduceToNat, UInt16.reduceToNat, UInt32.reduceToNat, UInt64.reduceToNat, Int.reduceToNat]))
            refine ⟨_, (by simp (disch := (first | assumption | omega | (simp only [lenS, lenT, UInt64.reduceToNat]; try omega))) only [↓Sx.S0, Sx.S1, Tryd.fx, Nat.reduceAdd, Nat.reducePow, Int.reducePow, Nat.reduceBEq, ↓reduceIte, UInt8.reduceToNat, UInt16.reduceToNat, UInt32.reduceToNat, UInt64.reduceToNat, Int.reduceToNat]; rfl), ⟨hw1, trivial⟩, ?_⟩
            rw [hc']; rfl
      · have d2 : decide (1099511627775 < n) = false := decide_eq_false h1
        have e : n = (m : Int) := by unfold clampN maxN at hm; omega
        subst e
        ((try with_reducible refine Cw.go [5] ?_); (try simp (disch := (first | assumption | omega | (simp only [lenS, lenT, UInt64.reduceToNat]; try omega))) only [↓Sx.S0, Sx.S1, Tryd.fx, Nat.reduceAdd, Nat.reducePow, Int.reducePow, Nat.reduceBEq, ↓reduceIte, UInt8.reduceToNat, UInt16.reduceToNat, UInt32.reduceToNat, UInt64.reduceToNat, Int.reduceToNat, d1, d2]))
        by_cases h2 : m < 128
        · have d3 : decide ((m : Int) < 128) = true := decide_eq_true (by omega)
          rw [numL_small h2]
          ((try with_reducible refine Cw.go [] ?_); (try simp (disch := (first | assumption | omega | (simp only [lenS, lenT, UInt64.reduceToNat]; try omega))) only [↓Sx.S0, Sx.S1, Tryd.fx, Nat.reduceAdd, Nat.reducePow, Int.reducePow, Nat.reduceBEq, ↓reduceIte, UInt8.reduceToNat, UInt16.reduceToNat, UInt32.reduceToNat, UInt64.reduceToNat, Int.reduceToNat, d1, d3]))
          generalize hc : UInt8.ofInt (m : Int) = c
          have hc' : c = UInt8.ofNat m := by rw [← hc, byte_int]
          refine Ow.buildSlice (e := 5) #[v8 c] rfl rfl (by kernel_rfl) fun b1 hb1 hw1 => ?_
          rw [show (#[v8 c] : Array Value) = a8 [c] from rfl]
          have e4 : List.take 1 (List.drop 0 [c]) = [c] := rfl
          refine Ow.go rfl ?_
          simp (disch := (first | assumption | omega | (simp only [lenS, lenT, UInt64.reduceToNat]; try omega))) only [↓Sx.S0, Sx.S1, Tryd.fx, Nat.reduceAdd, Nat.reducePow, Int.reducePow, Nat.reduceBEq, ↓reduceIte, UInt8.reduceToNat, UInt16.reduceToNat, UInt32.reduceToNat, UInt64.reduceToNat, Int.reduceToNat, e4]
          ((try with_reducible refine Cw.go [] ?_); (try simp (disch := (first | assumption | omega | (simp only [lenS, lenT, UInt64.reduceToNat]; try omega))) only [↓Sx.S0, Sx.S1, Tryd.fx, Nat.reduceAdd, Nat.reducePow, Int.reducePow, Nat.reduceBEq, ↓reduceIte, UInt8.reduceToNat, UInt16.reduceToNat, UInt32.reduceToNat, UInt64.reduceToNat, Int.reduceToNat]))
          refine ⟨_, (by simp (disch := (first | assumption | omega | (simp only [lenS, lenT, UInt64.reduceToNat]; try omega))) only [↓Sx.S0, Sx.S1, Tryd.fx, Nat.reduceAdd, Nat.reducePow, Int.reducePow, Nat.reduceBEq, ↓reduceIte, UInt8.reduceToNat, UInt16.reduceToNat, UInt32.reduceToNat, UInt64.reduceToNat, Int.reduceToNat]; rfl), ⟨hw1, trivial⟩, ?_⟩
          rw [hc']; rfl
        · have d3 : decide ((m : Int) < 128) = false := decide_eq_false (by omega)
          have ih2 := fun w => ih (m / 128) (by omega) ((m / 128 : Nat) : Int) w (by rw [clampN_nat (by omega)]; omega)
          rw [clampN_nat (by omega)] at ih2
          have hl2 := numL_len_lt 6 (m / 128) (by omega) (by omega)
          rw [numL_big h2]
          ((try with_reducible refine Cw.go [] ?_); (try simp (disch := (first | assumption | omega | (simp only [lenS, lenT, UInt64.reduceToNat]; try omega))) only [↓Sx.S0, Sx.S1, Tryd.fx, Nat.reduceAdd, Nat.reducePow, Int.reducePow, Nat.reduceBEq, ↓reduceIte, UInt8.reduceToNat, UInt16.reduceToNat, UInt32.reduceToNat, UInt64.reduceToNat, Int.reduceToNat, d1, d3]))
          refine Cw.regionK 11 (by kernel_rfl) (by kernel_rfl) ?_
          refine OwK.run [0, 1, 2, 3, 6, 7] [true, true, true, true, false, false, true, true, false, false, false] 5 rfl (by kernel_rfl) (by kernel_rfl) fun k hk => ?_
          simp only [nl_cons, ↓pickL_nil, ↓pickL_cons, ↓nthO_0, ↓nthO_s, consO_some]
          simp (disch := (first | assumption | omega | (simp only [lenS, lenT, UInt64.reduceToNat]; try omega))) only [↓Sx.S0, Sx.S1, Tryd.fx, Nat.reduceAdd, Nat.reducePow, Int.reducePow, Nat.reduceBEq, ↓reduceIte, UInt8.reduceToNat, UInt16.reduceToNat, UInt32.reduceToNat, UInt64.reduceToNat, Int.reduceToNat]
          (with_reducible refine hk _ _ _ ?_); clear hk k
          generalize hc : UInt8.ofInt ((m : Int) % 128 + 128) = c
          have hc' : c = UInt8.ofNat (m % 128 + 128) := by rw [← hc, show ((m : Int) % 128 + 128) = ((m % 128 + 128 : Nat) : Int) from rfl, byte_int]
          rw [show (m : Int) / 128 = ((m / 128 : Nat) : Int) from rfl]
          refine OwK.two 4 8 _ _ (by kernel_rfl) rfl rfl ?_ ?_
          · refine Ow.buildSlice (e := 5) #[v8 c] rfl rfl (by kernel_rfl) fun b1 hb1 hw1 => ?_
            rw [show (#[v8 c] : Array Value) = a8 [c] from rfl]
            have e4 : List.take 1 (List.drop 0 [c]) = [c] := rfl
            refine Ow.go rfl ?_
            simp (disch := (first | assumption | omega | (simp only [lenS, lenT, UInt64.reduceToNat]; try omega))) only [↓Sx.S0, Sx.S1, Tryd.fx, Nat.reduceAdd, Nat.reducePow, Int.reducePow, Nat.reduceBEq, ↓reduceIte, UInt8.reduceToNat, UInt16.reduceToNat, UInt32.reduceToNat, UInt64.reduceToNat, Int.reduceToNat, e4]
            try with_reducible refine Ow.nil ?_
            refine OwK.two 5 8 _ _ (by kernel_rfl) rfl rfl ?_ ?_
            · refine Ow.go rfl ?_
              simp (disch := (first | assumption | omega | (simp only [lenS, lenT, UInt64.reduceToNat]; try omega))) only [↓Sx.S0, Sx.S1, Tryd.fx, Nat.reduceAdd, Nat.reducePow, Int.reducePow, Nat.reduceBEq, ↓reduceIte, UInt8.reduceToNat, UInt16.reduceToNat, UInt32.reduceToNat, UInt64.reduceToNat, Int.reduceToNat, e4]
              refine OwK.rest [8, 9, 10] [4, 8] rfl (by kernel_rfl) (by kernel_rfl) ?_
              simp only [nl_cons, ↓pickL_nil, ↓pickL_cons, ↓nthO_0, ↓nthO_s, consO_some]
              refine Ow.callFV rfl Tryd.call107 (fun w' hw' => ih2 w') ?_
              refine Ow.go rfl ?_
              simp (disch := (first | assumption | omega | (simp only [lenS, lenT, UInt64.reduceToNat]; try omega))) only [↓Sx.S0, Sx.S1, Tryd.fx, Nat.reduceAdd, Nat.reducePow, Int.reducePow, Nat.reduceBEq, ↓reduceIte, UInt8.reduceToNat, UInt16.reduceToNat, UInt32.reduceToNat, UInt64.reduceToNat, Int.reduceToNat]
              ((try with_reducible refine Cw.go [] ?_); (try simp (disch := (first | assumption | omega | (simp only [lenS, lenT, UInt64.reduceToNat]; try omega))) only [↓Sx.S0, Sx.S1, Tryd.fx, Nat.reduceAdd, Nat.reducePow, Int.reducePow, Nat.reduceBEq, ↓reduceIte, UInt8.reduceToNat, UInt16.reduceToNat, UInt32.reduceToNat, UInt64.reduceToNat, Int.reduceToNat]))
              refine ⟨_, (by simp (disch := (first | assumption | omega | (simp only [lenS, lenT, UInt64.reduceToNat]; try omega))) only [↓Sx.S0, Sx.S1, Tryd.fx, Nat.reduceAdd, Nat.reducePow, Int.reducePow, Nat.reduceBEq, ↓reduceIte, UInt8.reduceToNat, UInt16.reduceToNat, UInt32.reduceToNat, UInt64.reduceToNat, Int.reduceToNat]; rfl), ⟨hw1, trivial⟩, ?_⟩
              rw [hc']; rfl
            · refine Ow.callFV rfl Tryd.call107 (fun w' hw' => ih2 w') ?_
              refine Ow.go rfl ?_
              simp (disch := (first | assumption | omega | (simp only [lenS, lenT, UInt64.reduceToNat]; try omega))) only [↓Sx.S0, Sx.S1, Tryd.fx, Nat.reduceAdd, Nat.reducePow, Int.reducePow, Nat.reduceBEq, ↓reduceIte, UInt8.reduceToNat, UInt16.reduceToNat, UInt32.reduceToNat, UInt64.reduceToNat, Int.reduceToNat]
              refine OwK.rest [5, 9, 10] [4, 8] rfl (by kernel_rfl) (by kernel_rfl) ?_
              simp only [nl_cons, ↓pickL_nil, ↓pickL_cons, ↓nthO_0, ↓nthO_s, consO_some]
              refine Ow.go rfl ?_
              simp (disch := (first | assumption | omega | (simp only [lenS, lenT, UInt64.reduceToNat]; try omega))) only [↓Sx.S0, Sx.S1, Tryd.fx, Nat.reduceAdd, Nat.reducePow, Int.reducePow, Nat.reduceBEq, ↓reduceIte, UInt8.reduceToNat, UInt16.reduceToNat, UInt32.reduceToNat, UInt64.reduceToNat, Int.reduceToNat, e4]
              ((try with_reducible refine Cw.go [] ?_); (try simp (disch := (first | assumption | omega | (simp only [lenS, lenT, UInt64.reduceToNat]; try omega))) only [↓Sx.S0, Sx.S1, Tryd.fx, Nat.reduceAdd, Nat.reducePow, Int.reducePow, Nat.reduceBEq, ↓reduceIte, UInt8.reduceToNat, UInt16.reduceToNat, UInt32.reduceToNat, UInt64.reduceToNat, Int.reduceToNat]))
              refine ⟨_, (by simp (disch := (first | assumption | omega | (simp only [lenS, lenT, UInt64.reduceToNat]; try omega))) only [↓Sx.S0, Sx.S1, Tryd.fx, Nat.reduceAdd, Nat.reducePow, Int.reducePow, Nat.reduceBEq, ↓reduceIte, UInt8.reduceToNat, UInt16.reduceToNat, UInt32.reduceToNat, UInt64.reduceToNat, Int.reduceToNat]; rfl), ⟨hw1, trivial⟩, ?_⟩
              rw [hc']; rfl
          · refine Ow.callFV rfl Tryd.call107 (fun w' hw' => ih2 w') ?_
            refine Ow.go rfl ?_
            simp (disch := (first | assumption | omega | (simp only [lenS, lenT, UInt64.reduceToNat]; try omega))) only [↓Sx.S0, Sx.S1, Tryd.fx, Nat.reduceAdd, Nat.reducePow, Int.reducePow, Nat.reduceBEq, ↓reduceIte, UInt8.reduceToNat, UInt16.reduceToNat, UInt32.reduceToNat, UInt64.reduceToNat, Int.reduceToNat]
            refine OwK.rest [4, 5, 9, 10] [4, 8] rfl (by kernel_rfl) (by kernel_rfl) ?_
            simp only [nl_cons, ↓pickL_nil, ↓pickL_cons, ↓nthO_0, ↓nthO_s, consO_some]
            refine Ow.buildSlice (e := 5) #[v8 c] rfl rfl (by kernel_rfl) fun b1 hb1 hw1 => ?_
            rw [show (#[v8 c] : Array Value) = a8 [c] from rfl]
            have e4 : List.take 1 (List.drop 0 [c]) = [c] := rfl
            refine Ow.go rfl ?_
            simp (disch := (first | assumption | omega | (simp only [lenS, lenT, UInt64.reduceToNat]; try omega))) only [↓Sx.S0, Sx.S1, Tryd.fx, Nat.reduceAdd, Nat.reducePow, Int.reducePow, Nat.reduceBEq, ↓reduceIte, UInt8.reduceToNat, UInt16.reduceToNat, UInt32.reduceToNat, UInt64.reduceToNat, Int.reduceToNat, e4]
            ((try with_reducible refine Cw.go [] ?_); (try simp (disch := (first | assumption | omega | (simp only [lenS, lenT, UInt64.reduceToNat]; try omega))) only [↓Sx.S0, Sx.S1, Tryd.fx, Nat.reduceAdd, Nat.reducePow, Int.reducePow, Nat.reduceBEq, ↓reduceIte, UInt8.reduceToNat, UInt16.reduceToNat, UInt32.reduceToNat, UInt64.reduceToNat, Int.reduceToNat]))
            refine ⟨_, (by simp (disch := (first | assumption | omega | (simp only [lenS, lenT, UInt64.reduceToNat]; try omega))) only [↓Sx.S0, Sx.S1, Tryd.fx, Nat.reduceAdd, Nat.reducePow, Int.reducePow, Nat.reduceBEq, ↓reduceIte, UInt8.reduceToNat, UInt16.reduceToNat, UInt32.reduceToNat, UInt64.reduceToNat, Int.reduceToNat]; rfl), ⟨hw1, trivial⟩, ?_⟩
            rw [hc']; rfl
theorem TextR_spec (s : List UInt8) (w : World) (hs : s.length < 1099511627776) :
    Rets Tryd.prog 66 #[vs s] w (fun v D => v = vs (textL s) ∧ D = []) := by
  have hnl := numL_clamp_len (s.length : Int)
  refine Rets.enterV Tryd.func66 rfl (rs := [.tmp 2]) Tryd.results66 Tryd.ntmps66 ?_
  simp only [List.size_toArray, List.length_cons, List.length_nil, Nat.reduceAdd, Nat.reduceSub, List.replicate_succ, List.replicate_zero, List.cons_append, List.nil_append]
  ((try with_reducible refine Cw.go [] ?_); (try simp (disch := (first | assumption | omega | (simp only [lenS, lenT, UInt64.reduceToNat]; try omega))) only [↓Sx.S0, Sx.S1, Tryd.fx, Nat.reduceAdd, Nat.reducePow, Int.reducePow, Nat.reduceBEq, ↓reduceIte, UInt8.reduceToNat, UInt16.reduceToNat, UInt32.reduceToNat, UInt64.reduceToNat, Int.reduceToNat]))
  refine Ow.callFV rfl Tryd.call107 (fun w' hw' => NumberR_spec _ _ w' (Nat.le_refl _)) ?_
  refine Ow.go rfl ?_
  simp (disch := (first | assumption | omega | (simp only [lenS, lenT, UInt64.reduceToNat]; try omega))) only [↓Sx.S0, Sx.S1, Tryd.fx, Nat.reduceAdd, Nat.reducePow, Int.reducePow, Nat.reduceBEq, ↓reduceIte, UInt8.reduceToNat, UInt16.reduceToNat, UInt32.reduceToNat, UInt64.reduceToNat, Int.reduceToNat]
  ((try with_reducible refine Cw.go [] ?_); (try simp (disch := (first | assumption | omega | (simp only [lenS, lenT, UInt64.reduceToNat]; try omega))) only [↓Sx.S0, Sx.S1, Tryd.fx, Nat.reduceAdd, Nat.reducePow, Int.reducePow, Nat.reduceBEq, ↓reduceIte, UInt8.reduceToNat, UInt16.reduceToNat, UInt32.reduceToNat, UInt64.reduceToNat, Int.reduceToNat]))
  refine ⟨_, (by simp (disch := (first | assumption | omega | (simp only [lenS, lenT, UInt64.reduceToNat]; try omega))) only [↓Sx.S0, Sx.S1, Tryd.fx, Nat.reduceAdd, Nat.reducePow, Int.reducePow, Nat.reduceBEq, ↓reduceIte, UInt8.reduceToNat, UInt16.reduceToNat, UInt32.reduceToNat, UInt64.reduceToNat, Int.reduceToNat]; rfl), trivial, ?_⟩
  rfl
theorem IdR_spec (x : IdL) (w : World) :
    Rets Tryd.prog 76 #[.agg (a8 x.l)] w (fun v D => v = vs x.l ∧ D = []) := by
  have hxl := x.h
  refine Rets.enterV Tryd.func76 rfl (rs := [.tmp 2]) Tryd.results76 Tryd.ntmps76 ?_
  simp only [List.size_toArray, List.length_cons, List.length_nil, Nat.reduceAdd, Nat.reduceSub, List.replicate_succ, List.replicate_zero, List.cons_append, List.nil_append]
  ((try with_reducible refine Cw.go [] ?_); (try simp (disch := (first | assumption | omega | (simp only [lenS, lenT, UInt64.reduceToNat]; try omega))) only [↓Sx.S0, Sx.S1, Tryd.fx, Nat.reduceAdd, Nat.reducePow, Int.reducePow, Nat.reduceBEq, ↓reduceIte, UInt8.reduceToNat, UInt16.reduceToNat, UInt32.reduceToNat, UInt64.reduceToNat, Int.reduceToNat]))
  refine Ow.box rfl rfl fun bx hbx hwx => ?_
  simp only [ev_tmp, getF_0, getF_s, cells_agg, List.nil_append, List.cons_append]
  refine Ow.go rfl ?_
  simp (disch := (first | assumption | omega | (simp only [lenS, lenT, UInt64.reduceToNat]; try omega))) only [↓Sx.S0, Sx.S1, Tryd.fx, Nat.reduceAdd, Nat.reducePow, Int.reducePow, Nat.reduceBEq, ↓reduceIte, UInt8.reduceToNat, UInt16.reduceToNat, UInt32.reduceToNat, UInt64.reduceToNat, Int.reduceToNat]
  have e4 : List.take 32 (List.drop 0 x.l) = x.l := by rw [List.drop_zero, List.take_of_length_le (by omega)]
  ((try with_reducible refine Cw.go [] ?_); (try simp (disch := (first | assumption | omega | (simp only [lenS, lenT, UInt64.reduceToNat]; try omega))) only [↓Sx.S0, Sx.S1, Tryd.fx, Nat.reduceAdd, Nat.reducePow, Int.reducePow, Nat.reduceBEq, ↓reduceIte, UInt8.reduceToNat, UInt16.reduceToNat, UInt32.reduceToNat, UInt64.reduceToNat, Int.reduceToNat, e4]))
  refine ⟨_, (by simp (disch := (first | assumption | omega | (simp only [lenS, lenT, UInt64.reduceToNat]; try omega))) only [↓Sx.S0, Sx.S1, Tryd.fx, Nat.reduceAdd, Nat.reducePow, Int.reducePow, Nat.reduceBEq, ↓reduceIte, UInt8.reduceToNat, UInt16.reduceToNat, UInt32.reduceToNat, UInt64.reduceToNat, Int.reduceToNat]; rfl), ⟨hwx, trivial⟩, ?_⟩
  rfl
end Go.Proofs
end
section
open Go Go.Proofs Go.Sx Go.StP
namespace Go.Proofs
set_option maxRecDepth 10000
set_option maxHeartbeats 400000
set_option linter.unusedSimpArgs false
set_option linter.defProp false
def uOQ_1 := And.intro (And.intro (And.intro (@load_ent0) (@load_ent1)) (And.intro (@load_ent2) (@load_ent))) (And.intro (And.intro (@store_entr) (@cells_ent)) (And.intro (@rdIn_v8) (@rdIn_vi)))
/-- The bytes of an entry and of a tree. -/
def entB (e : EntL) : List UInt8 := (numL (clampN e.kind) ++ textL e.name) ++ e.id.l
def treeB (l : List EntL) : List UInt8 := (l.map entB).flatten
theorem treeB_snoc {l : List EntL} {k : Nat} (hk : k < l.length) : treeB (l.take (k + 1)) = treeB (l.take k) ++ entB (l.getD k ent0) := by
  unfold treeB
  rw [List.take_succ_eq_append_getElem hk, List.map_append, List.flatten_append, List.getD_eq_getElem?_getD, List.getElem?_eq_getElem hk]
  simp
theorem treeB_snoc' {l : List EntL} {k : Nat} (hk : k < l.length) : treeB (l.take (k + 1)) = treeB (l.take k) ++ numL (clampN (l.getD k ent0).kind) ++ textL (l.getD k ent0).name ++ (l.getD k ent0).id.l := by
  rw [treeB_snoc hk]; simp only [entB, List.append_assoc]
theorem textL_len {s : List UInt8} (h : s.length < 1099511627776) : (textL s).length < 1099511627783 := by
  have := numL_clamp_len (s.length : Int)
  unfold textL; rw [List.length_append]; omega
theorem treeB_len {l : List EntL} (hsh : ShortE l) : ∀ k, k ≤ l.length → (treeB (l.take k)).length ≤ k * 1099511627830
  | 0, _ => by simp [treeB]
  | k + 1, hk => by
    have ih := treeB_len hsh k (by omega)
    have h1 := textL_len (hsh k hk)
    have h2 := numL_clamp_len (l.getD k ent0).kind
    have h3 := (l.getD k ent0).id.h
    rw [treeB_snoc hk]
    unfold entB
    simp only [List.length_append]
    omega
theorem TreeBody_spec (v : Value) (l : List EntL) (w : World) (hv : EntS w v l) (hl : l.length < 1000000) (hsh : ShortE l) :
    Rets Tryd.prog 69 #[v] w (fun v' D => v' = vs (treeB l) ∧ D = []) := by
  obtain ⟨b, off, arr, E, fz, hr⟩ := hv.row
  have ln := hv.len
  refine Rets.enterV Tryd.func69 rfl (rs := [.tmp 2]) Tryd.results69 Tryd.ntmps69 ?_
  simp only [List.size_toArray, List.length_cons, List.length_nil, Nat.reduceAdd, Nat.reduceSub, List.replicate_succ, List.replicate_zero, List.cons_append, List.nil_append]
  ((try with_reducible refine Cw.go [] ?_); (try simp (disch := (first | assumption | omega | (simp only [lenS, lenT, UInt64.reduceToNat]; try omega))) only [↓Sx.S0, Sx.S1, Tryd.fx, uOQ_1, Nat.reduceAdd, Nat.reducePow, Int.reducePow, Nat.reduceBEq, ↓reduceIte, UInt8.reduceToNat, UInt16.reduceToNat, UInt32.reduceToNat, UInt64.reduceToNat, Int.reduceToNat, ln]))
  refine Cw.loopG (G := Nat) [5, 6, 7, 8, 11, 12, 13, 14, 15, 16, 17, 18, 19, 20, 21, 22, 23, 24, 25, 26, 27, 28, 29, 30, 31, 32, 3, 9, 10, 4] (fun g => [(3, vs (treeB (l.take g))), (4, vi g)]) (fun g => []) (fun g => g ≤ l.length) (fun g => l.length - g) 0 rfl rfl ?_ ?_
  · exact Nat.zero_le _
  · intro k jk hk
    simp only [overFrom, pin, setF_0, setF_s, List.contains_cons, List.contains_nil, Nat.reduceBEq, Bool.or_false, Bool.false_or, Bool.or_true, Bool.true_or, Nat.reduceAdd, ↓reduceIte, Bool.false_eq_true]
    have h1 : k ≤ l.length := hk
    clear hk
    by_cases hk : k < l.length
    · have h0 : 0 < l.length := by omega
      have hbl := hr.lt h0
      have r2 := hr.has h0
      have i2 := hr.idx true k hk
      have m0 : ∀ n, loadV (some (false, n)) (some (.cells arr E fz)) (off + k * 34) = some (vs (l.getD k ent0).name) := fun n => row_ent0 hr hk n
      have m1 : ∀ n, loadV (some (false, n)) (some (.cells arr E fz)) (off + k * 34 + 1) = some (vi (l.getD k ent0).kind) := fun n => row_ent1 hr hk n
      have m2 : loadV (some (true, 32)) (some (.cells arr E fz)) (off + k * 34 + 2) = some (.agg (a8 (l.getD k ent0).id.l)) := row_ent2 hr hk
      have hs := hsh k hk
      have t1 := treeB_len hsh k h1
      have t2 := textL_len hs
      have t3 := numL_clamp_len (l.getD k ent0).kind
      have t4 := (l.getD k ent0).id.h
      ((try with_reducible refine Cw.go [] ?_); (try simp (disch := (first | assumption | omega | (simp only [lenS, lenT, UInt64.reduceToNat]; try omega))) only [↓Sx.S0, Sx.S1, Tryd.fx, uOQ_1, Nat.reduceAdd, Nat.reducePow, Int.reducePow, Nat.reduceBEq, ↓reduceIte, UInt8.reduceToNat, UInt16.reduceToNat, UInt32.reduceToNat, UInt64.reduceToNat, Int.reduceToNat, ln]))
      refine Cw.regionS [b] [0, 1, 2, 3, 4, 8, 9, 10, 11, 15, 16, 17, 18, 5, 12, 19, 6, 7, 13, 14, 20, 21, 22] [] (by kernel_rfl) (by kernel_rfl) (by kernel_rfl) ?_
      simp only [nl_cons, ↓pickL_nil, ↓pickL_cons, ↓nthO_0, ↓nthO_s, consO_some]
      refine Ow.goQ ?_
      simp (disch := (first | assumption | omega | (simp only [lenS, lenT, UInt64.reduceToNat]; try omega))) only [↓Sx.S0, Sx.S1, Tryd.fx, uOQ_1, Nat.reduceAdd, Nat.reducePow, Int.reducePow, Nat.reduceBEq, ↓reduceIte, UInt8.reduceToNat, UInt16.reduceToNat, UInt32.reduceToNat, UInt64.reduceToNat, Int.reduceToNat, r2, i2, m0, m1, m2]
      refine Ow.callFV rfl Tryd.call107 (fun w' hw' => NumberR_spec _ _ w' (Nat.le_refl _)) ?_
      refine Ow.goQ ?_
      simp (disch := (first | assumption | omega | (simp only [lenS, lenT, UInt64.reduceToNat]; try omega))) only [↓Sx.S0, Sx.S1, Tryd.fx, uOQ_1, Nat.reduceAdd, Nat.reducePow, Int.reducePow, Nat.reduceBEq, ↓reduceIte, UInt8.reduceToNat, UInt16.reduceToNat, UInt32.reduceToNat, UInt64.reduceToNat, Int.reduceToNat, r2, i2, m0, m1, m2]
      refine Ow.callFV rfl Tryd.call66 (fun w' hw' => TextR_spec _ w' hs) ?_
      refine Ow.goQ ?_
      simp (disch := (first | assumption | omega | (simp only [lenS, lenT, UInt64.reduceToNat]; try omega))) only [↓Sx.S0, Sx.S1, Tryd.fx, uOQ_1, Nat.reduceAdd, Nat.reducePow, Int.reducePow, Nat.reduceBEq, ↓reduceIte, UInt8.reduceToNat, UInt16.reduceToNat, UInt32.reduceToNat, UInt64.reduceToNat, Int.reduceToNat, r2, i2, m0, m1, m2]
      refine Ow.callFV rfl Tryd.call76 (fun w' hw' => IdR_spec _ w') ?_
      refine Ow.goQ ?_
      simp (disch := (first | assumption | omega | (simp only [lenS, lenT, UInt64.reduceToNat]; try omega))) only [↓Sx.S0, Sx.S1, Tryd.fx, uOQ_1, Nat.reduceAdd, Nat.reducePow, Int.reducePow, Nat.reduceBEq, ↓reduceIte, UInt8.reduceToNat, UInt16.reduceToNat, UInt32.reduceToNat, UInt64.reduceToNat, Int.reduceToNat, r2, i2, m0, m1, m2]
      exact Again.mk (k + 1) (by omega) (by omega) rfl (by rw [treeB_snoc' hk]; rfl)
    · obtain rfl : k = l.length := by omega
      ((try with_reducible refine Cw.go [] ?_); (try simp (disch := (first | assumption | omega | (simp only [lenS, lenT, UInt64.reduceToNat]; try omega))) only [↓Sx.S0, Sx.S1, Tryd.fx, uOQ_1, Nat.reduceAdd, Nat.reducePow, Int.reducePow, Nat.reduceBEq, ↓reduceIte, UInt8.reduceToNat, UInt16.reduceToNat, UInt32.reduceToNat, UInt64.reduceToNat, Int.reduceToNat, ln]))
      refine ⟨_, (by simp (disch := (first | assumption | omega | (simp only [lenS, lenT, UInt64.reduceToNat]; try omega))) only [↓Sx.S0, Sx.S1, Tryd.fx, uOQ_1, Nat.reduceAdd, Nat.reducePow, Int.reducePow, Nat.reduceBEq, ↓reduceIte, UInt8.reduceToNat, UInt16.reduceToNat, UInt32.reduceToNat, UInt64.reduceToNat, Int.reduceToNat]; rfl), trivial, ?_⟩
      rw [List.take_length]; rfl
/-- The bytes of a commit. -/
def idsB (l : List IdL) : List UInt8 := (l.map IdL.l).flatten
theorem idsB_snoc {l : List IdL} {k : Nat} (hk : k < l.length) : idsB (l.take (k + 1)) = idsB (l.take k) ++ (l.getD k id0).l := by
  unfold idsB
  rw [List.take_succ_eq_append_getElem hk, List.map_append, List.flatten_append, List.getD_eq_getElem?_getD, List.getElem?_eq_getElem hk]
  simp
theorem idsB_len : ∀ (l : List IdL), (idsB l).length = l.length * 32
  | [] => rfl
  | x :: r => by
    have h := idsB_len r
    have := x.h
    unfold idsB at h ⊢
    rw [List.map_cons, List.flatten_cons, List.length_append, h, List.length_cons]
    omega
def comHd (c : ComL) : List UInt8 := c.tree.l ++ numL (clampN c.par.length)
def comB (c : ComL) : List UInt8 := comHd c ++ idsB c.par ++ textL c.text
set_option linter.defProp false
def uOQ_2 := And.intro (And.intro (And.intro (@eqIdA) (@neIdA)) (And.intro (@load_idb) (And.intro (@rdIn_v8) (@rdIn_vi)))) (And.intro (And.intro (@load_com0) (@load_com1)) (And.intro (@load_com2) (And.intro (@load_com) (@cells_com))))
theorem CommitBody_spec (v : Value) (c : ComL) (w : World) (hv : ComS w v c) (hl : c.par.length < 1000000) (ht : c.text.length < 1099511627776) :
    Rets Tryd.prog 71 #[v] w (fun v' D => v' = vs (comB c) ∧ D = []) := by
  obtain ⟨p, rfl, hp⟩ := hv
  obtain ⟨b, off, arr, E, fz, hr⟩ := hp.row
  have ln := hp.len
  have t2 := textL_len ht
  have t3 := numL_clamp_len (c.par.length : Int)
  have t4 := c.tree.h
  have t5 : (comHd c).length ≤ 38 := by unfold comHd; rw [List.length_append]; omega
  refine Rets.enterV Tryd.func71 rfl (rs := [.tmp 2]) Tryd.results71 Tryd.ntmps71 ?_
  simp only [List.size_toArray, List.length_cons, List.length_nil, Nat.reduceAdd, Nat.reduceSub, List.replicate_succ, List.replicate_zero, List.cons_append, List.nil_append]
  ((try with_reducible refine Cw.go [] ?_); (try simp (disch := (first | assumption | omega | (simp only [lenS, lenT, UInt64.reduceToNat]; try omega))) only [↓Sx.S0, Sx.S1, Tryd.fx, uOQ_2, Nat.reduceAdd, Nat.reducePow, Int.reducePow, Nat.reduceBEq, ↓reduceIte, UInt8.reduceToNat, UInt16.reduceToNat, UInt32.reduceToNat, UInt64.reduceToNat, Int.reduceToNat]))
  refine Ow.box rfl rfl fun bx hbx hwx => ?_
  simp only [ev_tmp, getF_0, getF_s, cells_agg, List.nil_append, List.cons_append]
  refine Ow.go rfl ?_
  simp (disch := (first | assumption | omega | (simp only [lenS, lenT, UInt64.reduceToNat]; try omega))) only [↓Sx.S0, Sx.S1, Tryd.fx, uOQ_2, Nat.reduceAdd, Nat.reducePow, Int.reducePow, Nat.reduceBEq, ↓reduceIte, UInt8.reduceToNat, UInt16.reduceToNat, UInt32.reduceToNat, UInt64.reduceToNat, Int.reduceToNat]
  ((try with_reducible refine Cw.go [] ?_); (try simp (disch := (first | assumption | omega | (simp only [lenS, lenT, UInt64.reduceToNat]; try omega))) only [↓Sx.S0, Sx.S1, Tryd.fx, uOQ_2, Nat.reduceAdd, Nat.reducePow, Int.reducePow, Nat.reduceBEq, ↓reduceIte, UInt8.reduceToNat, UInt16.reduceToNat, UInt32.reduceToNat, UInt64.reduceToNat, Int.reduceToNat, ln]))
  refine Cw.regionS [bx] [0, 3, 1, 4, 5, 2, 6, 7, 8] [] (by kernel_rfl) (by kernel_rfl) (by kernel_rfl) ?_
  simp only [nl_cons, ↓pickL_nil, ↓pickL_cons, ↓nthO_0, ↓nthO_s, consO_some]
  refine Ow.goQ ?_
  simp (disch := (first | assumption | omega | (simp only [lenS, lenT, UInt64.reduceToNat]; try omega))) only [↓Sx.S0, Sx.S1, Tryd.fx, uOQ_2, Nat.reduceAdd, Nat.reducePow, Int.reducePow, Nat.reduceBEq, ↓reduceIte, UInt8.reduceToNat, UInt16.reduceToNat, UInt32.reduceToNat, UInt64.reduceToNat, Int.reduceToNat, ln]
  refine Ow.callFV rfl Tryd.call76 (fun w' hw' => IdR_spec _ w') ?_
  refine Ow.goQ ?_
  simp (disch := (first | assumption | omega | (simp only [lenS, lenT, UInt64.reduceToNat]; try omega))) only [↓Sx.S0, Sx.S1, Tryd.fx, uOQ_2, Nat.reduceAdd, Nat.reducePow, Int.reducePow, Nat.reduceBEq, ↓reduceIte, UInt8.reduceToNat, UInt16.reduceToNat, UInt32.reduceToNat, UInt64.reduceToNat, Int.reduceToNat, ln]
  refine Ow.callFV rfl Tryd.call107 (fun w' hw' => NumberR_spec _ _ w' (Nat.le_refl _)) ?_
  refine Ow.goQ ?_
  simp (disch := (first | assumption | omega | (simp only [lenS, lenT, UInt64.reduceToNat]; try omega))) only [↓Sx.S0, Sx.S1, Tryd.fx, uOQ_2, Nat.reduceAdd, Nat.reducePow, Int.reducePow, Nat.reduceBEq, ↓reduceIte, UInt8.reduceToNat, UInt16.reduceToNat, UInt32.reduceToNat, UInt64.reduceToNat, Int.reduceToNat, ln]
  rw [show c.tree.l ++ numL (clampN c.par.length) = comHd c ++ idsB (c.par.take 0) by simp [comHd, idsB]]
  refine Cw.loopG (G := Nat) [13, 14, 15, 16, 17, 20, 21, 22, 23, 24, 25, 26, 27, 3, 18, 19, 4] (fun g => [(3, vs (comHd c ++ idsB (c.par.take g))), (4, vi g)]) (fun g => [(bx, .cells (comC c.tree p c.text).toArray 54 (0, 0))]) (fun g => g ≤ c.par.length) (fun g => c.par.length - g) 0 rfl rfl ?_ ?_
  · exact Nat.zero_le _
  · intro k jk hk
    simp only [overFrom, pin, setF_0, setF_s, List.contains_cons, List.contains_nil, Nat.reduceBEq, Bool.or_false, Bool.false_or, Bool.or_true, Bool.true_or, Nat.reduceAdd, ↓reduceIte, Bool.false_eq_true]
    have h1 : k ≤ c.par.length := hk
    clear hk
    have t6 := idsB_len (c.par.take k)
    rw [List.length_take, Nat.min_eq_left h1] at t6
    by_cases hk : k < c.par.length
    · have h0 : 0 < c.par.length := by omega
      have hbl := hr.lt h0
      have hnb : bx ≠ b := by omega
      have r2 := hr.has h0
      have i2 := hr.idx true k hk
      have l2 := row_id hr hk
      have hxl := (c.par.getD k id0).h
      ((try with_reducible refine Cw.go [] ?_); (try simp (disch := (first | assumption | omega | (simp only [lenS, lenT, UInt64.reduceToNat]; try omega))) only [↓Sx.S0, Sx.S1, Tryd.fx, uOQ_2, Nat.reduceAdd, Nat.reducePow, Int.reducePow, Nat.reduceBEq, ↓reduceIte, UInt8.reduceToNat, UInt16.reduceToNat, UInt32.reduceToNat, UInt64.reduceToNat, Int.reduceToNat, ln, r2, i2, l2]))
      refine Ow.callFV rfl Tryd.call76 (fun w' hw' => IdR_spec _ w') ?_
      refine Ow.go rfl ?_
      simp (disch := (first | assumption | omega | (simp only [lenS, lenT, UInt64.reduceToNat]; try omega))) only [↓Sx.S0, Sx.S1, Tryd.fx, uOQ_2, Nat.reduceAdd, Nat.reducePow, Int.reducePow, Nat.reduceBEq, ↓reduceIte, UInt8.reduceToNat, UInt16.reduceToNat, UInt32.reduceToNat, UInt64.reduceToNat, Int.reduceToNat, ln, r2, i2, l2]
      exact Again.mk (k + 1) (by omega) (by omega) rfl (by rw [idsB_snoc hk, ← List.append_assoc]; rfl)
    · obtain rfl : k = c.par.length := by omega
      rw [List.take_length]
      rw [List.take_length] at t6
      ((try with_reducible refine Cw.go [] ?_); (try simp (disch := (first | assumption | omega | (simp only [lenS, lenT, UInt64.reduceToNat]; try omega))) only [↓Sx.S0, Sx.S1, Tryd.fx, uOQ_2, Nat.reduceAdd, Nat.reducePow, Int.reducePow, Nat.reduceBEq, ↓reduceIte, UInt8.reduceToNat, UInt16.reduceToNat, UInt32.reduceToNat, UInt64.reduceToNat, Int.reduceToNat, ln]))
      refine Ow.callFV rfl Tryd.call66 (fun w' hw' => TextR_spec _ w' ht) ?_
      refine Ow.go rfl ?_
      simp (disch := (first | assumption | omega | (simp only [lenS, lenT, UInt64.reduceToNat]; try omega))) only [↓Sx.S0, Sx.S1, Tryd.fx, uOQ_2, Nat.reduceAdd, Nat.reducePow, Int.reducePow, Nat.reduceBEq, ↓reduceIte, UInt8.reduceToNat, UInt16.reduceToNat, UInt32.reduceToNat, UInt64.reduceToNat, Int.reduceToNat]
      refine ⟨_, (by simp (disch := (first | assumption | omega | (simp only [lenS, lenT, UInt64.reduceToNat]; try omega))) only [↓Sx.S0, Sx.S1, Tryd.fx, uOQ_2, Nat.reduceAdd, Nat.reducePow, Int.reducePow, Nat.reduceBEq, ↓reduceIte, UInt8.reduceToNat, UInt16.reduceToNat, UInt32.reduceToNat, UInt64.reduceToNat, Int.reduceToNat]; rfl), ⟨hwx, trivial⟩, ?_⟩
      rfl
end Go.Proofs
end
section
open Go Go.Proofs Go.Sx Go.StP
namespace Go.Proofs
set_option maxRecDepth 10000
set_option maxHeartbeats 400000
set_option linter.unusedSimpArgs false
instance : DecidableEq EntL := fun a b => if h : a.name = b.name ∧ a.kind = b.kind ∧ a.id.l = b.id.l then .isTrue (by cases a; cases b; simp only at h; obtain ⟨rfl, rfl, h3⟩ := h; rw [IdL.ext' h3]) else .isFalse (fun e => h (by rw [e]; exact ⟨rfl, rfl, rfl⟩))
theorem EntL.ext' {a b : EntL} (h : (a.name == b.name && a.kind == b.kind && a.id.l == b.id.l) = true) : a = b := by
  simp only [Bool.and_eq_true, beq_iff_eq] at h
  cases a; cases b; simp only at h; obtain ⟨⟨rfl, rfl⟩, h3⟩ := h; rw [IdL.ext' h3]
set_option linter.defProp false
def uOR_1 := And.intro (And.intro (And.intro (@load_ent0) (@load_ent1)) (And.intro (@load_ent2) (@load_ent))) (And.intro (And.intro (@store_entr) (@cells_ent)) (And.intro (@rdIn_v8) (And.intro (@rdIn_vi) (@neEnt))))
theorem SameEntries_spec (v1 v2 : Value) (l1 l2 : List EntL) (w : World) (hv1 : EntS w v1 l1) (hv2 : EntS w v2 l2) (hl1 : l1.length < 1000000) (_hl2 : l2.length < 1000000) :
    Rets Tryd.prog 29 #[v1, v2] w (fun v' D => v' = .bool (decide (l1 = l2)) ∧ D = []) := by
  obtain ⟨b1, off1, arr1, E1, fz1, hr1⟩ := hv1.row
  obtain ⟨b2, off2, arr2, E2, fz2, hr2⟩ := hv2.row
  have ln1 := hv1.len
  have ln2 := hv2.len
  refine Rets.enterV Tryd.func29 rfl (rs := [.tmp 4]) Tryd.results29 Tryd.ntmps29 ?_
  simp only [List.size_toArray, List.length_cons, List.length_nil, Nat.reduceAdd, Nat.reduceSub, List.replicate_succ, List.replicate_zero, List.cons_append, List.nil_append]
  by_cases hl : l1.length = l2.length
  · ((try with_reducible refine Cw.go [] ?_); (try simp (disch := (first | assumption | omega | (simp only [lenS, lenT, UInt64.reduceToNat]; try omega))) only [↓Sx.S0, Sx.S1, Tryd.fx, uOR_1, Nat.reduceAdd, Nat.reducePow, Int.reducePow, Nat.reduceBEq, ↓reduceIte, UInt8.reduceToNat, UInt16.reduceToNat, UInt32.reduceToNat, UInt64.reduceToNat, Int.reduceToNat, ln1, ln2]))
    refine Cw.loopG (G := Nat) [11, 12, 13, 14, 17, 18, 19, 20, 21, 22, 23, 24, 25, 4, 15, 16, 5] (fun g => [(5, vi g)]) (fun g => []) (fun g => g ≤ l1.length ∧ l1.take g = l2.take g) (fun g => l1.length - g) 0 rfl rfl ?_ ?_
    · exact ⟨Nat.zero_le _, rfl⟩
    · intro k jk hk
      simp only [overFrom, pin, setF_0, setF_s, List.contains_cons, List.contains_nil, Nat.reduceBEq, Bool.or_false, Bool.false_or, Bool.or_true, Bool.true_or, Nat.reduceAdd, ↓reduceIte, Bool.false_eq_true]
      obtain ⟨h1, h2⟩ := hk
      by_cases hk : k < l1.length
      · have h0 : 0 < l1.length := by omega
        have ra := hr1.has h0
        have rb := hr2.has (show 0 < l2.length by omega)
        have ia := hr1.idx true k hk
        have ib := hr2.idx true k (show k < l2.length by omega)
        have la := row_ent hr1 hk
        have lb := row_ent hr2 (show k < l2.length by omega)
        ((try with_reducible refine Cw.go [] ?_); (try simp (disch := (first | assumption | omega | (simp only [lenS, lenT, UInt64.reduceToNat]; try omega))) only [↓Sx.S0, Sx.S1, Tryd.fx, uOR_1, Nat.reduceAdd, Nat.reducePow, Int.reducePow, Nat.reduceBEq, ↓reduceIte, UInt8.reduceToNat, UInt16.reduceToNat, UInt32.reduceToNat, UInt64.reduceToNat, Int.reduceToNat, ln1]))
        refine Cw.regionS [b1, b2] [0, 1, 2, 4, 5, 6, 3, 7, 8] [] (by kernel_rfl) (by kernel_rfl) (by kernel_rfl) ?_
        simp only [nl_cons, ↓pickL_nil, ↓pickL_cons, ↓nthO_0, ↓nthO_s, consO_some]
        refine Ow.goQ ?_
        simp (disch := (first | assumption | omega | (simp only [lenS, lenT, UInt64.reduceToNat]; try omega))) only [↓Sx.S0, Sx.S1, Tryd.fx, uOR_1, Nat.reduceAdd, Nat.reducePow, Int.reducePow, Nat.reduceBEq, ↓reduceIte, UInt8.reduceToNat, UInt16.reduceToNat, UInt32.reduceToNat, UInt64.reduceToNat, Int.reduceToNat, ra, rb, ia, ib, la, lb]
        cases hq : ((l1.getD k ent0).name == (l2.getD k ent0).name && (l1.getD k ent0).kind == (l2.getD k ent0).kind && (l1.getD k ent0).id.l == (l2.getD k ent0).id.l)
        · have : decide (l1 = l2) = false := decide_eq_false (fun e => by rw [e] at hq; simp at hq)
          rw [this]
          ((try with_reducible refine Cw.go [] ?_); (try simp (disch := (first | assumption | omega | (simp only [lenS, lenT, UInt64.reduceToNat]; try omega))) only [↓Sx.S0, Sx.S1, Tryd.fx, uOR_1, Nat.reduceAdd, Nat.reducePow, Int.reducePow, Nat.reduceBEq, ↓reduceIte, UInt8.reduceToNat, UInt16.reduceToNat, UInt32.reduceToNat, UInt64.reduceToNat, Int.reduceToNat, hq]))
          refine ⟨_, (by simp (disch := (first | assumption | omega | (simp only [lenS, lenT, UInt64.reduceToNat]; try omega))) only [↓Sx.S0, Sx.S1, Tryd.fx, uOR_1, Nat.reduceAdd, Nat.reducePow, Int.reducePow, Nat.reduceBEq, ↓reduceIte, UInt8.reduceToNat, UInt16.reduceToNat, UInt32.reduceToNat, UInt64.reduceToNat, Int.reduceToNat]; rfl), trivial, ?_⟩
          rfl
        · ((try with_reducible refine Cw.go [] ?_); (try simp (disch := (first | assumption | omega | (simp only [lenS, lenT, UInt64.reduceToNat]; try omega))) only [↓Sx.S0, Sx.S1, Tryd.fx, uOR_1, Nat.reduceAdd, Nat.reducePow, Int.reducePow, Nat.reduceBEq, ↓reduceIte, UInt8.reduceToNat, UInt16.reduceToNat, UInt32.reduceToNat, UInt64.reduceToNat, Int.reduceToNat, hq]))
          refine Again.mk (k + 1) (by omega) ⟨hk, ?_⟩ rfl rfl
          have e : l1.getD k ent0 = l2.getD k ent0 := EntL.ext' (by simpa using hq)
          rw [take_snoc (z := ent0) hk, take_snoc (z := ent0) (show k < l2.length by omega), h2, e]
      · obtain rfl : k = l1.length := by omega
        have : l1 = l2 := by rw [List.take_length, hl, List.take_length] at h2; exact h2
        rw [decide_eq_true this]
        ((try with_reducible refine Cw.go [] ?_); (try simp (disch := (first | assumption | omega | (simp only [lenS, lenT, UInt64.reduceToNat]; try omega))) only [↓Sx.S0, Sx.S1, Tryd.fx, uOR_1, Nat.reduceAdd, Nat.reducePow, Int.reducePow, Nat.reduceBEq, ↓reduceIte, UInt8.reduceToNat, UInt16.reduceToNat, UInt32.reduceToNat, UInt64.reduceToNat, Int.reduceToNat, ln1]))
        refine ⟨_, (by simp (disch := (first | assumption | omega | (simp only [lenS, lenT, UInt64.reduceToNat]; try omega))) only [↓Sx.S0, Sx.S1, Tryd.fx, uOR_1, Nat.reduceAdd, Nat.reducePow, Int.reducePow, Nat.reduceBEq, ↓reduceIte, UInt8.reduceToNat, UInt16.reduceToNat, UInt32.reduceToNat, UInt64.reduceToNat, Int.reduceToNat]; rfl), trivial, ?_⟩
        rfl
  · have : decide (l1 = l2) = false := decide_eq_false (fun e => hl (by rw [e]))
    rw [this]
    ((try with_reducible refine Cw.go [] ?_); (try simp (disch := (first | assumption | omega | (simp only [lenS, lenT, UInt64.reduceToNat]; try omega))) only [↓Sx.S0, Sx.S1, Tryd.fx, uOR_1, Nat.reduceAdd, Nat.reducePow, Int.reducePow, Nat.reduceBEq, ↓reduceIte, UInt8.reduceToNat, UInt16.reduceToNat, UInt32.reduceToNat, UInt64.reduceToNat, Int.reduceToNat, ln1, ln2]))
    refine ⟨_, (by simp (disch := (first | assumption | omega | (simp only [lenS, lenT, UInt64.reduceToNat]; try omega))) only [↓Sx.S0, Sx.S1, Tryd.fx, uOR_1, Nat.reduceAdd, Nat.reducePow, Int.reducePow, Nat.reduceBEq, ↓reduceIte, UInt8.reduceToNat, UInt16.reduceToNat, UInt32.reduceToNat, UInt64.reduceToNat, Int.reduceToNat]; rfl), trivial, ?_⟩
    rfl
end Go.Proofs
end
namespace Go.Sx
open Go
section
variable {α : Type} {m : Nat} {enc : α → List Value} {z : α} {w : World} {v : Value} {l : List α}
end
section
variable {P : Program} {w0 : World} {f : Fr} {L : Heap} {N : Fr → Heap → Prop} {ops : Array Oper} {rest : List Oper} {md : Md} {d : Option Tmp} {ty : TypeId} {ps : String} {af : Array Edge} {g : Option (Nat × Bool)}
/-- A function value of one argument, to which a chunk is handed. -/
theorem Ow.callFnX {x y : Operand} {b : Value} {ts : Array TypeId} {k : FuncId} {X Y : Heap} {S : Value → Heap → Prop} {md' : Md} (hL : L = X ++ Y) (he : md.turn = some md')
    (hs : skipped ops f ⟨d, .call ⟨.value x, #[y], ts⟩, ty, ps, af, g⟩ = false)
    (hx : ev f x = .func (.func k) #[] #[]) (hy : ev f y = b)
    (hk : ∀ a w, (callFunc k a).run P w = .ok (.enter k a) w)
    (hc : ∀ w, Hp w0 L w → (∀ p, p ∈ X → w.heap[p.1]? = some p.2) → (keys X).Nodup → Rets P k #[b] w (XS w X S))
    (hn : ∀ v D, Came w0 L X D → S v D → Ow P w0 ops md' rest (putF f d v) (D ++ Y) N) :
    Ow P w0 ops md (⟨d, .call ⟨.value x, #[y], ts⟩, ty, ps, af, g⟩ :: rest) f L N := by
  subst hL
  have hnd : ∀ w, Hp w0 (X ++ Y) w → (keys X).Nodup ∧ ∀ c, c ∈ keys Y → c ∉ keys X := by
    intro w hw
    have := hw.nodup
    rw [keys_app, List.nodup_append] at this
    exact ⟨this.1, fun c hc hx => this.2.2 c hx c hc rfl⟩
  refine Ow.call (S := fun B v D => ((∀ c, c ∈ keys D → c ∈ keys X ∨ B ≤ c) ∧ (∀ c, c ∈ keys X → c ∈ keys D) ∧ S v D) ∧ ∃ w, Hp w0 (X ++ Y) w ∧ w.heap.size = B) he hs hx hk (fun w hw => ?_) ?_
  · show Rets P k (#[] ++ #[y].map (ev f) ++ #[]) w _
    rw [show (#[] ++ #[y].map (ev f) ++ #[] : Array Value) = #[b] by simp [hy]]
    refine Calls.mono (hc w hw (fun p hp => hw.has _ _ (List.mem_append_left _ hp)) (hnd w hw).1) ?_
    rintro e w' ⟨v, D, he, hp, hS⟩
    exact ⟨v, D, he, hp, ⟨hS.1.new, hS.1.all, hS.2⟩, w, hw, rfl⟩
  · rintro B v D hab hB ⟨⟨h1, h2, h3⟩, w1, hw1, hwB⟩
    refine ⟨D ++ Y, ?_, hn v D ⟨fun c hc => (h1 c hc).imp id fun h => ⟨above_of fun b hb => by have := hw1.lt hb; omega, by have := hw1.size; omega⟩, h2⟩ h3⟩
    intro w w' hwb h k
    have ht := h.trans k
    have hY : ∀ c, c ∈ keys Y → c ∉ keys D := by
      intro c hc hd
      rcases h1 c hd with hx | hx
      · exact (hnd w h).2 c hc hx
      · have := h.lt (b := c) (by rw [keys_app]; exact List.mem_append_right _ hc)
        omega
    have e1 : X.filter (fun p => !(keys D).contains p.1) = [] := by
      rw [List.filter_eq_nil_iff]
      intro p hp
      have := h2 p.1 (List.mem_map.2 ⟨p, hp, rfl⟩)
      simpa using this
    have e2 : Y.filter (fun p => !(keys D).contains p.1) = Y := filter_keys_all hY
    rw [List.filter_append, e1, e2, List.nil_append] at ht
    refine ht.same (fun p => by simp [or_comm]) ?_
    have := ht.nodup
    rw [keys_app] at this ⊢
    exact (List.perm_append_comm.nodup_iff).1 this
end
section
variable {P : Program} {w0 : World} {f : Fr} {L : Heap} {K : Kont}
/-- In the world of the moment. -/
theorem Cw.world {c : Code} (h : ∀ w, Hp w0 L w → Cw P w0 c f L K) : Cw P w0 c f L K := fun w hw => h w hw w hw
/-- What the world of the moment holds where the list of blocks does. -/
theorem Gr.read {E : TypeId} {m n : Nat} {v : Value} {cs : List Value} (h : Gr L E m v n cs) {b : Nat} (hb : slB v = some b) {w : World} (hw : Hp w0 L w) {o : Obj} (ho : w.heap[b]? = some o) : readB w0 L b = some o := by
  obtain ⟨a, ha⟩ := h.at_ hb
  rw [hw.has _ _ (look_mem ha)] at ho
  rw [read_look ha]; exact ho
end
end Go.Sx

section
open Go Go.Proofs Go.Sx Go.StP
namespace Go.Proofs
set_option maxRecDepth 10000
set_option maxHeartbeats 400000
set_option linter.unusedSimpArgs false
/-! ### Entries and ids, read -/
def mkIdE (l : List UInt8) : IdL := if h : l.length = 32 then ⟨l, h⟩ else id0
theorem mkIdE_eq {l : List UInt8} (h : l.length = 32) : (mkIdE l).l = l := by unfold mkIdE; rw [dif_pos h]
theorem idE_len (s : List UInt8) (a : Nat) (e : Int) : (idR s a e).1.length = 32 := by
  unfold idR
  simp only
  split
  · assumption
  · simp [z32]
theorem idE_le {s : List UInt8} {a : Nat} {e : Int} (ha : a ≤ s.length) : a ≤ (idR s a e).2.1 ∧ (idR s a e).2.1 ≤ s.length := rawR_le ha
theorem textE_le {s : List UInt8} {a : Nat} {e most : Int} (ha : a ≤ s.length) : a ≤ (textR s a e most).2.1 ∧ (textR s a e most).2.1 ≤ s.length := by
  have hp := numR_le (e := e) (most := most) ha
  have hq := rawR_le (e := (numR s a e most).2.2) (n := (numR s a e most).1) hp.2
  unfold textR
  simp only
  split
  · exact ⟨Nat.le_refl _, ha⟩
  · exact ⟨by omega, hq.2⟩
theorem textE_len (s : List UInt8) (a : Nat) (e most : Int) : (textR s a e most).1.length ≤ s.length := by
  have : ∀ (b : Nat) (e n : Int), (rawR s b e n).1.length ≤ s.length := by
    intro b e n
    unfold rawR
    split
    · simp
    · split
      · simp
      · split
        · simp
        · simp only [List.length_take, List.length_drop]; omega
  unfold textR
  simp only
  split
  · simp
  · exact this _ _ _
/-- An error stays; none is 5. -/
theorem rawR_e {s : List UInt8} {a : Nat} {e n : Int} (he : e ≠ 0) : (rawR s a e n).2 = (a, e) := by unfold rawR; rw [if_pos he]
theorem numR_e {s : List UInt8} {a : Nat} {e most : Int} (he : e ≠ 0) : (numR s a e most).2 = (a, e) := by unfold numR; rw [if_pos he]
theorem textR_e {s : List UInt8} {a : Nat} {e most : Int} (he : e ≠ 0) : (textR s a e most).2 = (a, e) := by
  unfold textR
  simp only [numR_e he, rawR_e he]
  rw [if_pos he]
theorem idR_e {s : List UInt8} {a : Nat} {e : Int} (he : e ≠ 0) : (idR s a e).2 = (a, e) := by unfold idR; simp only [rawR_e he]
theorem rawR_5 {s : List UInt8} {a : Nat} {e n : Int} (h : e ≠ 5) : (rawR s a e n).2.2 ≠ 5 := by
  unfold rawR
  split
  · exact h
  · split
    · show (2 : Int) ≠ 5; decide
    · split
      · show (3 : Int) ≠ 5; decide
      · show (0 : Int) ≠ 5; decide
theorem numGo_5 (most : Int) : ∀ (l : List UInt8) (k n x : Nat), numGo most l k n = .error x → x ≠ 5 := by
  intro l
  induction l with
  | nil => intro k n x h; unfold numGo at h; cases h; decide
  | cons c r ih =>
    intro k n x h
    unfold numGo at h
    split at h
    · split at h
      · cases h; decide
      · exact ih _ _ _ h
    · split at h
      · cases h; decide
      · split at h
        · cases h
        · cases h; decide
theorem numGo_0 (most : Int) : ∀ (l : List UInt8) (k n : Nat), numGo most l k n ≠ .error 0 := by
  intro l
  induction l with
  | nil => intro k n h; unfold numGo at h; cases h
  | cons c r ih =>
    intro k n h
    unfold numGo at h
    split at h
    · split at h
      · cases h
      · exact ih _ _ h
    · split at h
      · cases h
      · split at h
        · cases h
        · cases h
theorem numR_5 {s : List UInt8} {a : Nat} {e most : Int} (h : e ≠ 5) : (numR s a e most).2.2 ≠ 5 := by
  unfold numR
  split
  · exact h
  · split
    · show (0 : Int) ≠ 5; decide
    · rename_i x hx
      have := numGo_5 _ _ _ _ _ hx
      show ((x : Nat) : Int) ≠ 5
      omega
theorem textR_5 {s : List UInt8} {a : Nat} {e most : Int} (h : e ≠ 5) : (textR s a e most).2.2 ≠ 5 := by
  unfold textR
  simp only
  split
  · exact rawR_5 (numR_5 h)
  · exact rawR_5 (numR_5 h)
theorem idR_5 {s : List UInt8} {a : Nat} {e : Int} (h : e ≠ 5) : (idR s a e).2.2 ≠ 5 := by unfold idR; exact rawR_5 h
/-- A number that was read takes a byte at least. -/
theorem numR_up {s : List UInt8} {a : Nat} {e most : Int} (h : (numR s a e most).2.2 = 0) : a < (numR s a e most).2.1 := by
  unfold numR at h ⊢
  split
  · rename_i he
    rw [if_pos he] at h
    exact absurd h he
  · rename_i he
    rw [if_neg he] at h
    split
    · rename_i n k hk
      have := numGo_le _ _ _ _ _ _ hk
      show a < a + k
      omega
    · rename_i x hx
      rw [hx] at h
      exfalso
      have : x = 0 := by have : ((x : Nat) : Int) = 0 := h; omega
      subst this
      exact numGo_0 _ _ _ _ hx
/-- An entry. -/
def entR (s : List UInt8) (a : Nat) (e : Int) : EntL × Nat × Int :=
  let p := numR s a e 2
  let q := textR s p.2.1 p.2.2 32
  let i := idR s q.2.1 q.2.2
  (⟨q.1, p.1, mkIdE i.1⟩, i.2)
theorem entR_le {s : List UInt8} {a : Nat} {e : Int} (ha : a ≤ s.length) : a ≤ (entR s a e).2.1 ∧ (entR s a e).2.1 ≤ s.length := by
  have h1 := numR_le (e := e) (most := 2) ha
  have h2 := textE_le (e := (numR s a e 2).2.2) (most := 32) h1.2
  have h3 := idE_le (e := (textR s (numR s a e 2).2.1 (numR s a e 2).2.2 32).2.2) h2.2
  unfold entR
  exact ⟨by simp only; omega, h3.2⟩
theorem entR_5 {s : List UInt8} {a : Nat} {e : Int} (h : e ≠ 5) : (entR s a e).2.2 ≠ 5 := idR_5 (textR_5 (numR_5 h))
theorem entR_up {s : List UInt8} {a : Nat} {e : Int} (ha : a ≤ s.length) (h : (entR s a e).2.2 = 0) : a < (entR s a e).2.1 := by
  have h1 := numR_le (e := e) (most := 2) ha
  have h2 := textE_le (e := (numR s a e 2).2.2) (most := 32) h1.2
  have h3 := idE_le (e := (textR s (numR s a e 2).2.1 (numR s a e 2).2.2 32).2.2) h2.2
  unfold entR at h ⊢
  simp only at h ⊢
  have e2 : (textR s (numR s a e 2).2.1 (numR s a e 2).2.2 32).2.2 = 0 := Decidable.byContradiction fun hn => by rw [idR_e hn] at h; exact hn h
  have e1 : (numR s a e 2).2.2 = 0 := Decidable.byContradiction fun hn => by rw [textR_e hn] at e2; exact hn e2
  have := numR_up e1
  omega
/-- Entries up to the end, or to an error. -/
def entsGo (s : List UInt8) : Nat → Nat → Int → List EntL → List EntL × Nat × Int
  | 0, a, e, l => (l, a, e)
  | n + 1, a, e, l => if e = 0 ∧ a < s.length then entsGo s n (entR s a e).2.1 (entR s a e).2.2 (l ++ [(entR s a e).1]) else (l, a, e)
theorem entsGo_on {s : List UInt8} {n a : Nat} {e : Int} {l : List EntL} (h : e = 0 ∧ a < s.length) : entsGo s (n + 1) a e l = entsGo s n (entR s a e).2.1 (entR s a e).2.2 (l ++ [(entR s a e).1]) := by rw [entsGo, if_pos h]
theorem entsGo_end {s : List UInt8} {n a : Nat} {e : Int} {l : List EntL} (h : ¬ (e = 0 ∧ a < s.length)) : entsGo s n a e l = (l, a, e) := by
  cases n with
  | zero => rfl
  | succ n => rw [entsGo, if_neg h]
def entsE (s : List UInt8) : List EntL × Nat × Int := entsGo s (s.length + 1) 0 0 []
/-- What holds when so many rounds are left. -/
structure EntsJ (s : List UInt8) (n a : Nat) (e : Int) (l : List EntL) : Prop where
  go : entsE s = entsGo s n a e l
  le : a ≤ s.length
  five : e ≠ 5
  fuel : e = 0 → s.length < a + n
  cnt : l.length + n = s.length + 1
  short : ∀ i, i < l.length → (l.getD i ent0).name.length ≤ s.length
theorem EntsJ.init (s : List UInt8) : EntsJ s (s.length + 1) 0 0 [] := ⟨rfl, Nat.zero_le _, by decide, fun _ => by omega, by simp, fun i hi => by simp at hi⟩
theorem EntsJ.next {s : List UInt8} {n a : Nat} {e : Int} {l : List EntL} (h : EntsJ s n a e l) (hc : e = 0 ∧ a < s.length) : ∃ m, n = m + 1 ∧ EntsJ s m (entR s a e).2.1 (entR s a e).2.2 (l ++ [(entR s a e).1]) := by
  have := h.fuel hc.1
  obtain ⟨m, rfl⟩ : ∃ m, n = m + 1 := ⟨n - 1, by omega⟩
  refine ⟨m, rfl, h.go.trans (entsGo_on hc), (entR_le h.le).2, entR_5 h.five, fun h0 => ?_, ?_, fun i hi => ?_⟩
  · have := entR_up h.le h0; omega
  · have := h.cnt; simp only [List.length_append, List.length_cons, List.length_nil]; omega
  · by_cases hlt : i < l.length
    · rw [getD_app_l hlt]; exact h.short i hlt
    · have : i = l.length := by simp only [List.length_append, List.length_cons, List.length_nil] at hi; omega
      subst this
      rw [getD_app_r (Nat.le_refl _), Nat.sub_self]
      exact textE_len _ _ _ _
theorem EntsJ.done {s : List UInt8} {n a : Nat} {e : Int} {l : List EntL} (h : EntsJ s n a e l) (hc : ¬ (e = 0 ∧ a < s.length)) : entsE s = (l, a, e) := h.go.trans (entsGo_end hc)
theorem EntsJ.sh {s : List UInt8} {n a : Nat} {e : Int} {l : List EntL} (h : EntsJ s n a e l) (hs : s.length < 1000000) : ShortE l := fun i hi => by have := h.short i hi; omega
end Go.Proofs
end
section
open Go Go.Proofs Go.Sx Go.StP
namespace Go.Proofs
set_option maxRecDepth 10000
set_option maxHeartbeats 400000
set_option linter.unusedSimpArgs false
/-! ### Entries, as the law reads them -/
theorem build_ent00 : buildV (plcT Tryd.prog 108) (zeroV Tryd.prog 108) [] = some (.agg (entC ent0).toArray) := by
  rw [Tryd.pc108, zrEnt]; rfl
def readE (s : List UInt8) : Option (List EntL) := if (entsE s).2.2 = 0 ∧ entsOk (entsE s).1 = true ∧ treeB (entsE s).1 = s then some (entsE s).1 else none
def ReadES (s : List UInt8) (v : Value) (D : Heap) : Prop :=
  match readE s with
  | some l => ∃ v1, v = .tuple #[v1, .bool true] ∧ Gr D 108 34 v1 l.length (l.map entC).flatten
  | none => v = .tuple #[.slice none 0 0, .bool false]
structure EnG where
  n : Nat
  a : Nat
  e : Int
  l : List EntL
  v : Value
  D : Heap
set_option linter.defProp false
def uOU_1 := And.intro (And.intro (And.intro (@load_rd0) (And.intro (@load_rd1) (@load_rd2))) (And.intro (@store_rd1) (And.intro (@store_rd2) (@load_ent)))) (And.intro (And.intro (@store_ent0) (And.intro (@store_ent1) (@store_ent2))) (And.intro (And.intro (@store_entr) (@cells_ent)) (And.intro (@rdIn_v8) (@rdIn_vi))))
theorem EntriesR_spec (s : List UInt8) (w : World) (hs : s.length < 100000) :
    Rets Tryd.prog 28 #[vs s] w (XS w [] (ReadES s)) := by
  refine Rets.enterX Tryd.func28 rfl (rs := [.tmp 2, .tmp 3]) Tryd.results28 Tryd.ntmps28 (fun p hp => by cases hp) (by simp [keys]) ?_
  simp only [List.size_toArray, List.length_cons, List.length_nil, Nat.reduceAdd, Nat.reduceSub, List.replicate_succ, List.replicate_zero, List.cons_append, List.nil_append]
  ((try with_reducible refine Cw.go [] ?_); (try simp (disch := (first | assumption | omega | (simp only [lenS, lenT, UInt64.reduceToNat]; try omega))) only [↓Sx.S0, Sx.S1, Tryd.fx, uOU_1, Nat.reduceAdd, Nat.reducePow, Int.reducePow, Nat.reduceBEq, ↓reduceIte, UInt8.reduceToNat, UInt16.reduceToNat, UInt32.reduceToNat, UInt64.reduceToNat, Int.reduceToNat]))
  refine Ow.build ((.agg #[vs s, vi 0, vi 0])) rfl (by kernel_rfl) ?_
  refine Ow.go rfl ?_
  simp (disch := (first | assumption | omega | (simp only [lenS, lenT, UInt64.reduceToNat]; try omega))) only [↓Sx.S0, Sx.S1, Tryd.fx, uOU_1, Nat.reduceAdd, Nat.reducePow, Int.reducePow, Nat.reduceBEq, ↓reduceIte, UInt8.reduceToNat, UInt16.reduceToNat, UInt32.reduceToNat, UInt64.reduceToNat, Int.reduceToNat]
  refine Ow.box rfl rfl fun br hbr hwr => ?_
  simp only [ev_tmp, getF_0, getF_s, cells_agg, List.nil_append]
  refine Ow.go rfl ?_
  simp (disch := (first | assumption | omega | (simp only [lenS, lenT, UInt64.reduceToNat]; try omega))) only [↓Sx.S0, Sx.S1, Tryd.fx, uOU_1, Nat.reduceAdd, Nat.reducePow, Int.reducePow, Nat.reduceBEq, ↓reduceIte, UInt8.reduceToNat, UInt16.reduceToNat, UInt32.reduceToNat, UInt64.reduceToNat, Int.reduceToNat]
  refine Cw.loopG (G := EnG) [10, 11, 12, 13, 14, 15, 16, 17, 18, 19, 20, 21, 22, 23, 24, 6, 25, 26, 27, 28, 29, 30, 31, 32, 33, 34, 35, 36, 37, 5] (fun q => [(5, q.v)]) (fun q => (br, .cells #[vs s, vi q.a, vi q.e] 90 (0, 0)) :: q.D) (fun q => EntsJ s q.n q.a q.e q.l ∧ New (br + 1) q.D ∧ Gr q.D 108 34 q.v q.l.length (q.l.map entC).flatten) (fun q => q.n) ⟨s.length + 1, 0, 0, [], .slice none 0 0, []⟩ rfl rfl ?_ ?_
  · exact ⟨EntsJ.init s, trivial, Gr.nl⟩
  · intro q jq hq
    simp only [overFrom, pin, setF_0, setF_s, List.contains_cons, List.contains_nil, Nat.reduceBEq, Bool.or_false, Bool.false_or, Bool.or_true, Bool.true_or, Nat.reduceAdd, ↓reduceIte, Bool.false_eq_true]
    obtain ⟨n, a, e, l, v, D⟩ := q
    simp only at hq ⊢
    obtain ⟨hJ, hN, hG⟩ := hq
    have hle := hJ.le
    by_cases hc : e = 0 ∧ a < s.length
    · obtain ⟨m, rfl, hJ'⟩ := hJ.next hc
      obtain ⟨he, hlt⟩ := hc
      have d1 : (e == 0) = true := by simp [he]
      have d2 : decide ((a : Int) < (s.length : Int)) = true := decide_eq_true (by omega)
      have hp := numR_le (e := e) (most := 2) hle
      have hq := textE_le (e := (numR s a e 2).2.2) (most := 32) hp.2
      have heq : entR s a e = (⟨(textR s (numR s a e 2).2.1 (numR s a e 2).2.2 32).1, (numR s a e 2).1, mkIdE (idR s (textR s (numR s a e 2).2.1 (numR s a e 2).2.2 32).2.1 (textR s (numR s a e 2).2.1 (numR s a e 2).2.2 32).2.2).1⟩, (idR s (textR s (numR s a e 2).2.1 (numR s a e 2).2.2 32).2.1 (textR s (numR s a e 2).2.1 (numR s a e 2).2.2 32).2.2).2) := rfl
      have hil := idE_len s (textR s (numR s a e 2).2.1 (numR s a e 2).2.2 32).2.1 (textR s (numR s a e 2).2.1 (numR s a e 2).2.2 32).2.2
      ((try with_reducible refine Cw.go [] ?_); (try simp (disch := (first | assumption | omega | (simp only [lenS, lenT, UInt64.reduceToNat]; try omega))) only [↓Sx.S0, Sx.S1, Tryd.fx, uOU_1, Nat.reduceAdd, Nat.reducePow, Int.reducePow, Nat.reduceBEq, ↓reduceIte, UInt8.reduceToNat, UInt16.reduceToNat, UInt32.reduceToNat, UInt64.reduceToNat, Int.reduceToNat, d1, d2]))
      refine Ow.build (.agg (entC ent0).toArray) rfl build_ent00 ?_
      refine Ow.go rfl ?_
      simp (disch := (first | assumption | omega | (simp only [lenS, lenT, UInt64.reduceToNat]; try omega))) only [↓Sx.S0, Sx.S1, Tryd.fx, uOU_1, Nat.reduceAdd, Nat.reducePow, Int.reducePow, Nat.reduceBEq, ↓reduceIte, UInt8.reduceToNat, UInt16.reduceToNat, UInt32.reduceToNat, UInt64.reduceToNat, Int.reduceToNat]
      refine Ow.alloc rfl rfl zrEnt fun b6 hb6 hw6 => ?_
      simp only [cells_agg, List.nil_append, List.cons_append]
      have hr6 : br < b6 := above_to hb6 (by simp [keys])
      refine Ow.permL (M := (b6, Obj.cells (entC ent0).toArray 108 (0, 0)) :: (br, .cells #[vs s, vi a, vi e] 90 (0, 0)) :: D) (by classical exact List.perm_iff_count.2 fun a => by simp only [List.count_append, List.count_cons, List.count_nil] <;> omega) ?_
      refine Ow.go rfl ?_
      simp (disch := (first | assumption | omega | (simp only [lenS, lenT, UInt64.reduceToNat]; try omega))) only [↓Sx.S0, Sx.S1, Tryd.fx, uOU_1, Nat.reduceAdd, Nat.reducePow, Int.reducePow, Nat.reduceBEq, ↓reduceIte, UInt8.reduceToNat, UInt16.reduceToNat, UInt32.reduceToNat, UInt64.reduceToNat, Int.reduceToNat]
      refine Ow.callM rfl rfl Tryd.call49 (by simp [keys]) (fun w' hw' => refNumber_spec br s a e 2 w' hle (by omega) (hw'.has _ _ (List.mem_cons_of_mem _ List.mem_cons_self))) ?_
      generalize numR s a e 2 = p at *
      obtain ⟨kd, a1, e1⟩ := p
      simp only at hp hq heq hil ⊢
      simp (disch := (first | assumption | omega | (simp only [lenS, lenT, UInt64.reduceToNat]; try omega))) only [setB_same, setB_other, List.cons_append, List.nil_append]
      refine Ow.go rfl ?_
      simp (disch := (first | assumption | omega | (simp only [lenS, lenT, UInt64.reduceToNat]; try omega))) only [↓Sx.S0, Sx.S1, Tryd.fx, uOU_1, Nat.reduceAdd, Nat.reducePow, Int.reducePow, Nat.reduceBEq, ↓reduceIte, UInt8.reduceToNat, UInt16.reduceToNat, UInt32.reduceToNat, UInt64.reduceToNat, Int.reduceToNat]
      ((try with_reducible refine Cw.go [] ?_); (try simp (disch := (first | assumption | omega | (simp only [lenS, lenT, UInt64.reduceToNat]; try omega))) only [↓Sx.S0, Sx.S1, Tryd.fx, uOU_1, Nat.reduceAdd, Nat.reducePow, Int.reducePow, Nat.reduceBEq, ↓reduceIte, UInt8.reduceToNat, UInt16.reduceToNat, UInt32.reduceToNat, UInt64.reduceToNat, Int.reduceToNat]))
      refine Ow.callM rfl rfl Tryd.call50 (by simp [keys]) (fun w' hw' => refText_spec br s a1 e1 32 w' hp.2 (by omega) (hw'.has _ _ (List.mem_cons_of_mem _ List.mem_cons_self))) ?_
      generalize textR s a1 e1 32 = q at *
      obtain ⟨tt, a2, e2⟩ := q
      simp only at hq heq hil ⊢
      simp (disch := (first | assumption | omega | (simp only [lenS, lenT, UInt64.reduceToNat]; try omega))) only [setB_same, setB_other, List.cons_append, List.nil_append]
      refine Ow.go rfl ?_
      simp (disch := (first | assumption | omega | (simp only [lenS, lenT, UInt64.reduceToNat]; try omega))) only [↓Sx.S0, Sx.S1, Tryd.fx, uOU_1, Nat.reduceAdd, Nat.reducePow, Int.reducePow, Nat.reduceBEq, ↓reduceIte, UInt8.reduceToNat, UInt16.reduceToNat, UInt32.reduceToNat, UInt64.reduceToNat, Int.reduceToNat]
      ((try with_reducible refine Cw.go [] ?_); (try simp (disch := (first | assumption | omega | (simp only [lenS, lenT, UInt64.reduceToNat]; try omega))) only [↓Sx.S0, Sx.S1, Tryd.fx, uOU_1, Nat.reduceAdd, Nat.reducePow, Int.reducePow, Nat.reduceBEq, ↓reduceIte, UInt8.reduceToNat, UInt16.reduceToNat, UInt32.reduceToNat, UInt64.reduceToNat, Int.reduceToNat]))
      refine Ow.callM rfl rfl Tryd.call51 (by simp [keys]) (fun w' hw' => refId_spec br s a2 e2 w' hq.2 (by omega) (hw'.has _ _ (List.mem_cons_of_mem _ List.mem_cons_self))) ?_
      generalize idR s a2 e2 = i at *
      obtain ⟨il, a3, e3⟩ := i
      simp only at heq hil ⊢
      obtain ⟨I, hI⟩ : ∃ I, mkIdE il = I := ⟨_, rfl⟩
      have hiI : il = I.l := by rw [← hI, mkIdE_eq hil]
      rw [hI] at heq
      rw [hiI]
      simp (disch := (first | assumption | omega | (simp only [lenS, lenT, UInt64.reduceToNat]; try omega))) only [setB_same, setB_other, List.cons_append, List.nil_append]
      refine Ow.go rfl ?_
      simp (disch := (first | assumption | omega | (simp only [lenS, lenT, UInt64.reduceToNat]; try omega))) only [↓Sx.S0, Sx.S1, Tryd.fx, uOU_1, Nat.reduceAdd, Nat.reducePow, Int.reducePow, Nat.reduceBEq, ↓reduceIte, UInt8.reduceToNat, UInt16.reduceToNat, UInt32.reduceToNat, UInt64.reduceToNat, Int.reduceToNat]
      generalize hx : ({ name := tt, kind := kd, id := I } : EntL) = x
      rw [hx] at heq
      rw [heq] at hJ'
      refine Ow.buildSlice (e := 108) (entC x).toArray rfl rfl (slice_one Tryd.underlying49 aggEnt zrEnt (by decide) (entC_len x)) fun b13 hb13 hw13 => ?_
      have hr13 : br < b13 := above_to hb13 (by simp [keys])
      refine Ow.permL (M := D ++ ((b6, Obj.cells (entC x).toArray 108 (0, 0)) :: (br, .cells #[vs s, vi a3, vi e3] 90 (0, 0)) :: [(b13, Obj.cells (entC x).toArray 108 (0, 0))])) (by classical exact List.perm_iff_count.2 fun a => by simp only [List.count_append, List.count_cons, List.count_nil] <;> omega) ?_
      refine Ow.go rfl ?_
      simp (disch := (first | assumption | omega | (simp only [lenS, lenT, UInt64.reduceToNat]; try omega))) only [↓Sx.S0, Sx.S1, Tryd.fx, uOU_1, Nat.reduceAdd, Nat.reducePow, Int.reducePow, Nat.reduceBEq, ↓reduceIte, UInt8.reduceToNat, UInt16.reduceToNat, UInt32.reduceToNat, UInt64.reduceToNat, Int.reduceToNat]
      refine Ow.appendX (e := 108) (k := 1) (new := entC x) (X := D) v rfl rfl rfl rfl Tryd.underlying49 aggEnt (by kernel_rfl) zrEnt (by rw [cells_ent, List.size_toArray, entC_len]) Tryd.underlying49 (by intro k h; cases h) hG (fun w' hw' => AppX.one1 (hw'.has b13 (.cells (entC x).toArray 108 (0, 0)) (by simp)) (entC_len _) (entC_one _)) (by omega) (by have := hJ.cnt; omega) (fun B v4 D4 hA4 hB4 hbuf hk1 hk2 hlk => ?_)
      have hB13 : b13 < B := above_to hA4 (by simp [keys_app, keys])
      have hN4 : New (br + 1) D4 := New.of_le fun q hq => by
        rcases hk2 q hq with h | h
        · exact hN.le q h
        · omega
      refine Ow.permL (M := (br, .cells #[vs s, vi a3, vi e3] 90 (0, 0)) :: (D4 ++ [(b6, Obj.cells (entC x).toArray 108 (0, 0)), (b13, Obj.cells (entC x).toArray 108 (0, 0))])) (by classical exact List.perm_iff_count.2 fun a => by simp only [List.count_append, List.count_cons, List.count_nil] <;> omega) ?_
      refine Ow.go rfl ?_
      simp (disch := (first | assumption | omega | (simp only [lenS, lenT, UInt64.reduceToNat]; try omega))) only [↓Sx.S0, Sx.S1, Tryd.fx, uOU_1, Nat.reduceAdd, Nat.reducePow, Int.reducePow, Nat.reduceBEq, ↓reduceIte, UInt8.reduceToNat, UInt16.reduceToNat, UInt32.reduceToNat, UInt64.reduceToNat, Int.reduceToNat]
      refine Again.mk (EnG.mk m a3 e3 (l ++ [x]) v4 (D4 ++ [(b6, Obj.cells (entC x).toArray 108 (0, 0)), (b13, Obj.cells (entC x).toArray 108 (0, 0))])) (by show m < m + 1; omega) ⟨hJ', hN4.app ⟨by omega, by omega, trivial⟩, ?_⟩ rfl rfl
      show Gr _ _ _ _ (l ++ [x]).length ((l ++ [x]).map entC).flatten
      rw [List.length_append, List.map_append, List.flatten_append, show ([x].map entC).flatten = entC x by simp]
      exact Gr.app (.inl hbuf)
    · have hd := hJ.done hc
      have hsh := hJ.sh (by omega)
      have hcn := hJ.cnt
      have hR : readE s = if e = 0 ∧ entsOk l = true ∧ treeB l = s then some l else none := by unfold readE; rw [hd]
      unfold ReadES
      rw [hR]
      have hNe : New w.heap.size ((br, Obj.cells #[vs s, vi a, vi e] 90 (0, 0)) :: D) := ⟨hwr, New.mono (by omega) hN⟩
      by_cases he : e = 0
      · have d1 : (e == 0) = true := by simp [he]
        have d2 : decide ((a : Int) < (s.length : Int)) = false := decide_eq_false (by omega)
        have hend : (if e ≠ 0 then e else if (a : Int) < (s.length : Int) then 5 else 0) = (0 : Int) := by rw [if_neg (by simp [he]), if_neg (by omega)]
        ((try with_reducible refine Cw.go [] ?_); (try simp (disch := (first | assumption | omega | (simp only [lenS, lenT, UInt64.reduceToNat]; try omega))) only [↓Sx.S0, Sx.S1, Tryd.fx, uOU_1, Nat.reduceAdd, Nat.reducePow, Int.reducePow, Nat.reduceBEq, ↓reduceIte, UInt8.reduceToNat, UInt16.reduceToNat, UInt32.reduceToNat, UInt64.reduceToNat, Int.reduceToNat, d1, d2]))
        refine Ow.callFV rfl Tryd.call52 (fun w' hw' => refEnd_spec br s a e w' (hw'.has _ _ (by simp))) ?_
        rw [hend]
        have d4 : ((0 : Int) != 0) = false := rfl
        refine Ow.go rfl ?_
        simp (disch := (first | assumption | omega | (simp only [lenS, lenT, UInt64.reduceToNat]; try omega))) only [↓Sx.S0, Sx.S1, Tryd.fx, uOU_1, Nat.reduceAdd, Nat.reducePow, Int.reducePow, Nat.reduceBEq, ↓reduceIte, UInt8.reduceToNat, UInt16.reduceToNat, UInt32.reduceToNat, UInt64.reduceToNat, Int.reduceToNat, d4]
        refine Ow.callFV rfl Tryd.call68 (fun w' hw' => TreeRight_spec v l w' (hG.slM (fun b o hm => hw'.has b o (by simp [hm])) rfl rfl entC_len) (by omega) hsh) ?_
        cases hr : entsOk l
        · rw [if_neg (by simp)]
          refine Ow.go rfl ?_
          simp (disch := (first | assumption | omega | (simp only [lenS, lenT, UInt64.reduceToNat]; try omega))) only [↓Sx.S0, Sx.S1, Tryd.fx, uOU_1, Nat.reduceAdd, Nat.reducePow, Int.reducePow, Nat.reduceBEq, ↓reduceIte, UInt8.reduceToNat, UInt16.reduceToNat, UInt32.reduceToNat, UInt64.reduceToNat, Int.reduceToNat]
          ((try with_reducible refine Cw.go [] ?_); (try simp (disch := (first | assumption | omega | (simp only [lenS, lenT, UInt64.reduceToNat]; try omega))) only [↓Sx.S0, Sx.S1, Tryd.fx, uOU_1, Nat.reduceAdd, Nat.reducePow, Int.reducePow, Nat.reduceBEq, ↓reduceIte, UInt8.reduceToNat, UInt16.reduceToNat, UInt32.reduceToNat, UInt64.reduceToNat, Int.reduceToNat]))
          refine ⟨_, (by simp (disch := (first | assumption | omega | (simp only [lenS, lenT, UInt64.reduceToNat]; try omega))) only [↓Sx.S0, Sx.S1, Tryd.fx, uOU_1, Nat.reduceAdd, Nat.reducePow, Int.reducePow, Nat.reduceBEq, ↓reduceIte, UInt8.reduceToNat, UInt16.reduceToNat, UInt32.reduceToNat, UInt64.reduceToNat, Int.reduceToNat]; rfl), ?_⟩
          exact ⟨Ext.of_new hNe, rfl⟩
        · refine Ow.go rfl ?_
          simp (disch := (first | assumption | omega | (simp only [lenS, lenT, UInt64.reduceToNat]; try omega))) only [↓Sx.S0, Sx.S1, Tryd.fx, uOU_1, Nat.reduceAdd, Nat.reducePow, Int.reducePow, Nat.reduceBEq, ↓reduceIte, UInt8.reduceToNat, UInt16.reduceToNat, UInt32.reduceToNat, UInt64.reduceToNat, Int.reduceToNat]
          refine Ow.callFV rfl Tryd.call69 (fun w' hw' => TreeBody_spec v l w' (hG.slM (fun b o hm => hw'.has b o (by simp [hm])) rfl rfl entC_len) (by omega) hsh) ?_
          by_cases hb : treeB l = s
          · have d3 : (treeB l != s) = false := by simp [hb]
            rw [if_pos ⟨he, rfl, hb⟩]
            refine Ow.go rfl ?_
            simp (disch := (first | assumption | omega | (simp only [lenS, lenT, UInt64.reduceToNat]; try omega))) only [↓Sx.S0, Sx.S1, Tryd.fx, uOU_1, Nat.reduceAdd, Nat.reducePow, Int.reducePow, Nat.reduceBEq, ↓reduceIte, UInt8.reduceToNat, UInt16.reduceToNat, UInt32.reduceToNat, UInt64.reduceToNat, Int.reduceToNat, d3]
            ((try with_reducible refine Cw.go [] ?_); (try simp (disch := (first | assumption | omega | (simp only [lenS, lenT, UInt64.reduceToNat]; try omega))) only [↓Sx.S0, Sx.S1, Tryd.fx, uOU_1, Nat.reduceAdd, Nat.reducePow, Int.reducePow, Nat.reduceBEq, ↓reduceIte, UInt8.reduceToNat, UInt16.reduceToNat, UInt32.reduceToNat, UInt64.reduceToNat, Int.reduceToNat]))
            refine ⟨_, (by simp (disch := (first | assumption | omega | (simp only [lenS, lenT, UInt64.reduceToNat]; try omega))) only [↓Sx.S0, Sx.S1, Tryd.fx, uOU_1, Nat.reduceAdd, Nat.reducePow, Int.reducePow, Nat.reduceBEq, ↓reduceIte, UInt8.reduceToNat, UInt16.reduceToNat, UInt32.reduceToNat, UInt64.reduceToNat, Int.reduceToNat]; rfl), ?_⟩
            exact ⟨Ext.of_new hNe, v, rfl, hG.keep fun b o hb ho => by rw [Sx.look, if_neg (by have := hN.le b (key_of_look ho); omega)]; exact ho⟩
          · have d3 : (treeB l != s) = true := by simp [hb]
            rw [if_neg (fun h => hb h.2.2)]
            refine Ow.go rfl ?_
            simp (disch := (first | assumption | omega | (simp only [lenS, lenT, UInt64.reduceToNat]; try omega))) only [↓Sx.S0, Sx.S1, Tryd.fx, uOU_1, Nat.reduceAdd, Nat.reducePow, Int.reducePow, Nat.reduceBEq, ↓reduceIte, UInt8.reduceToNat, UInt16.reduceToNat, UInt32.reduceToNat, UInt64.reduceToNat, Int.reduceToNat, d3]
            ((try with_reducible refine Cw.go [] ?_); (try simp (disch := (first | assumption | omega | (simp only [lenS, lenT, UInt64.reduceToNat]; try omega))) only [↓Sx.S0, Sx.S1, Tryd.fx, uOU_1, Nat.reduceAdd, Nat.reducePow, Int.reducePow, Nat.reduceBEq, ↓reduceIte, UInt8.reduceToNat, UInt16.reduceToNat, UInt32.reduceToNat, UInt64.reduceToNat, Int.reduceToNat]))
            refine ⟨_, (by simp (disch := (first | assumption | omega | (simp only [lenS, lenT, UInt64.reduceToNat]; try omega))) only [↓Sx.S0, Sx.S1, Tryd.fx, uOU_1, Nat.reduceAdd, Nat.reducePow, Int.reducePow, Nat.reduceBEq, ↓reduceIte, UInt8.reduceToNat, UInt16.reduceToNat, UInt32.reduceToNat, UInt64.reduceToNat, Int.reduceToNat]; rfl), ?_⟩
            exact ⟨Ext.of_new hNe, rfl⟩
      · have d1 : (e == 0) = false := by simp [he]
        have d3 : (e != 0) = true := by simp [he]
        have hend : (if e ≠ 0 then e else if (a : Int) < (s.length : Int) then 5 else 0) = e := by rw [if_pos he]
        rw [if_neg (fun h => he h.1)]
        ((try with_reducible refine Cw.go [] ?_); (try simp (disch := (first | assumption | omega | (simp only [lenS, lenT, UInt64.reduceToNat]; try omega))) only [↓Sx.S0, Sx.S1, Tryd.fx, uOU_1, Nat.reduceAdd, Nat.reducePow, Int.reducePow, Nat.reduceBEq, ↓reduceIte, UInt8.reduceToNat, UInt16.reduceToNat, UInt32.reduceToNat, UInt64.reduceToNat, Int.reduceToNat, d1]))
        refine Ow.callFV rfl Tryd.call52 (fun w' hw' => refEnd_spec br s a e w' (hw'.has _ _ (by simp))) ?_
        rw [hend]
        refine Ow.go rfl ?_
        simp (disch := (first | assumption | omega | (simp only [lenS, lenT, UInt64.reduceToNat]; try omega))) only [↓Sx.S0, Sx.S1, Tryd.fx, uOU_1, Nat.reduceAdd, Nat.reducePow, Int.reducePow, Nat.reduceBEq, ↓reduceIte, UInt8.reduceToNat, UInt16.reduceToNat, UInt32.reduceToNat, UInt64.reduceToNat, Int.reduceToNat, d3]
        ((try with_reducible refine Cw.go [] ?_); (try simp (disch := (first | assumption | omega | (simp only [lenS, lenT, UInt64.reduceToNat]; try omega))) only [↓Sx.S0, Sx.S1, Tryd.fx, uOU_1, Nat.reduceAdd, Nat.reducePow, Int.reducePow, Nat.reduceBEq, ↓reduceIte, UInt8.reduceToNat, UInt16.reduceToNat, UInt32.reduceToNat, UInt64.reduceToNat, Int.reduceToNat]))
        refine ⟨_, (by simp (disch := (first | assumption | omega | (simp only [lenS, lenT, UInt64.reduceToNat]; try omega))) only [↓Sx.S0, Sx.S1, Tryd.fx, uOU_1, Nat.reduceAdd, Nat.reducePow, Int.reducePow, Nat.reduceBEq, ↓reduceIte, UInt8.reduceToNat, UInt16.reduceToNat, UInt32.reduceToNat, UInt64.reduceToNat, Int.reduceToNat]; rfl), ?_⟩
        exact ⟨Ext.of_new hNe, rfl⟩
end Go.Proofs
end
section
open Go Go.Proofs Go.Sx Go.StP
namespace Go.Proofs
set_option maxRecDepth 10000
set_option maxHeartbeats 400000
set_option linter.unusedSimpArgs false
/-! ### Commits, read -/
theorem numGo_mostE (most : Int) : ∀ (l : List UInt8) (k n m k' : Nat), numGo most l k n = .ok (m, k') → (m : Int) ≤ most
  | [], _, _, _, _, h => by simp [numGo] at h
  | c :: r, k, n, m, k', h => by
    unfold numGo at h
    split at h
    · split at h
      · cases h
      · exact numGo_mostE most r _ _ _ _ h
    · split at h
      · cases h
      · split at h
        · rename_i hh
          cases h
          exact hh.2
        · cases h
theorem numR_mostE {s : List UInt8} {a : Nat} {e most : Int} (h0 : 0 ≤ most) : 0 ≤ (numR s a e most).1 ∧ (numR s a e most).1 ≤ most := by
  unfold numR
  split
  · exact ⟨Int.le_refl 0, h0⟩
  · split
    · rename_i n k h
      exact ⟨Int.natCast_nonneg _, numGo_mostE most _ _ _ _ _ h⟩
    · exact ⟨Int.le_refl 0, h0⟩
def idsGo (s : List UInt8) (a : Nat) (e : Int) : Nat → List IdL × Nat × Int
  | 0 => ([], a, e)
  | n + 1 => let p := idsGo s a e n; let i := idR s p.2.1 p.2.2; (p.1 ++ [mkIdE i.1], i.2)
theorem idsGo_len (s : List UInt8) (a : Nat) (e : Int) : ∀ n, (idsGo s a e n).1.length = n
  | 0 => rfl
  | n + 1 => by simp only [idsGo, List.length_append, List.length_cons, List.length_nil, idsGo_len s a e n]
theorem idsGo_le {s : List UInt8} {a : Nat} {e : Int} (ha : a ≤ s.length) : ∀ n, (idsGo s a e n).2.1 ≤ s.length
  | 0 => ha
  | n + 1 => (idE_le (idsGo_le ha n)).2
/-- The reader behind the first id, behind the number; a commit. -/
def comN (s : List UInt8) : Int × Nat × Int := numR s (idR s 0 0).2.1 (idR s 0 0).2.2 4
def comP (s : List UInt8) : List IdL × Nat × Int := idsGo s (comN s).2.1 (comN s).2.2 (comN s).1.toNat
def comT (s : List UInt8) : List UInt8 × Nat × Int := textR s (comP s).2.1 (comP s).2.2 64
def comE (s : List UInt8) : ComL × Nat × Int := (⟨mkIdE (idR s 0 0).1, (comP s).1, (comT s).1⟩, (comT s).2)
/-- The end of what is read. -/
def endE (s : List UInt8) (a : Nat) (e : Int) : Int := if e ≠ 0 then e else if (a : Int) < (s.length : Int) then 5 else 0
def readC (s : List UInt8) : Option ComL := if endE s (comE s).2.1 (comE s).2.2 = 0 ∧ comOk (comE s).1 = true ∧ comB (comE s).1 = s then some (comE s).1 else none
theorem comE_par (s : List UInt8) : (comE s).1.par.length ≤ 4 := by
  show (comP s).1.length ≤ 4
  unfold comP
  rw [idsGo_len]
  have := numR_mostE (s := s) (a := (idR s 0 0).2.1) (e := (idR s 0 0).2.2) (most := 4) (by decide)
  unfold comN
  omega
/-! ### The cells of a commit -/
theorem store_com0 (t x : IdL) (p : Value) (y : List UInt8) (a : Bool) (E : TypeId) : storeV (some (a, 32)) (some (.cells (comC t p y).toArray E (0, 0))) 0 (.agg (a8 x.l)) = some (.cells (comC x p y).toArray E (0, 0)) :=
  store_mid [] _ _ _ a _ E rfl (by simp [t.h]) (cells_agg _) (by simp [x.h]) (all_v8 _)
theorem store_com1 (t : IdL) (p q : Value) (y : List UInt8) (a : Bool) (E : TypeId) (hq : Value.oneCell' q = true ∧ q.cells = #[q]) : storeV (some (a, 1)) (some (.cells (comC t p y).toArray E (0, 0))) 32 q = some (.cells (comC t q y).toArray E (0, 0)) :=
  store_mid (t.l.map v8) [p] [q] [vs y] a _ E (by simp [t.h]) rfl hq.2 rfl (by simp [hq.1])
theorem store_com2 (t : IdL) (p : Value) (y z : List UInt8) (a : Bool) (E : TypeId) : storeV (some (a, 1)) (some (.cells (comC t p y).toArray E (0, 0))) 33 (vs z) = some (.cells (comC t p z).toArray E (0, 0)) := by
  have e : ∀ y, comC t p y = (t.l.map v8 ++ [p]) ++ ([vs y] ++ []) := fun y => by unfold comC; simp only [List.append_assoc, List.append_nil]
  rw [e, e]; exact store_mid _ _ _ _ a _ E (by simp [t.h]) rfl rfl rfl rfl
theorem zrCom : zeroV Tryd.prog 54 = some (.agg (comC id0 (.slice none 0 0) []).toArray) := id (by kernel_rfl)
theorem build_com0 : buildV (plcT Tryd.prog 54) (zeroV Tryd.prog 54) [] = some (.agg (comC id0 (.slice none 0 0) []).toArray) := by
  rw [Tryd.pc54, zrCom]; rfl
theorem aggIdE : aggT Tryd.prog 40 = some (true, 32) := id (by kernel_rfl)
theorem zrIdE : zeroV Tryd.prog 40 = some (.agg (a8 id0.l)) := id (by kernel_rfl)
end Go.Proofs
end
section
open Go Go.Proofs Go.Sx Go.StP
namespace Go.Proofs
set_option maxRecDepth 10000
set_option maxHeartbeats 400000
set_option linter.unusedSimpArgs false
theorem setB_appE {b : Nat} {x : Obj} : ∀ {D L : Heap}, b ∉ keys D → setB (D ++ L) b x = D ++ setB L b x
  | [], _, _ => rfl
  | (c, y) :: r, L, h => by
    simp only [keys, List.map_cons, List.mem_cons, not_or] at h
    rw [List.cons_append, setB_other _ _ _ _ _ (Ne.symm h.1), setB_appE (by simpa [keys] using h.2)]; rfl
def ReadCS (s : List UInt8) (v : Value) (D : Heap) : Prop :=
  match readC s with
  | some c => ∃ p, v = .tuple #[.agg (comC c.tree p c.text).toArray, .bool true] ∧ Gr D 40 32 p c.par.length (c.par.map idLC).flatten
  | none => v = .tuple #[.agg (comC id0 (.slice none 0 0) []).toArray, .bool false]
theorem refEndE_spec (b : Nat) (s : List UInt8) (a : Nat) (e : Int) (w : World) (ho : w.heap[b]? = some (.cells #[vs s, vi a, vi e] 90 (0, 0))) :
    Rets Tryd.prog 52 #[vp b 0] w (fun v D => v = vi (endE s a e) ∧ D = []) := refEnd_spec b s a e w ho
structure CmG where
  g : Nat
  v : Value
  D : Heap
set_option linter.defProp false
def uOW_1 := And.intro (And.intro (And.intro (@load_rd0) (And.intro (@load_rd1) (@load_rd2))) (And.intro (And.intro (@store_rd1) (@store_rd2)) (And.intro (@load_com0) (@load_com1)))) (And.intro (And.intro (@load_com2) (And.intro (@load_com) (@cells_com))) (And.intro (And.intro (@store_com0) (@store_com2)) (And.intro (@rdIn_v8) (@rdIn_vi))))
theorem CommitRd_spec (s : List UInt8) (w : World) (hs : s.length < 100000) :
    Rets Tryd.prog 30 #[vs s] w (XS w [] (ReadCS s)) := by
  refine Rets.enterX Tryd.func30 rfl (rs := [.cell 2 54, .tmp 3]) Tryd.results30 Tryd.ntmps30 (fun p hp => by cases hp) (by simp [keys]) ?_
  simp only [List.size_toArray, List.length_cons, List.length_nil, Nat.reduceAdd, Nat.reduceSub, List.replicate_succ, List.replicate_zero, List.cons_append, List.nil_append]
  ((try with_reducible refine Cw.go [] ?_); (try simp (disch := (first | assumption | omega | (simp only [lenS, lenT, UInt64.reduceToNat]; try omega))) only [↓Sx.S0, Sx.S1, Tryd.fx, uOW_1, Nat.reduceAdd, Nat.reducePow, Int.reducePow, Nat.reduceBEq, ↓reduceIte, UInt8.reduceToNat, UInt16.reduceToNat, UInt32.reduceToNat, UInt64.reduceToNat, Int.reduceToNat]))
  refine Ow.alloc rfl rfl zrCom fun b2 hb2 hw2 => ?_
  simp only [cells_agg, List.nil_append, List.cons_append]
  refine Ow.go rfl ?_
  simp (disch := (first | assumption | omega | (simp only [lenS, lenT, UInt64.reduceToNat]; try omega))) only [↓Sx.S0, Sx.S1, Tryd.fx, uOW_1, Nat.reduceAdd, Nat.reducePow, Int.reducePow, Nat.reduceBEq, ↓reduceIte, UInt8.reduceToNat, UInt16.reduceToNat, UInt32.reduceToNat, UInt64.reduceToNat, Int.reduceToNat]
  refine Ow.build ((.agg #[vs s, vi 0, vi 0])) rfl (by kernel_rfl) ?_
  refine Ow.go rfl ?_
  simp (disch := (first | assumption | omega | (simp only [lenS, lenT, UInt64.reduceToNat]; try omega))) only [↓Sx.S0, Sx.S1, Tryd.fx, uOW_1, Nat.reduceAdd, Nat.reducePow, Int.reducePow, Nat.reduceBEq, ↓reduceIte, UInt8.reduceToNat, UInt16.reduceToNat, UInt32.reduceToNat, UInt64.reduceToNat, Int.reduceToNat]
  refine Ow.box rfl rfl fun br hbr hwr => ?_
  have h2r : b2 < br := above_to hbr (by simp [keys])
  simp only [ev_tmp, getF_0, getF_s, cells_agg, List.nil_append, List.cons_append]
  refine Ow.go rfl ?_
  simp (disch := (first | assumption | omega | (simp only [lenS, lenT, UInt64.reduceToNat]; try omega))) only [↓Sx.S0, Sx.S1, Tryd.fx, uOW_1, Nat.reduceAdd, Nat.reducePow, Int.reducePow, Nat.reduceBEq, ↓reduceIte, UInt8.reduceToNat, UInt16.reduceToNat, UInt32.reduceToNat, UInt64.reduceToNat, Int.reduceToNat]
  refine Ow.build (.agg (comC id0 (.slice none 0 0) []).toArray) rfl build_com0 ?_
  refine Ow.go rfl ?_
  simp (disch := (first | assumption | omega | (simp only [lenS, lenT, UInt64.reduceToNat]; try omega))) only [↓Sx.S0, Sx.S1, Tryd.fx, uOW_1, Nat.reduceAdd, Nat.reducePow, Int.reducePow, Nat.reduceBEq, ↓reduceIte, UInt8.reduceToNat, UInt16.reduceToNat, UInt32.reduceToNat, UInt64.reduceToNat, Int.reduceToNat]
  refine Ow.alloc rfl rfl zrCom fun b5 hb5 hw5 => ?_
  simp only [cells_agg, List.nil_append, List.cons_append]
  have h25 : b2 < b5 := above_to hb5 (by simp [keys])
  have hr5 : br < b5 := above_to hb5 (by simp [keys])
  have st5 : ∀ a E, storeV (some (a, 34)) (some (.cells (comC id0 (.slice none 0 0) []).toArray E (0, 0))) 0 (.agg (comC id0 (.slice none 0 0) []).toArray) = some (.cells (comC id0 (.slice none 0 0) []).toArray E (0, 0)) := fun a E => store_com _ _ _ _ a E (by rw [List.size_toArray, comC_len]) rfl
  refine Ow.go rfl ?_
  simp (disch := (first | assumption | omega | (simp only [lenS, lenT, UInt64.reduceToNat]; try omega))) only [↓Sx.S0, Sx.S1, Tryd.fx, uOW_1, Nat.reduceAdd, Nat.reducePow, Int.reducePow, Nat.reduceBEq, ↓reduceIte, UInt8.reduceToNat, UInt16.reduceToNat, UInt32.reduceToNat, UInt64.reduceToNat, Int.reduceToNat, st5]
  refine Ow.callM rfl rfl Tryd.call51 (by simp [keys]) (fun w' hw' => refId_spec br s 0 0 w' (Nat.zero_le _) (by omega) (hw'.has _ _ (List.mem_cons_of_mem _ List.mem_cons_self))) ?_
  have ip := idE_le (s := s) (a := 0) (e := 0) (Nat.zero_le _)
  have np := numR_le (e := (idR s 0 0).2.2) (most := 4) ip.2
  have nm := numR_mostE (s := s) (a := (idR s 0 0).2.1) (e := (idR s 0 0).2.2) (most := 4) (by decide)
  obtain ⟨T, hT⟩ : ∃ T, mkIdE (idR s 0 0).1 = T := ⟨_, rfl⟩
  have hiT : (idR s 0 0).1 = T.l := by rw [← hT, mkIdE_eq (idE_len s 0 0)]
  have hcE : comE s = (⟨T, (comP s).1, (comT s).1⟩, (comT s).2) := by unfold comE; rw [hT]
  rw [hiT]
  simp (disch := (first | assumption | omega | (simp only [lenS, lenT, UInt64.reduceToNat]; try omega))) only [setB_same, setB_other, List.cons_append, List.nil_append]
  refine Ow.go rfl ?_
  simp (disch := (first | assumption | omega | (simp only [lenS, lenT, UInt64.reduceToNat]; try omega))) only [↓Sx.S0, Sx.S1, Tryd.fx, uOW_1, Nat.reduceAdd, Nat.reducePow, Int.reducePow, Nat.reduceBEq, ↓reduceIte, UInt8.reduceToNat, UInt16.reduceToNat, UInt32.reduceToNat, UInt64.reduceToNat, Int.reduceToNat]
  refine Ow.callM rfl rfl Tryd.call49 (by simp [keys]) (fun w' hw' => refNumber_spec br s _ _ 4 w' ip.2 (by omega) (hw'.has _ _ (List.mem_cons_of_mem _ List.mem_cons_self))) ?_
  have hP : comP s = idsGo s (numR s (idR s 0 0).2.1 (idR s 0 0).2.2 4).2.1 (numR s (idR s 0 0).2.1 (idR s 0 0).2.2 4).2.2 (numR s (idR s 0 0).2.1 (idR s 0 0).2.2 4).1.toNat := rfl
  generalize numR s (idR s 0 0).2.1 (idR s 0 0).2.2 4 = nr at *
  obtain ⟨cn, na, ne⟩ := nr
  simp only at np nm hP ⊢
  obtain ⟨k, rfl⟩ := Int.eq_ofNat_of_zero_le nm.1
  rw [Int.toNat_natCast] at hP
  simp (disch := (first | assumption | omega | (simp only [lenS, lenT, UInt64.reduceToNat]; try omega))) only [setB_same, setB_other, List.cons_append, List.nil_append]
  refine Ow.go rfl ?_
  simp (disch := (first | assumption | omega | (simp only [lenS, lenT, UInt64.reduceToNat]; try omega))) only [↓Sx.S0, Sx.S1, Tryd.fx, uOW_1, Nat.reduceAdd, Nat.reducePow, Int.reducePow, Nat.reduceBEq, ↓reduceIte, UInt8.reduceToNat, UInt16.reduceToNat, UInt32.reduceToNat, UInt64.reduceToNat, Int.reduceToNat]
  refine Cw.permL (M := (b5, .cells (comC T (.slice none 0 0) []).toArray 54 (0, 0)) :: (br, .cells #[vs s, vi na, vi ne] 90 (0, 0)) :: (b2, .cells (comC id0 (.slice none 0 0) []).toArray 54 (0, 0)) :: []) (by classical exact List.perm_iff_count.2 fun a => by simp only [List.count_append, List.count_cons, List.count_nil] <;> omega) ?_
  refine Cw.loopG (G := CmG) [17, 18, 19, 22, 23, 24, 25, 26, 27, 28, 20, 21, 7] (fun q => [(7, vi q.g)]) (fun q => (b5, .cells (comC T q.v []).toArray 54 (0, 0)) :: (br, .cells #[vs s, vi (idsGo s na ne q.g).2.1, vi (idsGo s na ne q.g).2.2] 90 (0, 0)) :: (b2, .cells (comC id0 (.slice none 0 0) []).toArray 54 (0, 0)) :: q.D) (fun q => q.g ≤ k ∧ New (b5 + 1) q.D ∧ Gr q.D 40 32 q.v q.g ((idsGo s na ne q.g).1.map idLC).flatten) (fun q => k - q.g) ⟨0, .slice none 0 0, []⟩ rfl rfl ?_ ?_
  · exact ⟨Nat.zero_le _, trivial, Gr.nl⟩
  · intro q jq hq
    simp only [overFrom, pin, setF_0, setF_s, List.contains_cons, List.contains_nil, Nat.reduceBEq, Bool.or_false, Bool.false_or, Bool.or_true, Bool.true_or, Nat.reduceAdd, ↓reduceIte, Bool.false_eq_true]
    obtain ⟨g, v, D⟩ := q
    simp only at hq ⊢
    obtain ⟨hgk, hN, hG⟩ := hq
    have gle := idsGo_le (e := ne) np.2 g
    by_cases hlt : g < k
    · have hgs : idsGo s na ne (g + 1) = ((idsGo s na ne g).1 ++ [mkIdE (idR s (idsGo s na ne g).2.1 (idsGo s na ne g).2.2).1], (idR s (idsGo s na ne g).2.1 (idsGo s na ne g).2.2).2) := rfl
      ((try with_reducible refine Cw.go [7] ?_); (try simp (disch := (first | assumption | omega | (simp only [lenS, lenT, UInt64.reduceToNat]; try omega))) only [↓Sx.S0, Sx.S1, Tryd.fx, uOW_1, Nat.reduceAdd, Nat.reducePow, Int.reducePow, Nat.reduceBEq, ↓reduceIte, UInt8.reduceToNat, UInt16.reduceToNat, UInt32.reduceToNat, UInt64.reduceToNat, Int.reduceToNat]))
      refine Cw.regionS [b5] [0, 2, 1, 3, 4, 5, 6, 7] [7] (by kernel_rfl) (by kernel_rfl) (by kernel_rfl) ?_
      simp only [nl_cons, ↓pickL_nil, ↓pickL_cons, ↓nthO_0, ↓nthO_s, consO_some]
      refine Ow.goQ ?_
      simp (disch := (first | assumption | omega | (simp only [lenS, lenT, UInt64.reduceToNat]; try omega))) only [↓Sx.S0, Sx.S1, Tryd.fx, uOW_1, Nat.reduceAdd, Nat.reducePow, Int.reducePow, Nat.reduceBEq, ↓reduceIte, UInt8.reduceToNat, UInt16.reduceToNat, UInt32.reduceToNat, UInt64.reduceToNat, Int.reduceToNat]
      refine Ow.soft rfl rfl rfl ?_
      refine Ow.callM rfl rfl Tryd.call51 (by simp [keys]) (fun w' hw' => refId_spec br s (idsGo s na ne g).2.1 (idsGo s na ne g).2.2 w' gle (by omega) (hw'.has _ _ (List.mem_cons_of_mem _ List.mem_cons_self))) ?_
      with_reducible refine Ow.nil ?_
      refine ⟨fun b hb => read_setB_ne (by simp only [List.mem_cons, List.not_mem_nil, or_false] at hb; omega), ?_⟩
      have hil := idE_len s (idsGo s na ne g).2.1 (idsGo s na ne g).2.2
      obtain ⟨I, hI⟩ : ∃ I, mkIdE (idR s (idsGo s na ne g).2.1 (idsGo s na ne g).2.2).1 = I := ⟨_, rfl⟩
      have hiI : (idR s (idsGo s na ne g).2.1 (idsGo s na ne g).2.2).1 = I.l := by rw [← hI, mkIdE_eq hil]
      rw [hI] at hgs
      have hg1 : (idsGo s na ne (g + 1)).1 = (idsGo s na ne g).1 ++ [I] := by rw [hgs]
      have hg2 : (idsGo s na ne (g + 1)).2 = (idR s (idsGo s na ne g).2.1 (idsGo s na ne g).2.2).2 := by rw [hgs]
      rw [hiI, ← hg2]
      simp (disch := (first | assumption | omega | (simp only [lenS, lenT, UInt64.reduceToNat]; try omega))) only [setB_same, setB_other, List.cons_append, List.nil_append]
      refine Ow.soft rfl rfl rfl ?_
      refine Ow.buildSlice (e := 40) (a8 I.l) rfl rfl (slice_one (cs := I.l.map v8) Tryd.underlying52 aggIdE zrIdE (by decide) (by simp [I.h])) fun b13 hb13 hw13 => ?_
      have hr13 : b5 < b13 := above_to hb13 (by simp [keys])
      with_reducible refine Ow.nil ?_
      refine ⟨readB_appR (by simp [keys]), ?_⟩
      try simp only [List.cons_append, List.nil_append]
      refine Ow.soft rfl rfl rfl ?_
      refine Ow.permL (M := D ++ ((b5, Obj.cells (comC T v []).toArray 54 (0, 0)) :: (br, Obj.cells #[vs s, vi (idsGo s na ne (g + 1)).2.1, vi (idsGo s na ne (g + 1)).2.2] 90 (0, 0)) :: (b2, Obj.cells (comC id0 (.slice none 0 0) []).toArray 54 (0, 0)) :: [(b13, Obj.cells (a8 I.l) 40 (0, 0))])) (by classical exact List.perm_iff_count.2 fun a => by simp only [List.count_append, List.count_cons, List.count_nil] <;> omega) ?_
      refine Ow.appendX (e := 40) (k := 1) (new := idLC I) (X := D) v rfl rfl rfl rfl Tryd.underlying52 aggIdE (by kernel_rfl) zrIdE (by rw [cells_agg, size_a8, id0.h]) Tryd.underlying52 (by intro k h; cases h) hG (fun w' hw' => AppX.one1 (hw'.has b13 (.cells (a8 I.l) 40 (0, 0)) (by simp)) (idLC_len' I) (idLC_one' I)) (by omega) (by omega) (fun B v4 D4 hA4 hB4 hbuf hk1 hk2 hlk => ?_)
      have hB13 : b13 < B := above_to hA4 (by simp [keys_app, keys])
      have hN4 : New (b5 + 1) D4 := New.of_le fun q hq => by
        rcases hk2 q hq with h | h
        · exact hN.le q h
        · omega
      have h54 : b5 ∉ keys D4 := hN4.not (by omega)
      with_reducible refine Ow.nil ?_
      refine ⟨fun q hq => ?_, ?_⟩
      · rw [List.mem_singleton] at hq
        subst hq
        rw [readB_appr h54]
        simp only [read_same]
      have hlk5 : ∀ M, Sx.look (D4 ++ M) b5 = Sx.look M b5 := fun M => look_app_r h54
      have hsb5 : ∀ M x, setB (D4 ++ M) b5 x = D4 ++ setB M b5 x := fun M x => setB_appE h54
      have st5 := fun a E => store_com1 T v v4 [] a E hbuf.cell
      refine Ow.goQ ?_
      simp (disch := (first | assumption | omega | (simp only [lenS, lenT, UInt64.reduceToNat]; try omega))) only [↓Sx.S0, Sx.S1, Tryd.fx, uOW_1, Nat.reduceAdd, Nat.reducePow, Int.reducePow, Nat.reduceBEq, ↓reduceIte, UInt8.reduceToNat, UInt16.reduceToNat, UInt32.reduceToNat, UInt64.reduceToNat, Int.reduceToNat, hlk5, hsb5, st5, nh_any]
      have hst7 : storeAtV (aggT Tryd.prog 52) (D4 ++ [(b5, Obj.cells (comC T v []).toArray 54 (0, 0)), (br, Obj.cells #[vs s, vi (idsGo s na ne (g + 1)).2.1, vi (idsGo s na ne (g + 1)).2.2] 90 (0, 0)), (b2, Obj.cells (comC id0 (.slice none 0 0) []).toArray 54 (0, 0)), (b13, Obj.cells (a8 I.l) 40 (0, 0))]) (vp b5 32) v4 =
          some (D4 ++ [(b5, Obj.cells (comC T v4 []).toArray 54 (0, 0)), (br, Obj.cells #[vs s, vi (idsGo s na ne (g + 1)).2.1, vi (idsGo s na ne (g + 1)).2.2] 90 (0, 0)), (b2, Obj.cells (comC id0 (.slice none 0 0) []).toArray 54 (0, 0)), (b13, Obj.cells (a8 I.l) 40 (0, 0))]) := by
        rw [Tryd.ag52, storeAt_p, hlk5]
        simp only [look_same, st5, upd_some, hsb5, setB_same]
      refine Ow.store rfl rfl rfl hst7 ?_
      refine Ow.go rfl ?_
      simp (disch := (first | assumption | omega | (simp only [lenS, lenT, UInt64.reduceToNat]; try omega))) only [↓Sx.S0, Sx.S1, Tryd.fx, uOW_1, Nat.reduceAdd, Nat.reducePow, Int.reducePow, Nat.reduceBEq, ↓reduceIte, UInt8.reduceToNat, UInt16.reduceToNat, UInt32.reduceToNat, UInt64.reduceToNat, Int.reduceToNat]
      refine Cw.permL (M := (b5, Obj.cells (comC T v4 []).toArray 54 (0, 0)) :: (br, Obj.cells #[vs s, vi (idsGo s na ne (g + 1)).2.1, vi (idsGo s na ne (g + 1)).2.2] 90 (0, 0)) :: (b2, Obj.cells (comC id0 (.slice none 0 0) []).toArray 54 (0, 0)) :: (D4 ++ [(b13, Obj.cells (a8 I.l) 40 (0, 0))])) (by classical exact List.perm_iff_count.2 fun a => by simp only [List.count_append, List.count_cons, List.count_nil] <;> omega) ?_
      ((try with_reducible refine Cw.go [] ?_); (try simp (disch := (first | assumption | omega | (simp only [lenS, lenT, UInt64.reduceToNat]; try omega))) only [↓Sx.S0, Sx.S1, Tryd.fx, uOW_1, Nat.reduceAdd, Nat.reducePow, Int.reducePow, Nat.reduceBEq, ↓reduceIte, UInt8.reduceToNat, UInt16.reduceToNat, UInt32.reduceToNat, UInt64.reduceToNat, Int.reduceToNat]))
      refine Again.mk (CmG.mk (g + 1) v4 (D4 ++ [(b13, Obj.cells (a8 I.l) 40 (0, 0))])) (by show k - (g + 1) < k - g; omega) ⟨by show g + 1 ≤ k; omega, hN4.app ⟨by omega, trivial⟩, ?_⟩ rfl rfl
      show Gr _ _ _ _ (g + 1) ((idsGo s na ne (g + 1)).1.map idLC).flatten
      rw [hg1, List.map_append, List.flatten_append, show ([I].map idLC).flatten = idLC I by simp]
      exact Gr.app (.inl hbuf)
    · obtain rfl : g = k := by omega
      rw [← hP] at hG
      rw [← hP] at gle
      rw [← hP]
      have tp := textE_le (e := (comP s).2.2) (most := 64) gle
      ((try with_reducible refine Cw.go [] ?_); (try simp (disch := (first | assumption | omega | (simp only [lenS, lenT, UInt64.reduceToNat]; try omega))) only [↓Sx.S0, Sx.S1, Tryd.fx, uOW_1, Nat.reduceAdd, Nat.reducePow, Int.reducePow, Nat.reduceBEq, ↓reduceIte, UInt8.reduceToNat, UInt16.reduceToNat, UInt32.reduceToNat, UInt64.reduceToNat, Int.reduceToNat]))
      refine Ow.callM rfl rfl Tryd.call50 (by simp [keys]) (fun w' hw' => refText_spec br s (comP s).2.1 (comP s).2.2 64 w' gle (by omega) (hw'.has _ _ (List.mem_cons_of_mem _ List.mem_cons_self))) ?_
      simp (disch := (first | assumption | omega | (simp only [lenS, lenT, UInt64.reduceToNat]; try omega))) only [setB_same, setB_other, List.cons_append, List.nil_append]
      refine Ow.go rfl ?_
      simp (disch := (first | assumption | omega | (simp only [lenS, lenT, UInt64.reduceToNat]; try omega))) only [↓Sx.S0, Sx.S1, Tryd.fx, uOW_1, Nat.reduceAdd, Nat.reducePow, Int.reducePow, Nat.reduceBEq, ↓reduceIte, UInt8.reduceToNat, UInt16.reduceToNat, UInt32.reduceToNat, UInt64.reduceToNat, Int.reduceToNat]
      have hT2 : comT s = textR s (comP s).2.1 (comP s).2.2 64 := rfl
      have htl := textE_len s (comP s).2.1 (comP s).2.2 64
      rw [hT2] at hcE
      generalize textR s (comP s).2.1 (comP s).2.2 64 = tx at *
      obtain ⟨tt, a3, e3⟩ := tx
      simp only at tp hcE htl ⊢
      have hPl : (comP s).1.length = g := by rw [hP, idsGo_len]
      generalize (comP s).1 = pl at *
      have hg4 : g ≤ 4 := by omega
      have hC : ∀ w', Hp w ((b5, Obj.cells (comC T v tt).toArray 54 (0, 0)) :: (br, .cells #[vs s, vi a3, vi e3] 90 (0, 0)) :: (b2, Obj.cells (comC id0 (.slice none 0 0) []).toArray 54 (0, 0)) :: D) w' → ComS w' (.agg (comC T v tt).toArray) ⟨T, pl, tt⟩ := fun w' hw' =>
        ⟨v, rfl, hG.slM (fun b o hm => hw'.has b o (by simp [hm])) hPl rfl idLC_len'⟩
      have hNe : New w.heap.size ((b5, Obj.cells (comC T v tt).toArray 54 (0, 0)) :: (br, .cells #[vs s, vi a3, vi e3] 90 (0, 0)) :: (b2, Obj.cells (comC id0 (.slice none 0 0) []).toArray 54 (0, 0)) :: D) := ⟨hw5, hwr, hw2, New.mono (by omega) hN⟩
      have hR : readC s = if endE s a3 e3 = 0 ∧ comOk ⟨T, pl, tt⟩ = true ∧ comB ⟨T, pl, tt⟩ = s then some ⟨T, pl, tt⟩ else none := by unfold readC; rw [hcE]
      have stz : ∀ a E, storeV (some (a, 34)) (some (.cells (comC id0 (.slice none 0 0) []).toArray E (0, 0))) 0 (.agg (comC id0 (.slice none 0 0) []).toArray) = some (.cells (comC id0 (.slice none 0 0) []).toArray E (0, 0)) := st5
      unfold ReadCS
      rw [hR]
      refine Ow.callFV rfl Tryd.call52 (fun w' hw' => refEndE_spec br s a3 e3 w' (hw'.has _ _ (List.mem_cons_of_mem _ List.mem_cons_self))) ?_
      by_cases he : endE s a3 e3 = 0
      · have d1 : (endE s a3 e3 != 0) = false := by simp [he]
        refine Ow.go rfl ?_
        simp (disch := (first | assumption | omega | (simp only [lenS, lenT, UInt64.reduceToNat]; try omega))) only [↓Sx.S0, Sx.S1, Tryd.fx, uOW_1, Nat.reduceAdd, Nat.reducePow, Int.reducePow, Nat.reduceBEq, ↓reduceIte, UInt8.reduceToNat, UInt16.reduceToNat, UInt32.reduceToNat, UInt64.reduceToNat, Int.reduceToNat, d1]
        refine Ow.callFV rfl Tryd.call70 (fun w' hw' => CommitRight_spec _ _ w' (hC w' hw') (by show pl.length < 1000000; omega) (by show tt.length < 1099511627776; omega)) ?_
        cases hr : comOk ⟨T, pl, tt⟩
        · rw [if_neg (by simp)]
          refine Ow.go rfl ?_
          simp (disch := (first | assumption | omega | (simp only [lenS, lenT, UInt64.reduceToNat]; try omega))) only [↓Sx.S0, Sx.S1, Tryd.fx, uOW_1, Nat.reduceAdd, Nat.reducePow, Int.reducePow, Nat.reduceBEq, ↓reduceIte, UInt8.reduceToNat, UInt16.reduceToNat, UInt32.reduceToNat, UInt64.reduceToNat, Int.reduceToNat]
          refine Ow.build (.agg (comC id0 (.slice none 0 0) []).toArray) rfl build_com0 ?_
          refine Ow.go rfl ?_
          simp (disch := (first | assumption | omega | (simp only [lenS, lenT, UInt64.reduceToNat]; try omega))) only [↓Sx.S0, Sx.S1, Tryd.fx, uOW_1, Nat.reduceAdd, Nat.reducePow, Int.reducePow, Nat.reduceBEq, ↓reduceIte, UInt8.reduceToNat, UInt16.reduceToNat, UInt32.reduceToNat, UInt64.reduceToNat, Int.reduceToNat, stz]
          ((try with_reducible refine Cw.go [] ?_); (try simp (disch := (first | assumption | omega | (simp only [lenS, lenT, UInt64.reduceToNat]; try omega))) only [↓Sx.S0, Sx.S1, Tryd.fx, uOW_1, Nat.reduceAdd, Nat.reducePow, Int.reducePow, Nat.reduceBEq, ↓reduceIte, UInt8.reduceToNat, UInt16.reduceToNat, UInt32.reduceToNat, UInt64.reduceToNat, Int.reduceToNat]))
          refine ⟨_, (by simp (disch := (first | assumption | omega | (simp only [lenS, lenT, UInt64.reduceToNat]; try omega))) only [↓Sx.S0, Sx.S1, Tryd.fx, uOW_1, Nat.reduceAdd, Nat.reducePow, Int.reducePow, Nat.reduceBEq, ↓reduceIte, UInt8.reduceToNat, UInt16.reduceToNat, UInt32.reduceToNat, UInt64.reduceToNat, Int.reduceToNat]; rfl), ?_⟩
          exact ⟨Ext.of_new hNe, rfl⟩
        · refine Ow.go rfl ?_
          simp (disch := (first | assumption | omega | (simp only [lenS, lenT, UInt64.reduceToNat]; try omega))) only [↓Sx.S0, Sx.S1, Tryd.fx, uOW_1, Nat.reduceAdd, Nat.reducePow, Int.reducePow, Nat.reduceBEq, ↓reduceIte, UInt8.reduceToNat, UInt16.reduceToNat, UInt32.reduceToNat, UInt64.reduceToNat, Int.reduceToNat]
          refine Ow.callFV rfl Tryd.call71 (fun w' hw' => CommitBody_spec _ _ w' (hC w' hw') (by show pl.length < 1000000; omega) (by show tt.length < 1099511627776; omega)) ?_
          by_cases hb : comB ⟨T, pl, tt⟩ = s
          · have d3 : (comB ⟨T, pl, tt⟩ != s) = false := by simp [hb]
            have stq : ∀ a E, storeV (some (a, 34)) (some (.cells (comC id0 (.slice none 0 0) []).toArray E (0, 0))) 0 (.agg (comC T v tt).toArray) = some (.cells (comC T v tt).toArray E (0, 0)) := fun a E => store_com _ _ _ _ a E (by rw [List.size_toArray, comC_len]) hG.cell.1
            rw [if_pos ⟨he, rfl, hb⟩]
            refine Ow.go rfl ?_
            simp (disch := (first | assumption | omega | (simp only [lenS, lenT, UInt64.reduceToNat]; try omega))) only [↓Sx.S0, Sx.S1, Tryd.fx, uOW_1, Nat.reduceAdd, Nat.reducePow, Int.reducePow, Nat.reduceBEq, ↓reduceIte, UInt8.reduceToNat, UInt16.reduceToNat, UInt32.reduceToNat, UInt64.reduceToNat, Int.reduceToNat, d3, stq]
            ((try with_reducible refine Cw.go [] ?_); (try simp (disch := (first | assumption | omega | (simp only [lenS, lenT, UInt64.reduceToNat]; try omega))) only [↓Sx.S0, Sx.S1, Tryd.fx, uOW_1, Nat.reduceAdd, Nat.reducePow, Int.reducePow, Nat.reduceBEq, ↓reduceIte, UInt8.reduceToNat, UInt16.reduceToNat, UInt32.reduceToNat, UInt64.reduceToNat, Int.reduceToNat]))
            refine ⟨_, (by simp (disch := (first | assumption | omega | (simp only [lenS, lenT, UInt64.reduceToNat]; try omega))) only [↓Sx.S0, Sx.S1, Tryd.fx, uOW_1, Nat.reduceAdd, Nat.reducePow, Int.reducePow, Nat.reduceBEq, ↓reduceIte, UInt8.reduceToNat, UInt16.reduceToNat, UInt32.reduceToNat, UInt64.reduceToNat, Int.reduceToNat]; rfl), ?_⟩
            refine ⟨Ext.of_new ⟨hw5, hwr, hw2, New.mono (by omega) hN⟩, v, rfl, ?_⟩
            show Gr _ _ _ _ pl.length (pl.map idLC).flatten
            rw [hPl]
            exact hG.keep fun b o hb ho => by
              have := hN.le b (key_of_look ho)
              simp (disch := omega) only [look_other]
              exact ho
          · have d3 : (comB ⟨T, pl, tt⟩ != s) = true := by simp [hb]
            rw [if_neg (fun h => hb h.2.2)]
            refine Ow.go rfl ?_
            simp (disch := (first | assumption | omega | (simp only [lenS, lenT, UInt64.reduceToNat]; try omega))) only [↓Sx.S0, Sx.S1, Tryd.fx, uOW_1, Nat.reduceAdd, Nat.reducePow, Int.reducePow, Nat.reduceBEq, ↓reduceIte, UInt8.reduceToNat, UInt16.reduceToNat, UInt32.reduceToNat, UInt64.reduceToNat, Int.reduceToNat, d3]
            refine Ow.build (.agg (comC id0 (.slice none 0 0) []).toArray) rfl build_com0 ?_
            refine Ow.go rfl ?_
            simp (disch := (first | assumption | omega | (simp only [lenS, lenT, UInt64.reduceToNat]; try omega))) only [↓Sx.S0, Sx.S1, Tryd.fx, uOW_1, Nat.reduceAdd, Nat.reducePow, Int.reducePow, Nat.reduceBEq, ↓reduceIte, UInt8.reduceToNat, UInt16.reduceToNat, UInt32.reduceToNat, UInt64.reduceToNat, Int.reduceToNat, stz]
            ((try with_reducible refine Cw.go [] ?_); (try simp (disch := (first | assumption | omega | (simp only [lenS, lenT, UInt64.reduceToNat]; try omega))) only [↓Sx.S0, Sx.S1, Tryd.fx, uOW_1, Nat.reduceAdd, Nat.reducePow, Int.reducePow, Nat.reduceBEq, ↓reduceIte, UInt8.reduceToNat, UInt16.reduceToNat, UInt32.reduceToNat, UInt64.reduceToNat, Int.reduceToNat]))
            refine ⟨_, (by simp (disch := (first | assumption | omega | (simp only [lenS, lenT, UInt64.reduceToNat]; try omega))) only [↓Sx.S0, Sx.S1, Tryd.fx, uOW_1, Nat.reduceAdd, Nat.reducePow, Int.reducePow, Nat.reduceBEq, ↓reduceIte, UInt8.reduceToNat, UInt16.reduceToNat, UInt32.reduceToNat, UInt64.reduceToNat, Int.reduceToNat]; rfl), ?_⟩
            exact ⟨Ext.of_new hNe, rfl⟩
      · have d1 : (endE s a3 e3 != 0) = true := by simp [he]
        rw [if_neg (fun h => he h.1)]
        refine Ow.go rfl ?_
        simp (disch := (first | assumption | omega | (simp only [lenS, lenT, UInt64.reduceToNat]; try omega))) only [↓Sx.S0, Sx.S1, Tryd.fx, uOW_1, Nat.reduceAdd, Nat.reducePow, Int.reducePow, Nat.reduceBEq, ↓reduceIte, UInt8.reduceToNat, UInt16.reduceToNat, UInt32.reduceToNat, UInt64.reduceToNat, Int.reduceToNat, d1]
        refine Ow.build (.agg (comC id0 (.slice none 0 0) []).toArray) rfl build_com0 ?_
        refine Ow.go rfl ?_
        simp (disch := (first | assumption | omega | (simp only [lenS, lenT, UInt64.reduceToNat]; try omega))) only [↓Sx.S0, Sx.S1, Tryd.fx, uOW_1, Nat.reduceAdd, Nat.reducePow, Int.reducePow, Nat.reduceBEq, ↓reduceIte, UInt8.reduceToNat, UInt16.reduceToNat, UInt32.reduceToNat, UInt64.reduceToNat, Int.reduceToNat, stz]
        ((try with_reducible refine Cw.go [] ?_); (try simp (disch := (first | assumption | omega | (simp only [lenS, lenT, UInt64.reduceToNat]; try omega))) only [↓Sx.S0, Sx.S1, Tryd.fx, uOW_1, Nat.reduceAdd, Nat.reducePow, Int.reducePow, Nat.reduceBEq, ↓reduceIte, UInt8.reduceToNat, UInt16.reduceToNat, UInt32.reduceToNat, UInt64.reduceToNat, Int.reduceToNat]))
        refine ⟨_, (by simp (disch := (first | assumption | omega | (simp only [lenS, lenT, UInt64.reduceToNat]; try omega))) only [↓Sx.S0, Sx.S1, Tryd.fx, uOW_1, Nat.reduceAdd, Nat.reducePow, Int.reducePow, Nat.reduceBEq, ↓reduceIte, UInt8.reduceToNat, UInt16.reduceToNat, UInt32.reduceToNat, UInt64.reduceToNat, Int.reduceToNat]; rfl), ?_⟩
        exact ⟨Ext.of_new hNe, rfl⟩
end Go.Proofs
end
section
open Go Go.Proofs Go.Sx Go.StP
namespace Go.Proofs
set_option maxRecDepth 10000
set_option maxHeartbeats 400000
set_option linter.unusedSimpArgs false
/-! ### The reader of objects -/
def roC (r v : Value) (t : IdL) (p : Value) (y : List UInt8) : List Value := [r] ++ ([v] ++ comC t p y)
theorem load_ro0 (r v : Value) (t : IdL) (p : Value) (y : List UInt8) (n : Nat) (E : TypeId) (fz : Nat × Nat) : loadV (some (false, n)) (some (.cells (roC r v t p y).toArray E fz)) 0 = some r := load_one [] _ r n E fz rfl
theorem load_ro1 (r v : Value) (t : IdL) (p : Value) (y : List UInt8) (n : Nat) (E : TypeId) (fz : Nat × Nat) : loadV (some (false, n)) (some (.cells (roC r v t p y).toArray E fz)) 1 = some v := by
  unfold roC; exact load_one [r] _ v n E fz rfl
theorem load_ro2 (r v : Value) (t : IdL) (p : Value) (y : List UInt8) (E : TypeId) (fz : Nat × Nat) : loadV (some (true, 34)) (some (.cells (roC r v t p y).toArray E fz)) 2 = some (.agg (comC t p y).toArray) := by
  have e : roC r v t p y = [r, v] ++ (comC t p y ++ []) := by unfold roC; simp
  rw [e]; exact load_agg [r, v] _ _ E fz rfl (comC_len _ _ _)
theorem load_ro34 (r v : Value) (t : IdL) (p : Value) (y : List UInt8) (n : Nat) (E : TypeId) (fz : Nat × Nat) : loadV (some (false, n)) (some (.cells (roC r v t p y).toArray E fz)) 34 = some p := by
  have e : roC r v t p y = ([r, v] ++ t.l.map v8) ++ ([p] ++ [vs y]) := by unfold roC comC; simp
  rw [e]; exact load_one _ _ p n E fz (by simp [t.h])
theorem store_ro1 (r v q : Value) (t : IdL) (p : Value) (y : List UInt8) (a : Bool) (E : TypeId) (hq : Value.oneCell' q = true ∧ q.cells = #[q]) : storeV (some (a, 1)) (some (.cells (roC r v t p y).toArray E (0, 0))) 1 q = some (.cells (roC r q t p y).toArray E (0, 0)) := by
  unfold roC
  exact store_mid [r] [v] [q] _ a _ E rfl rfl hq.2 rfl (by simp [hq.1])
theorem store_ro2 (r v : Value) (t x : IdL) (p : Value) (y : List UInt8) (a : Bool) (E : TypeId) : storeV (some (a, 32)) (some (.cells (roC r v t p y).toArray E (0, 0))) 2 (.agg (a8 x.l)) = some (.cells (roC r v x p y).toArray E (0, 0)) := by
  have e : ∀ t, roC r v t p y = [r, v] ++ (t.l.map v8 ++ ([p] ++ [vs y])) := fun t => by unfold roC comC; simp
  rw [e, e]; exact store_mid [r, v] _ _ _ a _ E rfl (by simp [t.h]) (cells_agg _) (by simp [x.h]) (all_v8 _)
theorem store_ro34 (r v : Value) (t : IdL) (p q : Value) (y : List UInt8) (a : Bool) (E : TypeId) (hq : Value.oneCell' q = true ∧ q.cells = #[q]) : storeV (some (a, 1)) (some (.cells (roC r v t p y).toArray E (0, 0))) 34 q = some (.cells (roC r v t q y).toArray E (0, 0)) := by
  have e : ∀ p, roC r v t p y = ([r, v] ++ t.l.map v8) ++ ([p] ++ [vs y]) := fun p => by unfold roC comC; simp
  rw [e, e]; exact store_mid _ [p] [q] [vs y] a _ E (by simp [t.h]) rfl hq.2 rfl (by simp [hq.1])
theorem store_ro35 (r v : Value) (t : IdL) (p : Value) (y z : List UInt8) (a : Bool) (E : TypeId) : storeV (some (a, 1)) (some (.cells (roC r v t p y).toArray E (0, 0))) 35 (vs z) = some (.cells (roC r v t p z).toArray E (0, 0)) := by
  have e : ∀ y, roC r v t p y = (([r, v] ++ t.l.map v8) ++ [p]) ++ ([vs y] ++ []) := fun y => by unfold roC comC; simp
  rw [e, e]; exact store_mid _ _ _ _ a _ E (by simp [t.h]) rfl rfl rfl rfl
theorem build_ent2 (k : Int) (t : List UInt8) : buildV (plcT Tryd.prog 108) (zeroV Tryd.prog 108) [(1, vi k), (0, vs t)] = some (.agg (entC ⟨t, k, id0⟩).toArray) := by
  rw [Tryd.pc108, zrEnt]; rfl
theorem REndE_spec (b : Nat) (s : List UInt8) (a : Nat) (e : Int) (w : World) (ho : w.heap[b]? = some (.cells #[vs s, vi a, vi e] 139 (0, 0))) :
    Rets Tryd.prog 45 #[vp b 0] w (fun v D => v = vi (endE s a e) ∧ D = []) := REnd_spec b s a e w ho
set_option linter.defProp false
def uOX_1 := And.intro (And.intro (And.intro (And.intro (@load_rd0) (@load_rd1)) (And.intro (@load_rd2) (@store_rd1))) (And.intro (And.intro (@store_rd2) (@load_ro0)) (And.intro (@load_ro1) (@load_ro2)))) (And.intro (And.intro (And.intro (@load_ro34) (@load_ent)) (And.intro (@store_ent0) (@store_ent1))) (And.intro (And.intro (@store_ent2) (@store_entr)) (And.intro (@cells_ent) (And.intro (@rdIn_v8) (@rdIn_vi)))))
theorem two_has {w : World} {a b : Nat} {x y : Obj} (h : w.heap[a]? = some x) (h' : w.heap[b]? = some y) : ∀ p : Nat × Obj, p ∈ [(a, x), (b, y)] → w.heap[p.1]? = some p.2 := by
  intro p hp
  simp only [List.mem_cons, List.not_mem_nil, or_false] at hp
  rcases hp with rfl | rfl <;> assumption
structure EnH where
  n : Nat
  a : Nat
  e : Int
  l : List EntL
  v : Value
  D : Heap
  H : Heap
/-- What a reader of trees leaves. -/
def TreeRd (bo bw : Nat) (s : List UInt8) (v : Value) (D : Heap) : Prop :=
  v = .bool (endE s (entsE s).2.1 (entsE s).2.2 == 0 && entsOk (entsE s).1) ∧ ∃ v1, Sx.look D bo = some (.cells (roC (vp bw 0) v1 id0 (.slice none 0 0) []).toArray 117 (0, 0)) ∧ Gr D 108 34 v1 (entsE s).1.length ((entsE s).1.map entC).flatten
theorem treeRd_spec (bo bw : Nat) (s : List UInt8) (w : World) (hs : s.length < 100000) (hne : bo ≠ bw)
    (ho : w.heap[bo]? = some (.cells (roC (vp bw 0) (.slice none 0 0) id0 (.slice none 0 0) []).toArray 117 (0, 0))) (hr : w.heap[bw]? = some (.cells #[vs s, vi 0, vi 0] 139 (0, 0))) :
    Rets Tryd.prog 105 #[vp bo 0] w (XS w [(bo, .cells (roC (vp bw 0) (.slice none 0 0) id0 (.slice none 0 0) []).toArray 117 (0, 0)), (bw, .cells #[vs s, vi 0, vi 0] 139 (0, 0))] (TreeRd bo bw s)) := by
  have hob : bo < w.heap.size := (Array.getElem?_eq_some_iff.1 ho).1
  have hwb : bw < w.heap.size := (Array.getElem?_eq_some_iff.1 hr).1
  refine Rets.enterX Tryd.func105 rfl (rs := [.tmp 2]) Tryd.results105 Tryd.ntmps105 (two_has ho hr) (by simp [keys, hne]) ?_
  simp only [List.size_toArray, List.length_cons, List.length_nil, Nat.reduceAdd, Nat.reduceSub, List.replicate_succ, List.replicate_zero, List.cons_append, List.nil_append]
  ((try with_reducible refine Cw.go [] ?_); (try simp (disch := (first | assumption | omega | (simp only [lenS, lenT, UInt64.reduceToNat]; try omega))) only [↓Sx.S0, Sx.S1, Tryd.fx, uOX_1, Nat.reduceAdd, Nat.reducePow, Int.reducePow, Nat.reduceBEq, ↓reduceIte, UInt8.reduceToNat, UInt16.reduceToNat, UInt32.reduceToNat, UInt64.reduceToNat, Int.reduceToNat]))
  refine Cw.loopG (G := EnH) [4, 5, 6, 7, 8, 9, 10, 11, 12, 13, 14, 15, 16, 17, 18, 19, 20, 3, 21, 22, 23, 24, 25, 26, 27, 28, 29, 30, 31, 32, 33, 34, 35, 36] (fun q => []) (fun q => q.H) (fun q => EntsJ s q.n q.a q.e q.l ∧ New w.heap.size q.D ∧ Gr q.D 108 34 q.v q.l.length (q.l.map entC).flatten ∧ ((bo, Obj.cells (roC (vp bw 0) q.v id0 (.slice none 0 0) []).toArray 117 (0, 0)) :: (bw, .cells #[vs s, vi q.a, vi q.e] 139 (0, 0)) :: q.D).Perm q.H) (fun q => q.n) ⟨s.length + 1, 0, 0, [], .slice none 0 0, [], [(bo, Obj.cells (roC (vp bw 0) (.slice none 0 0) id0 (.slice none 0 0) []).toArray 117 (0, 0)), (bw, .cells #[vs s, vi 0, vi 0] 139 (0, 0))]⟩ rfl rfl ?_ ?_
  · exact ⟨EntsJ.init s, trivial, Gr.nl, List.Perm.refl _⟩
  · intro q jq hq
    simp only [overFrom, pin, setF_0, setF_s, List.contains_cons, List.contains_nil, Nat.reduceBEq, Bool.or_false, Bool.false_or, Bool.or_true, Bool.true_or, Nat.reduceAdd, ↓reduceIte, Bool.false_eq_true]
    obtain ⟨n, a, e, l, v, D, H0⟩ := q
    simp only at hq ⊢
    obtain ⟨hJ, hN, hG, hPm⟩ := hq
    refine Cw.permL hPm ?_
    clear hPm
    have hle := hJ.le
    ((try with_reducible refine Cw.go [3] ?_); (try simp (disch := (first | assumption | omega | (simp only [lenS, lenT, UInt64.reduceToNat]; try omega))) only [↓Sx.S0, Sx.S1, Tryd.fx, uOX_1, Nat.reduceAdd, Nat.reducePow, Int.reducePow, Nat.reduceBEq, ↓reduceIte, UInt8.reduceToNat, UInt16.reduceToNat, UInt32.reduceToNat, UInt64.reduceToNat, Int.reduceToNat]))
    refine Ow.callFV rfl Tryd.call45 (fun w' hw' => REndE_spec bw s a e w' (hw'.has _ _ (List.mem_cons_of_mem _ List.mem_cons_self))) ?_
    by_cases hc : e = 0 ∧ a < s.length
    · obtain ⟨m, rfl, hJ'⟩ := hJ.next hc
      obtain ⟨he, hlt⟩ := hc
      have h5 : endE s a e = 5 := by unfold endE; rw [if_neg (by simp [he]), if_pos (by omega)]
      have d1 : (endE s a e == 5) = true := by simp [h5]
      refine Ow.go rfl ?_
      simp (disch := (first | assumption | omega | (simp only [lenS, lenT, UInt64.reduceToNat]; try omega))) only [↓Sx.S0, Sx.S1, Tryd.fx, uOX_1, Nat.reduceAdd, Nat.reducePow, Int.reducePow, Nat.reduceBEq, ↓reduceIte, UInt8.reduceToNat, UInt16.reduceToNat, UInt32.reduceToNat, UInt64.reduceToNat, Int.reduceToNat, d1]
      have hp := numR_le (e := e) (most := 2) hle
      have hq := textE_le (e := (numR s a e 2).2.2) (most := 32) hp.2
      have heq : entR s a e = (⟨(textR s (numR s a e 2).2.1 (numR s a e 2).2.2 32).1, (numR s a e 2).1, mkIdE (idR s (textR s (numR s a e 2).2.1 (numR s a e 2).2.2 32).2.1 (textR s (numR s a e 2).2.1 (numR s a e 2).2.2 32).2.2).1⟩, (idR s (textR s (numR s a e 2).2.1 (numR s a e 2).2.2 32).2.1 (textR s (numR s a e 2).2.1 (numR s a e 2).2.2 32).2.2).2) := rfl
      have hil := idE_len s (textR s (numR s a e 2).2.1 (numR s a e 2).2.2 32).2.1 (textR s (numR s a e 2).2.1 (numR s a e 2).2.2 32).2.2
      refine Cw.regionD [bo] [12] 11 3 108 12 _ rfl (by kernel_rfl) (by kernel_rfl) rfl (by kernel_rfl) zrEnt (fun hD => ?_)
      simp only [List.replicate_succ, List.replicate_zero]
      refine OwD.run [0, 1, 2, 3, 5, 6, 7, 8] [true, true, true, true, false, true, true, true, true, false, false, false, false] 4 rfl hD (by kernel_rfl) fun k hk => ?_
      simp only [nl_cons, ↓pickL_nil, ↓pickL_cons, ↓nthO_0, ↓nthO_s, consO_some]
      simp (disch := (first | assumption | omega | (simp only [lenS, lenT, UInt64.reduceToNat]; try omega))) only [↓Sx.S0, Sx.S1, Tryd.fx, uOX_1, Nat.reduceAdd, Nat.reducePow, Int.reducePow, Nat.reduceBEq, ↓reduceIte, UInt8.reduceToNat, UInt16.reduceToNat, UInt32.reduceToNat, UInt64.reduceToNat, Int.reduceToNat, Md.next_sofnil, Md.next_sofnil]
      (with_reducible refine hk _ _ _ ?_); clear hk k
      refine OwD.soft 4 _ hD rfl (by kernel_rfl) (fun E hE => ?_)
      refine Ow.callM rfl rfl Tryd.call43 (by simp [keys]) (fun w' hw' => RNumber_spec bw s a e 2 w' hle (by omega) (hw'.has _ _ (by simp))) ?_
      generalize numR s a e 2 = p at *
      obtain ⟨kd, a1, e1⟩ := p
      simp only at hp hq heq hil ⊢
      simp (disch := (first | assumption | omega | (simp only [lenS, lenT, UInt64.reduceToNat]; try omega))) only [setB_same, setB_other, List.cons_append, List.nil_append]
      with_reducible refine Ow.nil ?_
      refine ⟨(bo, Obj.cells (roC (vp bw 0) v id0 (.slice none 0 0) []).toArray 117 (0, 0)) :: (bw, .cells #[vs s, vi a1, vi e1] 139 (0, 0)) :: D, (by classical exact List.perm_iff_count.2 fun a => by simp only [List.count_append, List.count_cons, List.count_nil] <;> omega), fun r hr => ?_, ?_⟩
      · rw [List.mem_singleton.1 hr]
        simp only [read_same]
      simp only [List.set_cons_zero, List.set_cons_succ, putF_some, setF_0, setF_s]
      refine OwD.soft 9 _ hD rfl (by kernel_rfl) (fun E hE => ?_)
      refine Ow.callM rfl rfl Tryd.call83 (by simp [keys]) (fun w' hw' => RText_spec bw s a1 e1 32 w' hp.2 (by omega) (hw'.has _ _ (by simp))) ?_
      generalize textR s a1 e1 32 = q at *
      obtain ⟨tt, a2, e2⟩ := q
      simp only at hq heq hil ⊢
      simp (disch := (first | assumption | omega | (simp only [lenS, lenT, UInt64.reduceToNat]; try omega))) only [setB_same, setB_other, List.cons_append, List.nil_append]
      with_reducible refine Ow.nil ?_
      refine ⟨(bo, Obj.cells (roC (vp bw 0) v id0 (.slice none 0 0) []).toArray 117 (0, 0)) :: (bw, .cells #[vs s, vi a2, vi e2] 139 (0, 0)) :: D, (by classical exact List.perm_iff_count.2 fun a => by simp only [List.count_append, List.count_cons, List.count_nil] <;> omega), fun r hr => ?_, ?_⟩
      · rw [List.mem_singleton.1 hr]
        simp only [read_same]
      simp only [List.set_cons_zero, List.set_cons_succ, putF_some, setF_0, setF_s]
      refine OwD.soft 10 _ hD rfl (by kernel_rfl) (fun E hE => ?_)
      refine Ow.build (.agg (entC ⟨tt, kd, id0⟩).toArray) rfl (build_ent2 kd tt) ?_
      with_reducible refine Ow.nil ?_
      refine ⟨_, List.Perm.refl _, fun _ _ => rfl, ?_⟩
      simp only [List.set_cons_zero, List.set_cons_succ, putF_some, setF_0, setF_s]
      refine OwD.real [12] rfl hD (by kernel_rfl) (by kernel_rfl) (by kernel_rfl) (by kernel_rfl) (fun r hr => by rw [List.mem_singleton.1 hr]; exact .inl (by simp [keys])) ?_
      simp only [nl_cons, ↓pickL_nil, ↓pickL_cons, ↓nthO_0, ↓nthO_s, consO_some]
      intro b3 hw3 hbL
      simp only [setF_0, setF_s]
      have hst3 := store_entr ⟨tt, kd, id0⟩ ent0
      refine Ow.store rfl rfl rfl (L' := ((bo, Obj.cells (roC (vp bw 0) v id0 (.slice none 0 0) []).toArray 117 (0, 0)) :: (bw, .cells #[vs s, vi a2, vi e2] 139 (0, 0)) :: D) ++ [(b3, .cells (entC ⟨tt, kd, id0⟩).toArray 108 (0, 0))]) ?_ ?_
      · simp only [ev_tmp, getF_0, getF_s]
        rw [Tryd.ag108, storeAt_p, look_app_r' hbL, cells_agg, hst3, upd_some, setB_app_r hbL]
        exact []
      refine Ow.go rfl ?_
      simp (disch := (first | assumption | omega | (simp only [lenS, lenT, UInt64.reduceToNat]; try omega))) only [↓Sx.S0, Sx.S1, Tryd.fx, uOX_1, Nat.reduceAdd, Nat.reducePow, Int.reducePow, Nat.reduceBEq, ↓reduceIte, UInt8.reduceToNat, UInt16.reduceToNat, UInt32.reduceToNat, UInt64.reduceToNat, Int.reduceToNat]
      refine Cw.permL (M := (b3, .cells (entC ⟨tt, kd, id0⟩).toArray 108 (0, 0)) :: (bo, Obj.cells (roC (vp bw 0) v id0 (.slice none 0 0) []).toArray 117 (0, 0)) :: (bw, .cells #[vs s, vi a2, vi e2] 139 (0, 0)) :: D) (by classical exact List.perm_iff_count.2 fun a => by simp only [List.count_append, List.count_cons, List.count_nil] <;> omega) ?_
      have hb3o : bo ≠ b3 := by simp [keys] at hbL; omega
      have hb3w : bw ≠ b3 := by simp [keys] at hbL; omega
      ((try with_reducible refine Cw.go [] ?_); (try simp (disch := (first | assumption | omega | (simp only [lenS, lenT, UInt64.reduceToNat]; try omega))) only [↓Sx.S0, Sx.S1, Tryd.fx, uOX_1, Nat.reduceAdd, Nat.reducePow, Int.reducePow, Nat.reduceBEq, ↓reduceIte, UInt8.reduceToNat, UInt16.reduceToNat, UInt32.reduceToNat, UInt64.reduceToNat, Int.reduceToNat]))
      refine Ow.callM rfl rfl Tryd.call87 (by simp [keys]) (fun w' hw' => RId_spec bw s a2 e2 w' hq.2 (by omega) (hw'.has _ _ (by simp))) ?_
      generalize idR s a2 e2 = i at *
      obtain ⟨il, a3, e3⟩ := i
      simp only at heq hil ⊢
      obtain ⟨I, hI⟩ : ∃ I, mkIdE il = I := ⟨_, rfl⟩
      have hiI : il = I.l := by rw [← hI, mkIdE_eq hil]
      rw [hI] at heq
      rw [hiI]
      simp (disch := (first | assumption | omega | (simp only [lenS, lenT, UInt64.reduceToNat]; try omega))) only [setB_same, setB_other, List.cons_append, List.nil_append]
      refine Ow.go rfl ?_
      simp (disch := (first | assumption | omega | (simp only [lenS, lenT, UInt64.reduceToNat]; try omega))) only [↓Sx.S0, Sx.S1, Tryd.fx, uOX_1, Nat.reduceAdd, Nat.reducePow, Int.reducePow, Nat.reduceBEq, ↓reduceIte, UInt8.reduceToNat, UInt16.reduceToNat, UInt32.reduceToNat, UInt64.reduceToNat, Int.reduceToNat]
      generalize hx : ({ name := tt, kind := kd, id := I } : EntL) = x
      rw [hx] at heq
      rw [heq] at hJ'
      refine Cw.regionS [bo, b3] [0, 1, 2, 3, 4, 5, 6, 7, 8, 9, 10] [10] (by kernel_rfl) (by kernel_rfl) (by kernel_rfl) ?_
      simp only [nl_cons, ↓pickL_nil, ↓pickL_cons, ↓nthO_0, ↓nthO_s, consO_some]
      refine Ow.goQ ?_
      simp (disch := (first | assumption | omega | (simp only [lenS, lenT, UInt64.reduceToNat]; try omega))) only [↓Sx.S0, Sx.S1, Tryd.fx, uOX_1, Nat.reduceAdd, Nat.reducePow, Int.reducePow, Nat.reduceBEq, ↓reduceIte, UInt8.reduceToNat, UInt16.reduceToNat, UInt32.reduceToNat, UInt64.reduceToNat, Int.reduceToNat]
      refine Ow.soft rfl rfl rfl ?_
      refine Ow.buildSlice (e := 108) (entC x).toArray rfl rfl (slice_one Tryd.underlying49 aggEnt zrEnt (by decide) (entC_len x)) fun b13 hb13 hw13 => ?_
      have h3d : b3 < b13 := above_to hb13 (by simp [keys])
      with_reducible refine Ow.nil ?_
      refine ⟨readB_appR (by simp [keys]), ?_⟩
      try simp only [List.cons_append, List.nil_append]
      refine Ow.soft rfl rfl rfl ?_
      refine Ow.permL (M := D ++ [(b3, Obj.cells (entC x).toArray 108 (0, 0)), (bo, Obj.cells (roC (vp bw 0) v id0 (.slice none 0 0) []).toArray 117 (0, 0)), (bw, .cells #[vs s, vi a3, vi e3] 139 (0, 0)), (b13, Obj.cells (entC x).toArray 108 (0, 0))]) (by classical exact List.perm_iff_count.2 fun a => by simp only [List.count_append, List.count_cons, List.count_nil] <;> omega) ?_
      refine Ow.appendX (e := 108) (k := 1) (new := entC x) (X := D) v rfl rfl rfl rfl Tryd.underlying49 aggEnt (by kernel_rfl) zrEnt (by rw [cells_ent, List.size_toArray, entC_len]) Tryd.underlying49 (by intro k h; cases h) hG (fun w' hw' => AppX.one1 (hw'.has b13 (.cells (entC x).toArray 108 (0, 0)) (by simp)) (entC_len _) (entC_one _)) (by omega) (by have := hJ.cnt; omega) (fun B v4 D4 hA4 hB4 hbuf hk1 hk2 hlk => ?_)
      have hB3 : b3 < B := above_to hA4 (by simp [keys_app, keys])
      have hN4 : New w.heap.size D4 := New.of_le fun q hq => by
        rcases hk2 q hq with h | h
        · exact hN.le q h
        · omega
      have ho4 : bo ∉ keys D4 := hN4.not hob
      have h34 : b3 ∉ keys D4 := fun hm => by
        rcases hk2 b3 hm with h | h
        · exact hbL (by simp only [keys, List.map_cons, List.mem_cons]; exact .inr (.inr h))
        · omega
      with_reducible refine Ow.nil ?_
      refine ⟨fun q hq => ?_, ?_⟩
      · simp only [List.mem_cons, List.not_mem_nil, or_false] at hq
        rcases hq with rfl | rfl
        · rw [readB_appr ho4]
          simp (disch := omega) only [read_same, read_other]
        · rw [readB_appr h34]
          simp (disch := omega) only [read_same, read_other]
      have hlko : ∀ M, Sx.look (D4 ++ M) bo = Sx.look M bo := fun M => look_app_r ho4
      have hsbo : ∀ M x, setB (D4 ++ M) bo x = D4 ++ setB M bo x := fun M x => setB_appE ho4
      have st1 := fun a E => store_ro1 (vp bw 0) v v4 id0 (.slice none 0 0) [] a E hbuf.cell
      have hst7 : storeAtV (aggT Tryd.prog 49) (D4 ++ [(b3, Obj.cells (entC x).toArray 108 (0, 0)), (bo, Obj.cells (roC (vp bw 0) v id0 (.slice none 0 0) []).toArray 117 (0, 0)), (bw, .cells #[vs s, vi a3, vi e3] 139 (0, 0)), (b13, Obj.cells (entC x).toArray 108 (0, 0))]) (vp bo 1) v4 = some (D4 ++ [(b3, Obj.cells (entC x).toArray 108 (0, 0)), (bo, Obj.cells (roC (vp bw 0) v4 id0 (.slice none 0 0) []).toArray 117 (0, 0)), (bw, .cells #[vs s, vi a3, vi e3] 139 (0, 0)), (b13, Obj.cells (entC x).toArray 108 (0, 0))]) := by
        rw [Tryd.ag49, storeAt_p, hlko]
        simp (disch := omega) only [look_same, look_other, st1, upd_some, hsbo, setB_same, setB_other]
      refine Ow.goQ ?_
      simp (disch := (first | assumption | omega | (simp only [lenS, lenT, UInt64.reduceToNat]; try omega))) only [↓Sx.S0, Sx.S1, Tryd.fx, uOX_1, Nat.reduceAdd, Nat.reducePow, Int.reducePow, Nat.reduceBEq, ↓reduceIte, UInt8.reduceToNat, UInt16.reduceToNat, UInt32.reduceToNat, UInt64.reduceToNat, Int.reduceToNat]
      refine Ow.store rfl rfl rfl hst7 ?_
      refine Ow.go rfl ?_
      simp (disch := (first | assumption | omega | (simp only [lenS, lenT, UInt64.reduceToNat]; try omega))) only [↓Sx.S0, Sx.S1, Tryd.fx, uOX_1, Nat.reduceAdd, Nat.reducePow, Int.reducePow, Nat.reduceBEq, ↓reduceIte, UInt8.reduceToNat, UInt16.reduceToNat, UInt32.reduceToNat, UInt64.reduceToNat, Int.reduceToNat]
      refine Again.mk (EnH.mk m a3 e3 (l ++ [x]) v4 (D4 ++ [(b3, Obj.cells (entC x).toArray 108 (0, 0)), (b13, Obj.cells (entC x).toArray 108 (0, 0))]) _) (by show m < m + 1; omega) ⟨hJ', hN4.app ⟨by omega, by omega, trivial⟩, ?_, ?_⟩ rfl rfl
      · show Gr _ _ _ _ (l ++ [x]).length ((l ++ [x]).map entC).flatten
        rw [List.length_append, List.map_append, List.flatten_append, show ([x].map entC).flatten = entC x by simp]
        exact Gr.app (.inl hbuf)
      · exact (by classical exact List.perm_iff_count.2 fun a => by simp only [List.count_append, List.count_cons, List.count_nil] <;> omega)
    · have hd := hJ.done hc
      have hsh := hJ.sh (by omega)
      have hcn := hJ.cnt
      have h5 : endE s a e ≠ 5 := by
        unfold endE
        by_cases he : e = 0
        · rw [if_neg (by simp [he]), if_neg (by omega)]; decide
        · rw [if_pos he]; exact hJ.five
      have d1 : (endE s a e == 5) = false := by simpa using h5
      have hE : Ext w [(bo, Obj.cells (roC (vp bw 0) (.slice none 0 0) id0 (.slice none 0 0) []).toArray 117 (0, 0)), (bw, Obj.cells #[vs s, vi 0, vi 0] 139 (0, 0))] ((bo, Obj.cells (roC (vp bw 0) v id0 (.slice none 0 0) []).toArray 117 (0, 0)) :: (bw, Obj.cells #[vs s, vi a, vi e] 139 (0, 0)) :: D) := by
        refine ⟨fun c hc => ?_, fun c hc => ?_⟩
        · simp only [keys, List.map_cons, List.map_nil, List.mem_cons, List.not_mem_nil, or_false] at hc ⊢
          rcases hc with h | h | h
          · exact .inl (.inl h)
          · exact .inl (.inr h)
          · exact .inr (hN.le c h)
        · simp only [keys, List.map_cons, List.map_nil, List.mem_cons, List.not_mem_nil, or_false] at hc ⊢
          rcases hc with h | h
          · exact .inl h
          · exact .inr (.inl h)
      have hF : Gr ((bo, Obj.cells (roC (vp bw 0) v id0 (.slice none 0 0) []).toArray 117 (0, 0)) :: (bw, Obj.cells #[vs s, vi a, vi e] 139 (0, 0)) :: D) 108 34 v l.length (l.map entC).flatten := hG.keep fun b o hb ho => by
        have := hN.le b (key_of_look ho)
        simp (disch := omega) only [look_other]
        exact ho
      unfold TreeRd
      rw [hd]
      refine Ow.go rfl ?_
      simp (disch := (first | assumption | omega | (simp only [lenS, lenT, UInt64.reduceToNat]; try omega))) only [↓Sx.S0, Sx.S1, Tryd.fx, uOX_1, Nat.reduceAdd, Nat.reducePow, Int.reducePow, Nat.reduceBEq, ↓reduceIte, UInt8.reduceToNat, UInt16.reduceToNat, UInt32.reduceToNat, UInt64.reduceToNat, Int.reduceToNat, d1]
      refine Ow.callFV rfl Tryd.call45 (fun w' hw' => REndE_spec bw s a e w' (hw'.has _ _ (List.mem_cons_of_mem _ List.mem_cons_self))) ?_
      by_cases he : endE s a e = 0
      · have d2 : (endE s a e == 0) = true := by simp [he]
        rw [d2]
        refine Ow.go rfl ?_
        simp (disch := (first | assumption | omega | (simp only [lenS, lenT, UInt64.reduceToNat]; try omega))) only [↓Sx.S0, Sx.S1, Tryd.fx, uOX_1, Nat.reduceAdd, Nat.reducePow, Int.reducePow, Nat.reduceBEq, ↓reduceIte, UInt8.reduceToNat, UInt16.reduceToNat, UInt32.reduceToNat, UInt64.reduceToNat, Int.reduceToNat, d2]
        refine Ow.callFV rfl Tryd.call100 (fun w' hw' => entries_spec v l w' (hG.slM (fun b o hm => hw'.has b o (by simp [hm])) rfl rfl entC_len) (by omega) hsh) ?_
        refine Ow.go rfl ?_
        simp (disch := (first | assumption | omega | (simp only [lenS, lenT, UInt64.reduceToNat]; try omega))) only [↓Sx.S0, Sx.S1, Tryd.fx, uOX_1, Nat.reduceAdd, Nat.reducePow, Int.reducePow, Nat.reduceBEq, ↓reduceIte, UInt8.reduceToNat, UInt16.reduceToNat, UInt32.reduceToNat, UInt64.reduceToNat, Int.reduceToNat]
        ((try with_reducible refine Cw.go [] ?_); (try simp (disch := (first | assumption | omega | (simp only [lenS, lenT, UInt64.reduceToNat]; try omega))) only [↓Sx.S0, Sx.S1, Tryd.fx, uOX_1, Nat.reduceAdd, Nat.reducePow, Int.reducePow, Nat.reduceBEq, ↓reduceIte, UInt8.reduceToNat, UInt16.reduceToNat, UInt32.reduceToNat, UInt64.reduceToNat, Int.reduceToNat]))
        refine ⟨_, (by simp (disch := (first | assumption | omega | (simp only [lenS, lenT, UInt64.reduceToNat]; try omega))) only [↓Sx.S0, Sx.S1, Tryd.fx, uOX_1, Nat.reduceAdd, Nat.reducePow, Int.reducePow, Nat.reduceBEq, ↓reduceIte, UInt8.reduceToNat, UInt16.reduceToNat, UInt32.reduceToNat, UInt64.reduceToNat, Int.reduceToNat]; rfl), ?_⟩
        exact ⟨hE, rfl, v, by simp only [look_same], hF⟩
      · have d2 : (endE s a e == 0) = false := by simpa using he
        rw [d2]
        refine Ow.go rfl ?_
        simp (disch := (first | assumption | omega | (simp only [lenS, lenT, UInt64.reduceToNat]; try omega))) only [↓Sx.S0, Sx.S1, Tryd.fx, uOX_1, Nat.reduceAdd, Nat.reducePow, Int.reducePow, Nat.reduceBEq, ↓reduceIte, UInt8.reduceToNat, UInt16.reduceToNat, UInt32.reduceToNat, UInt64.reduceToNat, Int.reduceToNat, d2]
        ((try with_reducible refine Cw.go [] ?_); (try simp (disch := (first | assumption | omega | (simp only [lenS, lenT, UInt64.reduceToNat]; try omega))) only [↓Sx.S0, Sx.S1, Tryd.fx, uOX_1, Nat.reduceAdd, Nat.reducePow, Int.reducePow, Nat.reduceBEq, ↓reduceIte, UInt8.reduceToNat, UInt16.reduceToNat, UInt32.reduceToNat, UInt64.reduceToNat, Int.reduceToNat]))
        refine ⟨_, (by simp (disch := (first | assumption | omega | (simp only [lenS, lenT, UInt64.reduceToNat]; try omega))) only [↓Sx.S0, Sx.S1, Tryd.fx, uOX_1, Nat.reduceAdd, Nat.reducePow, Int.reducePow, Nat.reduceBEq, ↓reduceIte, UInt8.reduceToNat, UInt16.reduceToNat, UInt32.reduceToNat, UInt64.reduceToNat, Int.reduceToNat]; rfl), ?_⟩
        exact ⟨hE, rfl, v, by simp only [look_same], hF⟩
end Go.Proofs
end
section
open Go Go.Proofs Go.Sx Go.StP
namespace Go.Proofs
set_option maxRecDepth 10000
set_option maxHeartbeats 400000
set_option linter.unusedSimpArgs false
set_option linter.defProp false
def uOY_1 := And.intro (And.intro (And.intro (@load_rd0) (And.intro (@load_rd1) (@load_rd2))) (And.intro (And.intro (@store_rd1) (@store_rd2)) (And.intro (@load_ro0) (@load_ro1)))) (And.intro (And.intro (@load_ro2) (And.intro (@load_ro34) (@store_ro2))) (And.intro (And.intro (@store_ro35) (@cells_com)) (And.intro (@rdIn_v8) (@rdIn_vi))))
structure CmH where
  g : Nat
  v : Value
  D : Heap
  H : Heap
/-- What a reader of commits leaves. -/
def ComRd (bo bw : Nat) (s : List UInt8) (v : Value) (D : Heap) : Prop :=
  v = .bool (endE s (comE s).2.1 (comE s).2.2 == 0 && comOk (comE s).1) ∧ ∃ p, Sx.look D bo = some (.cells (roC (vp bw 0) (.slice none 0 0) (comE s).1.tree p (comE s).1.text).toArray 117 (0, 0)) ∧ Gr D 40 32 p (comE s).1.par.length ((comE s).1.par.map idLC).flatten
theorem comRd_spec (bo bw : Nat) (s : List UInt8) (w : World) (hs : s.length < 100000) (hne : bo ≠ bw)
    (ho : w.heap[bo]? = some (.cells (roC (vp bw 0) (.slice none 0 0) id0 (.slice none 0 0) []).toArray 117 (0, 0))) (hr : w.heap[bw]? = some (.cells #[vs s, vi 0, vi 0] 139 (0, 0))) :
    Rets Tryd.prog 106 #[vp bo 0] w (XS w [(bo, Obj.cells (roC (vp bw 0) (.slice none 0 0) id0 (.slice none 0 0) []).toArray 117 (0, 0)), (bw, Obj.cells #[vs s, vi 0, vi 0] 139 (0, 0))] (ComRd bo bw s)) := by
  have hob : bo < w.heap.size := (Array.getElem?_eq_some_iff.1 ho).1
  have hwb : bw < w.heap.size := (Array.getElem?_eq_some_iff.1 hr).1
  refine Rets.enterX Tryd.func106 rfl (rs := [.tmp 2]) Tryd.results106 Tryd.ntmps106 (two_has ho hr) (by simp [keys, hne]) ?_
  simp only [List.size_toArray, List.length_cons, List.length_nil, Nat.reduceAdd, Nat.reduceSub, List.replicate_succ, List.replicate_zero, List.cons_append, List.nil_append]
  ((try with_reducible refine Cw.go [] ?_); (try simp (disch := (first | assumption | omega | (simp only [lenS, lenT, UInt64.reduceToNat]; try omega))) only [↓Sx.S0, Sx.S1, Tryd.fx, uOY_1, Nat.reduceAdd, Nat.reducePow, Int.reducePow, Nat.reduceBEq, ↓reduceIte, UInt8.reduceToNat, UInt16.reduceToNat, UInt32.reduceToNat, UInt64.reduceToNat, Int.reduceToNat]))
  refine Ow.callM rfl rfl Tryd.call87 (by simp [keys]) (fun w' hw' => RId_spec bw s 0 0 w' (Nat.zero_le _) (by omega) (hw'.has _ _ (List.mem_cons_of_mem _ List.mem_cons_self))) ?_
  have ip := idE_le (s := s) (a := 0) (e := 0) (Nat.zero_le _)
  have np := numR_le (e := (idR s 0 0).2.2) (most := 4) ip.2
  have nm := numR_mostE (s := s) (a := (idR s 0 0).2.1) (e := (idR s 0 0).2.2) (most := 4) (by decide)
  obtain ⟨T, hT⟩ : ∃ T, mkIdE (idR s 0 0).1 = T := ⟨_, rfl⟩
  have hiT : (idR s 0 0).1 = T.l := by rw [← hT, mkIdE_eq (idE_len s 0 0)]
  have hcE : comE s = (⟨T, (comP s).1, (comT s).1⟩, (comT s).2) := by unfold comE; rw [hT]
  rw [hiT]
  simp (disch := (first | assumption | omega | (simp only [lenS, lenT, UInt64.reduceToNat]; try omega))) only [setB_same, setB_other, List.cons_append, List.nil_append]
  refine Ow.go rfl ?_
  simp (disch := (first | assumption | omega | (simp only [lenS, lenT, UInt64.reduceToNat]; try omega))) only [↓Sx.S0, Sx.S1, Tryd.fx, uOY_1, Nat.reduceAdd, Nat.reducePow, Int.reducePow, Nat.reduceBEq, ↓reduceIte, UInt8.reduceToNat, UInt16.reduceToNat, UInt32.reduceToNat, UInt64.reduceToNat, Int.reduceToNat]
  refine Ow.callM rfl rfl Tryd.call43 (by simp [keys]) (fun w' hw' => RNumber_spec bw s _ _ 4 w' ip.2 (by omega) (hw'.has _ _ (List.mem_cons_of_mem _ List.mem_cons_self))) ?_
  have hP : comP s = idsGo s (numR s (idR s 0 0).2.1 (idR s 0 0).2.2 4).2.1 (numR s (idR s 0 0).2.1 (idR s 0 0).2.2 4).2.2 (numR s (idR s 0 0).2.1 (idR s 0 0).2.2 4).1.toNat := rfl
  generalize numR s (idR s 0 0).2.1 (idR s 0 0).2.2 4 = nr at *
  obtain ⟨cn, na, ne⟩ := nr
  simp only at np nm hP ⊢
  obtain ⟨k, rfl⟩ := Int.eq_ofNat_of_zero_le nm.1
  rw [Int.toNat_natCast] at hP
  simp (disch := (first | assumption | omega | (simp only [lenS, lenT, UInt64.reduceToNat]; try omega))) only [setB_same, setB_other, List.cons_append, List.nil_append]
  refine Ow.go rfl ?_
  simp (disch := (first | assumption | omega | (simp only [lenS, lenT, UInt64.reduceToNat]; try omega))) only [↓Sx.S0, Sx.S1, Tryd.fx, uOY_1, Nat.reduceAdd, Nat.reducePow, Int.reducePow, Nat.reduceBEq, ↓reduceIte, UInt8.reduceToNat, UInt16.reduceToNat, UInt32.reduceToNat, UInt64.reduceToNat, Int.reduceToNat]
  refine Cw.loopG (G := CmH) [18, 19, 20, 21, 22, 23, 24, 25, 26, 27, 28, 29, 30, 31, 32, 33, 34, 35, 17] (fun q => [(17, vi q.g)]) (fun q => q.H) (fun q => q.g ≤ k ∧ New w.heap.size q.D ∧ Gr q.D 40 32 q.v q.g ((idsGo s na ne q.g).1.map idLC).flatten ∧ ((bo, Obj.cells (roC (vp bw 0) (.slice none 0 0) T q.v []).toArray 117 (0, 0)) :: (bw, Obj.cells #[vs s, vi (idsGo s na ne q.g).2.1, vi (idsGo s na ne q.g).2.2] 139 (0, 0)) :: q.D).Perm q.H) (fun q => k - q.g) ⟨0, .slice none 0 0, [], [(bo, Obj.cells (roC (vp bw 0) (.slice none 0 0) T (.slice none 0 0) []).toArray 117 (0, 0)), (bw, Obj.cells #[vs s, vi na, vi ne] 139 (0, 0))]⟩ rfl rfl ?_ ?_
  · exact ⟨Nat.zero_le _, trivial, Gr.nl, List.Perm.refl _⟩
  · intro q jq hq
    simp only [overFrom, pin, setF_0, setF_s, List.contains_cons, List.contains_nil, Nat.reduceBEq, Bool.or_false, Bool.false_or, Bool.or_true, Bool.true_or, Nat.reduceAdd, ↓reduceIte, Bool.false_eq_true]
    obtain ⟨g, v, D, H0⟩ := q
    simp only at hq ⊢
    obtain ⟨hgk, hN, hG, hPm⟩ := hq
    refine Cw.permL hPm ?_
    clear hPm
    have gle := idsGo_le (e := ne) np.2 g
    by_cases hlt : g < k
    · have hgs : idsGo s na ne (g + 1) = ((idsGo s na ne g).1 ++ [mkIdE (idR s (idsGo s na ne g).2.1 (idsGo s na ne g).2.2).1], (idR s (idsGo s na ne g).2.1 (idsGo s na ne g).2.2).2) := rfl
      ((try with_reducible refine Cw.go [] ?_); (try simp (disch := (first | assumption | omega | (simp only [lenS, lenT, UInt64.reduceToNat]; try omega))) only [↓Sx.S0, Sx.S1, Tryd.fx, uOY_1, Nat.reduceAdd, Nat.reducePow, Int.reducePow, Nat.reduceBEq, ↓reduceIte, UInt8.reduceToNat, UInt16.reduceToNat, UInt32.reduceToNat, UInt64.reduceToNat, Int.reduceToNat]))
      refine Cw.regionS [bo] [0, 1, 2, 3, 4, 6, 7, 8, 5, 9, 10, 11, 12, 13, 14, 15, 16] [16] (by kernel_rfl) (by kernel_rfl) (by kernel_rfl) ?_
      simp only [nl_cons, ↓pickL_nil, ↓pickL_cons, ↓nthO_0, ↓nthO_s, consO_some]
      refine Ow.goQ ?_
      simp (disch := (first | assumption | omega | (simp only [lenS, lenT, UInt64.reduceToNat]; try omega))) only [↓Sx.S0, Sx.S1, Tryd.fx, uOY_1, Nat.reduceAdd, Nat.reducePow, Int.reducePow, Nat.reduceBEq, ↓reduceIte, UInt8.reduceToNat, UInt16.reduceToNat, UInt32.reduceToNat, UInt64.reduceToNat, Int.reduceToNat]
      refine Ow.soft rfl rfl rfl ?_
      refine Ow.callM rfl rfl Tryd.call87 (by simp [keys]) (fun w' hw' => RId_spec bw s (idsGo s na ne g).2.1 (idsGo s na ne g).2.2 w' gle (by omega) (hw'.has _ _ (List.mem_cons_of_mem _ List.mem_cons_self))) ?_
      with_reducible refine Ow.nil ?_
      refine ⟨fun b hb => read_setB_ne (by simp only [List.mem_cons, List.not_mem_nil, or_false] at hb; omega), ?_⟩
      have hil := idE_len s (idsGo s na ne g).2.1 (idsGo s na ne g).2.2
      obtain ⟨I, hI⟩ : ∃ I, mkIdE (idR s (idsGo s na ne g).2.1 (idsGo s na ne g).2.2).1 = I := ⟨_, rfl⟩
      have hiI : (idR s (idsGo s na ne g).2.1 (idsGo s na ne g).2.2).1 = I.l := by rw [← hI, mkIdE_eq hil]
      rw [hI] at hgs
      have hg1 : (idsGo s na ne (g + 1)).1 = (idsGo s na ne g).1 ++ [I] := by rw [hgs]
      have hg2 : (idsGo s na ne (g + 1)).2 = (idR s (idsGo s na ne g).2.1 (idsGo s na ne g).2.2).2 := by rw [hgs]
      rw [hiI, ← hg2]
      simp (disch := (first | assumption | omega | (simp only [lenS, lenT, UInt64.reduceToNat]; try omega))) only [setB_same, setB_other, List.cons_append, List.nil_append]
      refine Ow.soft rfl rfl rfl ?_
      refine Ow.buildSlice (e := 40) (a8 I.l) rfl rfl (slice_one (cs := I.l.map v8) Tryd.underlying52 aggIdE zrIdE (by decide) (by simp [I.h])) fun b13 hb13 hw13 => ?_
      with_reducible refine Ow.nil ?_
      refine ⟨readB_appR (by simp [keys]), ?_⟩
      try simp only [List.cons_append, List.nil_append]
      refine Ow.soft rfl rfl rfl ?_
      refine Ow.permL (M := D ++ [(bo, Obj.cells (roC (vp bw 0) (.slice none 0 0) T v []).toArray 117 (0, 0)), (bw, Obj.cells #[vs s, vi (idsGo s na ne (g + 1)).2.1, vi (idsGo s na ne (g + 1)).2.2] 139 (0, 0)), (b13, Obj.cells (a8 I.l) 40 (0, 0))]) (by classical exact List.perm_iff_count.2 fun a => by simp only [List.count_append, List.count_cons, List.count_nil] <;> omega) ?_
      refine Ow.appendX (e := 40) (k := 1) (new := idLC I) (X := D) v rfl rfl rfl rfl Tryd.underlying52 aggIdE (by kernel_rfl) zrIdE (by rw [cells_agg, size_a8, id0.h]) Tryd.underlying52 (by intro k h; cases h) hG (fun w' hw' => AppX.one1 (hw'.has b13 (.cells (a8 I.l) 40 (0, 0)) (by simp)) (idLC_len' I) (idLC_one' I)) (by omega) (by omega) (fun B v4 D4 hA4 hB4 hbuf hk1 hk2 hlk => ?_)
      have hN4 : New w.heap.size D4 := New.of_le fun q hq => by
        rcases hk2 q hq with h | h
        · exact hN.le q h
        · omega
      have ho4 : bo ∉ keys D4 := hN4.not hob
      with_reducible refine Ow.nil ?_
      refine ⟨fun q hq => ?_, ?_⟩
      · rw [List.mem_singleton] at hq
        subst hq
        rw [readB_appr ho4]
        simp only [read_same]
      have hlko : ∀ M, Sx.look (D4 ++ M) bo = Sx.look M bo := fun M => look_app_r ho4
      have hsbo : ∀ M x, setB (D4 ++ M) bo x = D4 ++ setB M bo x := fun M x => setB_appE ho4
      have st1 := fun a E => store_ro34 (vp bw 0) (.slice none 0 0) T v v4 [] a E hbuf.cell
      have hst7 : storeAtV (aggT Tryd.prog 52) (D4 ++ [(bo, Obj.cells (roC (vp bw 0) (.slice none 0 0) T v []).toArray 117 (0, 0)), (bw, Obj.cells #[vs s, vi (idsGo s na ne (g + 1)).2.1, vi (idsGo s na ne (g + 1)).2.2] 139 (0, 0)), (b13, Obj.cells (a8 I.l) 40 (0, 0))]) (vp bo 34) v4 = some (D4 ++ [(bo, Obj.cells (roC (vp bw 0) (.slice none 0 0) T v4 []).toArray 117 (0, 0)), (bw, Obj.cells #[vs s, vi (idsGo s na ne (g + 1)).2.1, vi (idsGo s na ne (g + 1)).2.2] 139 (0, 0)), (b13, Obj.cells (a8 I.l) 40 (0, 0))]) := by
        rw [Tryd.ag52, storeAt_p, hlko]
        simp (disch := omega) only [look_same, look_other, st1, upd_some, hsbo, setB_same, setB_other]
      refine Ow.goQ ?_
      simp (disch := (first | assumption | omega | (simp only [lenS, lenT, UInt64.reduceToNat]; try omega))) only [↓Sx.S0, Sx.S1, Tryd.fx, uOY_1, Nat.reduceAdd, Nat.reducePow, Int.reducePow, Nat.reduceBEq, ↓reduceIte, UInt8.reduceToNat, UInt16.reduceToNat, UInt32.reduceToNat, UInt64.reduceToNat, Int.reduceToNat]
      refine Ow.store rfl rfl rfl hst7 ?_
      refine Ow.go rfl ?_
      simp (disch := (first | assumption | omega | (simp only [lenS, lenT, UInt64.reduceToNat]; try omega))) only [↓Sx.S0, Sx.S1, Tryd.fx, uOY_1, Nat.reduceAdd, Nat.reducePow, Int.reducePow, Nat.reduceBEq, ↓reduceIte, UInt8.reduceToNat, UInt16.reduceToNat, UInt32.reduceToNat, UInt64.reduceToNat, Int.reduceToNat]
      refine Again.mk (CmH.mk (g + 1) v4 (D4 ++ [(b13, Obj.cells (a8 I.l) 40 (0, 0))]) _) (by show k - (g + 1) < k - g; omega) ⟨by show g + 1 ≤ k; omega, hN4.app ⟨by omega, trivial⟩, ?_, ?_⟩ rfl rfl
      · show Gr _ _ _ _ (g + 1) ((idsGo s na ne (g + 1)).1.map idLC).flatten
        rw [hg1, List.map_append, List.flatten_append, show ([I].map idLC).flatten = idLC I by simp]
        exact Gr.app (.inl hbuf)
      · exact (by classical exact List.perm_iff_count.2 fun a => by simp only [List.count_append, List.count_cons, List.count_nil] <;> omega)
    · obtain rfl : g = k := by omega
      rw [← hP] at hG
      rw [← hP] at gle
      rw [← hP]
      have tp := textE_le (e := (comP s).2.2) (most := 64) gle
      ((try with_reducible refine Cw.go [] ?_); (try simp (disch := (first | assumption | omega | (simp only [lenS, lenT, UInt64.reduceToNat]; try omega))) only [↓Sx.S0, Sx.S1, Tryd.fx, uOY_1, Nat.reduceAdd, Nat.reducePow, Int.reducePow, Nat.reduceBEq, ↓reduceIte, UInt8.reduceToNat, UInt16.reduceToNat, UInt32.reduceToNat, UInt64.reduceToNat, Int.reduceToNat]))
      refine Ow.callM rfl rfl Tryd.call83 (by simp [keys]) (fun w' hw' => RText_spec bw s (comP s).2.1 (comP s).2.2 64 w' gle (by omega) (hw'.has _ _ (List.mem_cons_of_mem _ List.mem_cons_self))) ?_
      simp (disch := (first | assumption | omega | (simp only [lenS, lenT, UInt64.reduceToNat]; try omega))) only [setB_same, setB_other, List.cons_append, List.nil_append]
      refine Ow.go rfl ?_
      simp (disch := (first | assumption | omega | (simp only [lenS, lenT, UInt64.reduceToNat]; try omega))) only [↓Sx.S0, Sx.S1, Tryd.fx, uOY_1, Nat.reduceAdd, Nat.reducePow, Int.reducePow, Nat.reduceBEq, ↓reduceIte, UInt8.reduceToNat, UInt16.reduceToNat, UInt32.reduceToNat, UInt64.reduceToNat, Int.reduceToNat]
      have hT2 : comT s = textR s (comP s).2.1 (comP s).2.2 64 := rfl
      have htl := textE_len s (comP s).2.1 (comP s).2.2 64
      rw [hT2] at hcE
      generalize textR s (comP s).2.1 (comP s).2.2 64 = tx at *
      obtain ⟨tt, a3, e3⟩ := tx
      simp only at tp hcE htl ⊢
      have hPl : (comP s).1.length = g := by rw [hP, idsGo_len]
      generalize (comP s).1 = pl at *
      have hC : ∀ w', Hp w ((bo, Obj.cells (roC (vp bw 0) (.slice none 0 0) T v tt).toArray 117 (0, 0)) :: (bw, Obj.cells #[vs s, vi a3, vi e3] 139 (0, 0)) :: D) w' → ComS w' (.agg (comC T v tt).toArray) ⟨T, pl, tt⟩ := fun w' hw' =>
        ⟨v, rfl, hG.slM (fun b o hm => hw'.has b o (by simp [hm])) hPl rfl idLC_len'⟩
      have hE : Ext w [(bo, Obj.cells (roC (vp bw 0) (.slice none 0 0) id0 (.slice none 0 0) []).toArray 117 (0, 0)), (bw, Obj.cells #[vs s, vi 0, vi 0] 139 (0, 0))] ((bo, Obj.cells (roC (vp bw 0) (.slice none 0 0) T v tt).toArray 117 (0, 0)) :: (bw, Obj.cells #[vs s, vi a3, vi e3] 139 (0, 0)) :: D) := by
        refine ⟨fun c hc => ?_, fun c hc => ?_⟩
        · simp only [keys, List.map_cons, List.map_nil, List.mem_cons, List.not_mem_nil, or_false] at hc ⊢
          rcases hc with h | h | h
          · exact .inl (.inl h)
          · exact .inl (.inr h)
          · exact .inr (hN.le c h)
        · simp only [keys, List.map_cons, List.map_nil, List.mem_cons, List.not_mem_nil, or_false] at hc ⊢
          rcases hc with h | h
          · exact .inl h
          · exact .inr (.inl h)
      have hF : Gr ((bo, Obj.cells (roC (vp bw 0) (.slice none 0 0) T v tt).toArray 117 (0, 0)) :: (bw, Obj.cells #[vs s, vi a3, vi e3] 139 (0, 0)) :: D) 40 32 v pl.length (pl.map idLC).flatten := by
        rw [hPl]
        exact hG.keep fun b o hb ho => by
          have := hN.le b (key_of_look ho)
          simp (disch := omega) only [look_other]
          exact ho
      unfold ComRd
      rw [hcE]
      refine Ow.callFV rfl Tryd.call45 (fun w' hw' => REndE_spec bw s a3 e3 w' (hw'.has _ _ (List.mem_cons_of_mem _ List.mem_cons_self))) ?_
      by_cases he : endE s a3 e3 = 0
      · have d2 : (endE s a3 e3 == 0) = true := by simp [he]
        rw [d2]
        refine Ow.go rfl ?_
        simp (disch := (first | assumption | omega | (simp only [lenS, lenT, UInt64.reduceToNat]; try omega))) only [↓Sx.S0, Sx.S1, Tryd.fx, uOY_1, Nat.reduceAdd, Nat.reducePow, Int.reducePow, Nat.reduceBEq, ↓reduceIte, UInt8.reduceToNat, UInt16.reduceToNat, UInt32.reduceToNat, UInt64.reduceToNat, Int.reduceToNat, d2]
        refine Ow.callFV rfl Tryd.call132 (fun w' hw' => commit_spec _ _ w' (hC w' hw') (by show pl.length < 1000000; omega) (by show tt.length < 1099511627776; omega)) ?_
        refine Ow.go rfl ?_
        simp (disch := (first | assumption | omega | (simp only [lenS, lenT, UInt64.reduceToNat]; try omega))) only [↓Sx.S0, Sx.S1, Tryd.fx, uOY_1, Nat.reduceAdd, Nat.reducePow, Int.reducePow, Nat.reduceBEq, ↓reduceIte, UInt8.reduceToNat, UInt16.reduceToNat, UInt32.reduceToNat, UInt64.reduceToNat, Int.reduceToNat]
        ((try with_reducible refine Cw.go [] ?_); (try simp (disch := (first | assumption | omega | (simp only [lenS, lenT, UInt64.reduceToNat]; try omega))) only [↓Sx.S0, Sx.S1, Tryd.fx, uOY_1, Nat.reduceAdd, Nat.reducePow, Int.reducePow, Nat.reduceBEq, ↓reduceIte, UInt8.reduceToNat, UInt16.reduceToNat, UInt32.reduceToNat, UInt64.reduceToNat, Int.reduceToNat]))
        refine ⟨_, (by simp (disch := (first | assumption | omega | (simp only [lenS, lenT, UInt64.reduceToNat]; try omega))) only [↓Sx.S0, Sx.S1, Tryd.fx, uOY_1, Nat.reduceAdd, Nat.reducePow, Int.reducePow, Nat.reduceBEq, ↓reduceIte, UInt8.reduceToNat, UInt16.reduceToNat, UInt32.reduceToNat, UInt64.reduceToNat, Int.reduceToNat]; rfl), ?_⟩
        exact ⟨hE, rfl, v, by simp only [look_same], hF⟩
      · have d2 : (endE s a3 e3 == 0) = false := by simpa using he
        rw [d2]
        refine Ow.go rfl ?_
        simp (disch := (first | assumption | omega | (simp only [lenS, lenT, UInt64.reduceToNat]; try omega))) only [↓Sx.S0, Sx.S1, Tryd.fx, uOY_1, Nat.reduceAdd, Nat.reducePow, Int.reducePow, Nat.reduceBEq, ↓reduceIte, UInt8.reduceToNat, UInt16.reduceToNat, UInt32.reduceToNat, UInt64.reduceToNat, Int.reduceToNat, d2]
        ((try with_reducible refine Cw.go [] ?_); (try simp (disch := (first | assumption | omega | (simp only [lenS, lenT, UInt64.reduceToNat]; try omega))) only [↓Sx.S0, Sx.S1, Tryd.fx, uOY_1, Nat.reduceAdd, Nat.reducePow, Int.reducePow, Nat.reduceBEq, ↓reduceIte, UInt8.reduceToNat, UInt16.reduceToNat, UInt32.reduceToNat, UInt64.reduceToNat, Int.reduceToNat]))
        refine ⟨_, (by simp (disch := (first | assumption | omega | (simp only [lenS, lenT, UInt64.reduceToNat]; try omega))) only [↓Sx.S0, Sx.S1, Tryd.fx, uOY_1, Nat.reduceAdd, Nat.reducePow, Int.reducePow, Nat.reduceBEq, ↓reduceIte, UInt8.reduceToNat, UInt16.reduceToNat, UInt32.reduceToNat, UInt64.reduceToNat, Int.reduceToNat]; rfl), ?_⟩
        exact ⟨hE, rfl, v, by simp only [look_same], hF⟩
end Go.Proofs
end
